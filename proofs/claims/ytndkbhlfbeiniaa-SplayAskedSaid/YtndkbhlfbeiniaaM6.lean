/-
  The helpers of a law's package: pick, same.
  The helpers of the laws of layer 3: items, awake.
  The helpers of the laws of layer 3: row.
  The helpers of the laws of layer 3: stands, awake.
-/
import Derived.Test.YtndkbhlfbeiniaaHpV
import Derived.Test.YtndkbhlfbeiniaaTab
import Derived.Test.YtndkbhlfbeiniaaM5
import Derived.Test.YtndkbhlfbeiniaaHpU
namespace Go.Proofs.Ytndkbhlfbeiniaa.Pkisthmuslaw03
open Go Go.Hp
set_option linter.all false
set_option maxRecDepth 100000

theorem pick_ok {H : Heap} {c n : Int} {K : Value → Heap → Prop} (h0 : -9223372036854775808 ≤ c) (h1 : c ≤ 9223372036854775807) (hn : 0 < n) (hk : K (.int .i64 (pickN c n)) H) :
    CallsH Try.prog 14 #[.int .i64 c, .int .i64 n] H K := by
  have en : (n = 0) = False := by simp; omega
  refine call14 (by simp) ?_
  simp only [Try.f14, Option.getD_some]
  by_cases hc : c < 0
  · have e1 : (c < 0) = True := by simp [hc]
    have e2 : IntKind.i64.wrap (c + 1) = c + 1 := wrap_i64 (by omega) (by omega)
    have e3 : IntKind.i64.wrap (0 - (c + 1)) = -(c + 1) := by rw [wrap_i64] <;> omega
    have e4 : (-(c + 1)).tmod n = pickN c n := by
      unfold pickN
      rw [if_pos hc, Int.tmod_eq_emod_of_nonneg (by omega)]
    repeat' (first
      | (with_reducible first | refine seq_normal ?_ | (refine hK _ _ ?_; clear hK K) | refine x_seq (fun K hK => ?_) | refine x_nil ?_ | refine x_block ?_ | refine x_skip ?_ | refine x_exit ?_ | refine x_ret ?_ | refine x_label ?_ | refine x_scope ?_ | (refine seq_ret ?_; clear hK K) | (refine seq_exit ?_; clear hK K) | refine block_normal ?_ | refine block_ret ?_ | refine block_exit ?_ | refine loop_exit ?_ | refine loop_ret ?_)
      | ((with_reducible refine x_reg_lit ?hq ?_); case hq => rfl)
      | ((first | (with_reducible first | refine x_op (fun K hK => ?_) | refine end_ret ?_ | refine end_normal ?_) | ((with_reducible refine x_guard_yes ?hy (fun K hK => ?_)); case hy => rfl)); simp only [go_sem, Int.cast_ofNat_Int, Nat.reduceEqDiff, Nat.reduceAdd, Nat.reduceMul, Nat.reduceLeDiff, Nat.reduceLT, Int.reduceLT, Int.reduceLE, Int.reduceEq, Int.reduceNeg, Int.reduceToNat, Nat.reducePow, reduceIte, reduceCtorEq, e1, e2, e3, e4, en])
      | ((with_reducible first | refine x_guard_no ?hy ?_ | refine x_cond_true ?hy ?_); case hy => rfl)
      | ((with_reducible first | refine x_guard_none ?hy ?_ | refine x_cond_false ?hy ?_); case hy => rfl)
      | ((with_reducible refine block_exit_ne ?hy ?_); case hy => decide))
    exact hk
  · have e1 : (c < 0) = False := by simp [hc]
    have e4 : c.tmod n = pickN c n := by
      unfold pickN
      rw [if_neg hc, Int.tmod_eq_emod_of_nonneg (by omega)]
    repeat' (first
      | (with_reducible first | refine seq_normal ?_ | (refine hK _ _ ?_; clear hK K) | refine x_seq (fun K hK => ?_) | refine x_nil ?_ | refine x_block ?_ | refine x_skip ?_ | refine x_exit ?_ | refine x_ret ?_ | refine x_label ?_ | refine x_scope ?_ | (refine seq_ret ?_; clear hK K) | (refine seq_exit ?_; clear hK K) | refine block_normal ?_ | refine block_ret ?_ | refine block_exit ?_ | refine loop_exit ?_ | refine loop_ret ?_)
      | ((with_reducible refine x_reg_lit ?hq ?_); case hq => rfl)
      | ((first | (with_reducible first | refine x_op (fun K hK => ?_) | refine end_ret ?_ | refine end_normal ?_) | ((with_reducible refine x_guard_yes ?hy (fun K hK => ?_)); case hy => rfl)); simp only [go_sem, Int.cast_ofNat_Int, Nat.reduceEqDiff, Nat.reduceAdd, Nat.reduceMul, Nat.reduceLeDiff, Nat.reduceLT, Int.reduceLT, Int.reduceLE, Int.reduceEq, Int.reduceNeg, Int.reduceToNat, Nat.reducePow, reduceIte, reduceCtorEq, e1, e4, en])
      | ((with_reducible first | refine x_guard_no ?hy ?_ | refine x_cond_true ?hy ?_); case hy => rfl)
      | ((with_reducible first | refine x_guard_none ?hy ?_ | refine x_cond_false ?hy ?_); case hy => rfl)
      | ((with_reducible refine block_exit_ne ?hy ?_); case hy => decide))
    exact hk
theorem same_ok {H : Heap} {B C : Option Nat} {v w : Value} {xs ys : List Int} {K : Value → Heap → Prop} (hv : Rds H B v xs) (hw : Rds H C w ys) (hl : xs.length ≤ 4611686018427387904) (fin : K (.bool (decide (xs = ys))) H) :
    CallsH Try.prog 36 #[v, w] H K := by
  obtain ⟨a, c, ev⟩ := hv.slice
  obtain ⟨a', c', ew⟩ := hw.slice
  refine call36 (by simp) ?_
  simp only [Try.f36, Option.getD_some]
  by_cases h : xs.length = ys.length
  · have t1 : ((xs.length : Int) != (ys.length : Int)) = false := by simp [h]
    rw [ev, ew]
    repeat' (first
      | (with_reducible first | refine seq_normal ?_ | (refine hK _ _ ?_; clear hK K) | refine x_seq (fun K hK => ?_) | refine x_nil ?_ | refine x_block ?_ | refine x_skip ?_ | refine x_exit ?_ | refine x_ret ?_ | refine x_label ?_ | refine x_scope ?_ | (refine seq_ret ?_; clear hK K) | (refine seq_exit ?_; clear hK K) | refine block_normal ?_ | refine block_ret ?_ | refine block_exit ?_ | refine loop_exit ?_ | refine loop_ret ?_)
      | ((with_reducible refine x_reg_lit ?hq ?_); case hq => rfl)
      | ((first | (with_reducible first | refine x_op (fun K hK => ?_) | refine end_ret ?_ | refine end_normal ?_) | ((with_reducible refine x_guard_yes ?hy (fun K hK => ?_)); case hy => rfl)); simp only [go_sem, Int.cast_ofNat_Int, Nat.reduceEqDiff, Nat.reduceAdd, Nat.reduceMul, Nat.reduceLeDiff, Nat.reduceLT, Int.reduceLT, Int.reduceLE, Int.reduceEq, Int.reduceNeg, Int.reduceToNat, Nat.reducePow, reduceIte, reduceCtorEq, t1])
      | ((with_reducible first | refine x_guard_no ?hy ?_ | refine x_cond_true ?hy ?_); case hy => rfl)
      | ((with_reducible first | refine x_guard_none ?hy ?_ | refine x_cond_false ?hy ?_); case hy => rfl)
      | ((with_reducible refine block_exit_ne ?hy ?_); case hy => decide))
    refine x_loop (fun m e' H' => ∃ i : Nat, H' = H ∧ e' 5 = .int .i64 (i : Nat) ∧ i ≤ xs.length ∧ xs.take i = ys.take i ∧ m = xs.length - i) xs.length ⟨0, rfl, rfl, Nat.zero_le _, rfl, rfl⟩ ?_
    rintro m e1 H1 ⟨i, rfl, i5, hi, heq, rfl⟩ hoff
    have i0 := (hoff 0 rfl).trans rfl
    have i1 := (hoff 1 rfl).trans rfl
    clear hoff
    by_cases hlt : i < xs.length
    · obtain ⟨x, hx⟩ : ∃ x, xs[i]? = some x := ⟨_, List.getElem?_eq_getElem hlt⟩
      obtain ⟨y, hy⟩ : ∃ y, ys[i]? = some y := ⟨_, List.getElem?_eq_getElem (by omega)⟩
      obtain ⟨b, o, c1, _, hv1, cx⟩ := hv.read hx
      obtain ⟨b2, o2, c2, _, hw1, cy⟩ := hw.read hy
      have i0' := i0.trans (ev.symm.trans hv1)
      have i1' := i1.trans (ew.symm.trans hw1)
      have hlt' : (i < ys.length) = True := by simp; omega
      have ewr : IntKind.i64.wrap ((i : Int) + 1) = ((i + 1 : Nat) : Int) := by rw [wrap_i64] <;> omega
      by_cases hxy : x = y
      · have t2 : (x != y) = false := by simp [hxy]
        repeat' (first
          | (with_reducible first | refine seq_normal ?_ | (refine hK _ _ ?_; clear hK K) | refine x_seq (fun K hK => ?_) | refine x_nil ?_ | refine x_block ?_ | refine x_skip ?_ | refine x_exit ?_ | refine x_ret ?_ | refine x_label ?_ | refine x_scope ?_ | (refine seq_ret ?_; clear hK K) | (refine seq_exit ?_; clear hK K) | refine block_normal ?_ | refine block_ret ?_ | refine block_exit ?_ | refine loop_exit ?_ | refine loop_ret ?_)
          | ((with_reducible refine x_reg_lit ?hq ?_); case hq => rfl)
          | ((first | (with_reducible first | refine x_op (fun K hK => ?_) | refine end_ret ?_ | refine end_normal ?_) | ((with_reducible refine x_guard_yes ?hy (fun K hK => ?_)); case hy => rfl)); simp only [go_sem, Int.cast_ofNat_Int, Nat.reduceEqDiff, Nat.reduceAdd, Nat.reduceMul, Nat.reduceLeDiff, Nat.reduceLT, Int.reduceLT, Int.reduceLE, Int.reduceEq, Int.reduceNeg, Int.reduceToNat, Nat.reducePow, reduceIte, reduceCtorEq, i5, i0', i1', hlt, hlt', cx, cy, t2, ewr])
          | ((with_reducible first | refine x_guard_no ?hy ?_ | refine x_cond_true ?hy ?_); case hy => rfl)
          | ((with_reducible first | refine x_guard_none ?hy ?_ | refine x_cond_false ?hy ?_); case hy => rfl)
          | ((with_reducible refine block_exit_ne ?hy ?_); case hy => decide))
        refine loop_normal (m' := xs.length - (i + 1)) (by omega) ⟨i + 1, rfl, rfl, by omega, ?_, rfl⟩
        rw [List.take_add_one, List.take_add_one, heq, hx, hy, hxy]
      · have t2 : (x != y) = true := by simp [hxy]
        repeat' (first
          | (with_reducible first | refine seq_normal ?_ | (refine hK _ _ ?_; clear hK K) | refine x_seq (fun K hK => ?_) | refine x_nil ?_ | refine x_block ?_ | refine x_skip ?_ | refine x_exit ?_ | refine x_ret ?_ | refine x_label ?_ | refine x_scope ?_ | (refine seq_ret ?_; clear hK K) | (refine seq_exit ?_; clear hK K) | refine block_normal ?_ | refine block_ret ?_ | refine block_exit ?_ | refine loop_exit ?_ | refine loop_ret ?_)
          | ((with_reducible refine x_reg_lit ?hq ?_); case hq => rfl)
          | ((first | (with_reducible first | refine x_op (fun K hK => ?_) | refine end_ret ?_ | refine end_normal ?_) | ((with_reducible refine x_guard_yes ?hy (fun K hK => ?_)); case hy => rfl)); simp only [go_sem, Int.cast_ofNat_Int, Nat.reduceEqDiff, Nat.reduceAdd, Nat.reduceMul, Nat.reduceLeDiff, Nat.reduceLT, Int.reduceLT, Int.reduceLE, Int.reduceEq, Int.reduceNeg, Int.reduceToNat, Nat.reducePow, reduceIte, reduceCtorEq, i5, i0', i1', hlt, hlt', cx, cy, t2])
          | ((with_reducible first | refine x_guard_no ?hy ?_ | refine x_cond_true ?hy ?_); case hy => rfl)
          | ((with_reducible first | refine x_guard_none ?hy ?_ | refine x_cond_false ?hy ?_); case hy => rfl)
          | ((with_reducible refine block_exit_ne ?hy ?_); case hy => decide))
        have : decide (xs = ys) = false := by
          rw [decide_eq_false_iff_not]
          intro e
          rw [e, hy] at hx
          exact hxy (Option.some.inj hx).symm
        rw [this] at fin
        exact fin
    · have hlt' : (i < xs.length) = False := by simp; omega
      repeat' (first
        | (with_reducible first | refine seq_normal ?_ | (refine hK _ _ ?_; clear hK K) | refine x_seq (fun K hK => ?_) | refine x_nil ?_ | refine x_block ?_ | refine x_skip ?_ | refine x_exit ?_ | refine x_ret ?_ | refine x_label ?_ | refine x_scope ?_ | (refine seq_ret ?_; clear hK K) | (refine seq_exit ?_; clear hK K) | refine block_normal ?_ | refine block_ret ?_ | refine block_exit ?_ | refine loop_exit ?_ | refine loop_ret ?_)
        | ((with_reducible refine x_reg_lit ?hq ?_); case hq => rfl)
        | ((first | (with_reducible first | refine x_op (fun K hK => ?_) | refine end_ret ?_ | refine end_normal ?_) | ((with_reducible refine x_guard_yes ?hy (fun K hK => ?_)); case hy => rfl)); simp only [go_sem, Int.cast_ofNat_Int, Nat.reduceEqDiff, Nat.reduceAdd, Nat.reduceMul, Nat.reduceLeDiff, Nat.reduceLT, Int.reduceLT, Int.reduceLE, Int.reduceEq, Int.reduceNeg, Int.reduceToNat, Nat.reducePow, reduceIte, reduceCtorEq, i5, i0, i1, hlt'])
        | ((with_reducible first | refine x_guard_no ?hy ?_ | refine x_cond_true ?hy ?_); case hy => rfl)
        | ((with_reducible first | refine x_guard_none ?hy ?_ | refine x_cond_false ?hy ?_); case hy => rfl)
        | ((with_reducible refine block_exit_ne ?hy ?_); case hy => decide))
      have : decide (xs = ys) = true := by
        rw [decide_eq_true_iff]
        have hi' : i = xs.length := by omega
        rw [hi', List.take_length] at heq
        rw [heq, h, List.take_length]
      rw [this] at fin
      exact fin
  · have t1 : ((xs.length : Int) != (ys.length : Int)) = true := by simp; omega
    have : decide (xs = ys) = false := by
      rw [decide_eq_false_iff_not]
      intro e; exact h (by rw [e])
    rw [this] at fin
    rw [ev, ew]
    repeat' (first
      | (with_reducible first | refine seq_normal ?_ | (refine hK _ _ ?_; clear hK K) | refine x_seq (fun K hK => ?_) | refine x_nil ?_ | refine x_block ?_ | refine x_skip ?_ | refine x_exit ?_ | refine x_ret ?_ | refine x_label ?_ | refine x_scope ?_ | (refine seq_ret ?_; clear hK K) | (refine seq_exit ?_; clear hK K) | refine block_normal ?_ | refine block_ret ?_ | refine block_exit ?_ | refine loop_exit ?_ | refine loop_ret ?_)
      | ((with_reducible refine x_reg_lit ?hq ?_); case hq => rfl)
      | ((first | (with_reducible first | refine x_op (fun K hK => ?_) | refine end_ret ?_ | refine end_normal ?_) | ((with_reducible refine x_guard_yes ?hy (fun K hK => ?_)); case hy => rfl)); simp only [go_sem, Int.cast_ofNat_Int, Nat.reduceEqDiff, Nat.reduceAdd, Nat.reduceMul, Nat.reduceLeDiff, Nat.reduceLT, Int.reduceLT, Int.reduceLE, Int.reduceEq, Int.reduceNeg, Int.reduceToNat, Nat.reducePow, reduceIte, reduceCtorEq, t1])
      | ((with_reducible first | refine x_guard_no ?hy ?_ | refine x_cond_true ?hy ?_); case hy => rfl)
      | ((with_reducible first | refine x_guard_none ?hy ?_ | refine x_cond_false ?hy ?_); case hy => rfl)
      | ((with_reducible refine block_exit_ne ?hy ?_); case hy => decide))
    exact fin
end Go.Proofs.Ytndkbhlfbeiniaa.Pkisthmuslaw03

namespace Go.Proofs.Ytndkbhlfbeiniaa
open Go Go.Hp Go.Sp
set_option linter.all false
set_option maxRecDepth 100000
set_option maxHeartbeats 1600000

/-- A slice of items that came in reads as zs. -/
def InItems (H : Heap) (a : Option Addr) (len : Nat) (zs : Nat → Sp.Item) : Prop :=
  ∀ i, i < len → ∃ p : Addr, a = some p ∧ hcell H (p.add (i * 3)) = some (.int .i64 (zs i).value) ∧ hcell H ⟨(p.add (i * 3)).block, (p.add (i * 3)).off + 1, none⟩ = some (.bool (zs i).counts) ∧ hcell H ⟨(p.add (i * 3)).block, (p.add (i * 3)).off + 2, none⟩ = some (.int .i64 (zs i).flags) ∧ Fits (zs i)
theorem add_block (a : Addr) (n : Nat) : (a.add n).block = a.block := by unfold Addr.add; split <;> rfl
theorem InItems.frame {H H' : Heap} {a : Option Addr} {len : Nat} {zs : Nat → Sp.Item} (h : InItems H a len zs) (hf : Fr (fun _ => False) H H') : InItems H' a len zs := fun i hi => by
  obtain ⟨p, h1, h2, h3, h4, h5⟩ := h i hi
  exact ⟨p, h1, by rw [hf.cell (hcell_lt h2) (fun h => h)]; exact h2, by rw [hf.cell (hcell_lt h3) (fun h => h)]; exact h3, by rw [hf.cell (hcell_lt h4) (fun h => h)]; exact h4, h5⟩
/-- A row of items of one's own. -/
def Its (H : Heap) (B : Option Nat) (v : Value) (xs : List Sp.Item) : Prop := Own H B v 3 xs.length (xs.flatMap Sp.Item.cells)
theorem cells_len (xs : List Sp.Item) : (xs.flatMap Sp.Item.cells).length = xs.length * 3 := by
  induction xs with
  | nil => rfl
  | cons x xs ih => rw [List.flatMap_cons, List.length_append, ih, List.length_cons]; simp [Sp.Item.cells]; omega
theorem cells_get : ∀ (xs : List Sp.Item) {i : Nat} {x : Sp.Item}, xs[i]? = some x → ∀ j, j < 3 → (xs.flatMap Sp.Item.cells)[i * 3 + j]? = x.cells[j]?
  | [], i, x, h, j, hj => by cases h
  | y :: xs, 0, x, h, j, hj => by
    obtain rfl := Option.some.inj h
    rw [List.flatMap_cons, Nat.zero_mul, Nat.zero_add, List.getElem?_append_left (by simp [Sp.Item.cells]; omega)]
  | y :: xs, i + 1, x, h, j, hj => by
    rw [List.flatMap_cons, List.getElem?_append_right (by simp [Sp.Item.cells]; omega)]
    have e : (i + 1) * 3 + j - y.cells.length = i * 3 + j := by simp [Sp.Item.cells]; omega
    rw [e]
    exact cells_get xs (by simpa using h) j hj
theorem Its.frame {S : Nat → Prop} {H H' : Heap} {B : Option Nat} {v : Value} {xs : List Sp.Item} (h : Its H B v xs) (hf : Fr S H H') (hb : ∀ g, B = some g → ¬ S g) : Its H' B v xs := Own.frame h hf hb
theorem Its.slice {H : Heap} {B : Option Nat} {v : Value} {xs : List Sp.Item} (h : Its H B v xs) : ∃ a c, v = .slice a xs.length c := by
  obtain ⟨_, h | ⟨g', c, rest, h1, h2, h3, h4, h5⟩⟩ := h
  · obtain ⟨_, h2, h3⟩ := h
    exact ⟨none, 0, by rw [h2, h3]⟩
  · exact ⟨_, _, h2⟩
theorem Its.read {H : Heap} {B : Option Nat} {v : Value} {xs : List Sp.Item} (h : Its H B v xs) {i : Nat} {x : Sp.Item} (hi : xs[i]? = some x) :
    ∃ g c, B = some g ∧ v = .slice (some ⟨g, 0, none⟩) xs.length c ∧ hcell H ⟨g, i * 3, none⟩ = some (.int .i64 x.value) ∧ hcell H ⟨g, i * 3 + 1, none⟩ = some (.bool x.counts) ∧ hcell H ⟨g, i * 3 + 2, none⟩ = some (.int .i64 x.flags) := by
  obtain ⟨hl, h | ⟨g', c, rest, h1, h2, h3, h4, h5⟩⟩ := h
  · have : xs = [] := List.length_eq_zero_iff.1 h.2.2
    rw [this] at hi; cases hi
  · have hlt := (List.getElem?_eq_some_iff.1 hi).1
    have get : ∀ j, j < 3 → ((xs.flatMap Sp.Item.cells) ++ rest)[i * 3 + j]? = x.cells[j]? := fun j hj => by
      rw [List.getElem?_append_left (by rw [cells_len]; omega)]
      exact cells_get xs hi j hj
    exact ⟨g', c, h1, h2, h3.cellOf (get 0 (by omega)), h3.cellOf (get 1 (by omega)), h3.cellOf (get 2 (by omega))⟩
theorem Its.nil (H : Heap) : Its H none (.slice none 0 0) [] := ⟨rfl, .inl ⟨rfl, rfl, rfl⟩⟩
theorem Its.lt {H : Heap} {B : Option Nat} {v : Value} {xs : List Sp.Item} (h : Its H B v xs) {g : Nat} (hg : B = some g) : g < H.size := by
  obtain ⟨_, h | ⟨g', c, rest, h1, h2, h3, h4, h5⟩⟩ := h
  · rw [h.1] at hg; cases hg
  · rw [h1] at hg
    obtain rfl := Option.some.inj hg
    exact h3.lt
theorem append_item {s : Value} {H : Heap} {B : Option Nat} {b d : Nat} {xs : List Sp.Item} {x : Sp.Item} {K : Value → Heap → Prop}
    (h : Its H B s xs) (hr : Go.Hp.readL H ⟨b, 0, none⟩ 0 3 = some x.cells) (hl : xs.length ≤ 100000)
    (hk : ∀ v' H' B', Its H' B' v' (xs ++ [x]) → Fr (fun b => B = some b) H H' → (B' = B ∨ ∃ g, B' = some g ∧ H.size ≤ g) → K v' H') : appendX Try.prog 22 s (.slice (some ⟨b, 0, none⟩) 1 d) H K := by
  refine append_own elems22 tl31 h (m := 1) (.inl ⟨_, _, rfl, hr⟩) ?_ (by decide) (by simp only []; omega) rfl rfl ?_
  · intro v hv
    simp only [Sp.Item.cells, List.mem_cons, List.not_mem_nil, or_false] at hv
    rcases hv with rfl | rfl | rfl <;> rfl
  · intro v' H' B' ho hf hB
    exact hk v' H' B' (by unfold Its; simpa using ho) hf hB
def norm (x : Sp.Item) : Sp.Item := ⟨pickN x.value 2199023255553 - 1099511627776, x.counts, pickN x.flags 256⟩
theorem norm_may (x : Sp.Item) : May (norm x) := by
  have h1 := pickN_range x.value (n := 2199023255553) (by omega)
  have h2 := pickN_range x.flags (n := 256) (by omega)
  exact ⟨by simp only [norm]; omega, by simp only [norm]; omega, h2.1, h2.2⟩
theorem May.fits {x : Sp.Item} (h : May x) : Fits x := by
  have := h.lo; have := h.hi; have := h.f0; have := h.f1
  exact ⟨⟨by omega, by omega⟩, by omega, by omega⟩
theorem items_ok {H : Heap} {a : Option Addr} {len cap most : Nat} {zs : Nat → Sp.Item} {K : Value → Heap → Prop} (hin : InItems H a len zs) (hl : len ≤ 9223372036854775807) (hm : most ≤ 1000) (hm1 : 1 ≤ most)
    (fin : ∀ H' B v xs, Its H' B v xs → (∀ b, B = some b → H.size ≤ b) → 1 ≤ xs.length → xs.length ≤ most → (∀ x ∈ xs, May x) → Fr (fun _ => False) H H' → K v H') :
    CallsH Try.prog 13 #[.slice a len cap, .int .i64 (most : Nat)] H K := by
  refine call13 (by simp) ?_
  simp only [Try.f13, Option.getD_some]
  repeat' (first
    | (with_reducible first | refine seq_normal ?_ | (refine hK _ _ ?_; clear hK K) | refine x_seq (fun K hK => ?_) | refine x_nil ?_ | refine x_block ?_ | refine x_skip ?_ | refine x_exit ?_ | refine x_ret ?_ | refine x_label ?_ | refine x_scope ?_ | (refine seq_ret ?_; clear hK K) | (refine seq_exit ?_; clear hK K) | refine block_normal ?_ | refine block_ret ?_ | refine block_exit ?_ | refine loop_exit ?_ | refine loop_ret ?_)
    | ((with_reducible refine x_reg_lit ?hq ?_); case hq => rfl)
    | ((first | (with_reducible first | refine x_op (fun K hK => ?_) | refine end_ret ?_ | refine end_normal ?_) | ((with_reducible refine x_guard_yes ?hy (fun K hK => ?_)); case hy => rfl)); simp only [go_sem, Int.cast_ofNat_Int, Nat.reduceEqDiff, Nat.reduceAdd, Nat.reduceMul, Nat.reduceLeDiff, Nat.reduceLT, Int.reduceLT, Int.reduceLE, Int.reduceEq, Int.reduceNeg, Int.reduceToNat, Nat.reducePow, reduceIte, reduceCtorEq])
    | ((with_reducible first | refine x_guard_no ?hy ?_ | refine x_cond_true ?hy ?_); case hy => rfl)
    | ((with_reducible first | refine x_guard_none ?hy ?_ | refine x_cond_false ?hy ?_); case hy => rfl)
    | ((with_reducible refine block_exit_ne ?hy ?_); case hy => decide))
  refine x_loop (fun m e' H' => ∃ (i : Nat) (B : Option Nat) (v : Value) (xs : List Sp.Item), e' 5 = v ∧ e' 6 = .int .i64 (i : Nat) ∧ Its H' B v xs ∧ (∀ b, B = some b → H.size ≤ b) ∧ xs.length = i ∧ i ≤ most ∧ i ≤ len ∧ (∀ x ∈ xs, May x) ∧ Fr (fun _ => False) H H' ∧ m = most - i)
    most ⟨0, none, _, [], rfl, rfl, Its.nil H, (fun b h => by cases h), rfl, by omega, by omega, (fun x h => by cases h), .refl _ _, rfl⟩ ?_
  rintro m e1 H1 ⟨i, B, v, xs, i5, i6, hv, hB, hxl, him, hil, hmay, hf1, rfl⟩ hoff
  have i0 := (hoff 0 rfl).trans rfl
  have i1 := (hoff 1 rfl).trans rfl
  clear hoff
  by_cases hgo : i < len ∧ i < most
  · have t1 : (i < len) = True := by simp [hgo.1]
    have t2 : (i < most) = True := by simp [hgo.2]
    obtain ⟨p, rfl, c0, c1, c2, hfit⟩ := (hin.frame hf1) i hgo.1
    have w0 := okW_top (H := H1) (T := 31) (cs := #[.int .i64 0, .bool false, .int .i64 0]) (b := H1.size) (i := 0) rfl (by decide)
    have ew : IntKind.i64.wrap ((i : Int) + 1) = ((i + 1 : Nat) : Int) := by rw [wrap_i64] <;> omega
    have p1 := pickN_range (zs i).value (n := 2199023255553) (by omega)
    have p2 := pickN_range (zs i).flags (n := 256) (by omega)
    have ew2 : IntKind.i64.wrap (pickN (zs i).value 2199023255553 - 1099511627776) = pickN (zs i).value 2199023255553 - 1099511627776 := by rw [wrap_i64] <;> omega
    have hs1 := hf1.size
    repeat' (first
      | (with_reducible first | refine seq_normal ?_ | (refine hK _ _ ?_; clear hK K) | refine x_seq (fun K hK => ?_) | refine x_nil ?_ | refine x_block ?_ | refine x_skip ?_ | refine x_exit ?_ | refine x_ret ?_ | refine x_label ?_ | refine x_scope ?_ | (refine seq_ret ?_; clear hK K) | (refine seq_exit ?_; clear hK K) | refine block_normal ?_ | refine block_ret ?_ | refine block_exit ?_ | refine loop_exit ?_ | refine loop_ret ?_)
      | ((with_reducible refine x_reg_lit ?hq ?_); case hq => rfl)
      | ((first | (with_reducible first | refine x_op (fun K hK => ?_) | refine end_ret ?_ | refine end_normal ?_) | ((with_reducible refine x_guard_yes ?hy (fun K hK => ?_)); case hy => rfl)); simp only [go_sem, Int.cast_ofNat_Int, Nat.reduceEqDiff, Nat.reduceAdd, Nat.reduceMul, Nat.reduceLeDiff, Nat.reduceLT, Int.reduceLT, Int.reduceLE, Int.reduceEq, Int.reduceNeg, Int.reduceToNat, Nat.reducePow, reduceIte, reduceCtorEq, i0, i1, i5, i6, t1, t2, c0, c1, c2, hcell_push, hcell_top, okW_push, okW_top, hcell_hset_ne, hcell_hset_off, hcell_hset_eq, okW_hset, hset_size, Array.size_push, Nat.lt_add_one, ne_add_one, add_one_ne, Nat.add_assoc, add_same, add_lt_same, Nat.reduceEqDiff, lt_add_k, add_k_ne, ne_add_k])
      | ((with_reducible first | refine x_guard_no ?hy ?_ | refine x_cond_true ?hy ?_); case hy => rfl)
      | ((with_reducible first | refine x_guard_none ?hy ?_ | refine x_cond_false ?hy ?_); case hy => rfl)
      | ((with_reducible refine block_exit_ne ?hy ?_); case hy => decide))
    refine x_drawS [12, 13] [0, 1, 2, 5, 6, 7, 8, 3, 4, 9, 10, 11, 12, 13] rfl (by kernel_rfl) (Cells [(H1.size, 0, .int .i64 (zs i).value), (H1.size, 1, .bool (zs i).counts), (H1.size, 2, .int .i64 (zs i).flags)]) (by simp only [go_sem, Int.cast_ofNat_Int, Nat.reduceEqDiff, Nat.reduceAdd, Nat.reduceMul, Nat.reduceLeDiff, Nat.reduceLT, Int.reduceLT, Int.reduceLE, Int.reduceEq, Int.reduceNeg, Int.reduceToNat, Nat.reducePow, reduceIte, reduceCtorEq, Cells, and_true, hcell_push, hcell_top, okW_push, okW_top, hcell_hset_ne, hcell_hset_off, hcell_hset_eq, okW_hset, hset_size, Array.size_push, Nat.lt_add_one, ne_add_one, add_one_ne, Nat.add_assoc, add_same, add_lt_same, Nat.reduceEqDiff, lt_add_k, add_k_ne, ne_add_k]) ?_
    repeat' (first
      | (with_reducible refine xs_nil ?_)
      | ((with_reducible apply xs_rd); (case hi => rfl); (case hr => rfl); (case h1 => intro H' hS'; (try simp only [Cells, and_true] at hS'); simp only [go_sem, Int.cast_ofNat_Int, Nat.reduceEqDiff, Nat.reduceAdd, Nat.reduceMul, Nat.reduceLeDiff, Nat.reduceLT, Int.reduceLT, Int.reduceLE, Int.reduceEq, Int.reduceNeg, Int.reduceToNat, Nat.reducePow, reduceIte, reduceCtorEq, i5, hcell_push, hcell_top, okW_push, okW_top, hcell_hset_ne, hcell_hset_off, hcell_hset_eq, okW_hset, hset_size, Array.size_push, Nat.lt_add_one, ne_add_one, add_one_ne, Nat.add_assoc, add_same, add_lt_same, Nat.reduceEqDiff, lt_add_k, add_k_ne, ne_add_k, hS']; rfl))
      | ((with_reducible apply xs_guard_yes); (case hi => rfl); (case hr => rfl); (case hy => rfl); (case h1 => intro H' hS'; (try simp only [Cells, and_true] at hS'); simp only [go_sem, Int.cast_ofNat_Int, Nat.reduceEqDiff, Nat.reduceAdd, Nat.reduceMul, Nat.reduceLeDiff, Nat.reduceLT, Int.reduceLT, Int.reduceLE, Int.reduceEq, Int.reduceNeg, Int.reduceToNat, Nat.reducePow, reduceIte, reduceCtorEq, i5, hcell_push, hcell_top, okW_push, okW_top, hcell_hset_ne, hcell_hset_off, hcell_hset_eq, okW_hset, hset_size, Array.size_push, Nat.lt_add_one, ne_add_one, add_one_ne, Nat.add_assoc, add_same, add_lt_same, Nat.reduceEqDiff, lt_add_k, add_k_ne, ne_add_k, hS']; rfl))
      | ((with_reducible refine xs_tail ?hz ?_); case hz => rfl)
      | ((with_reducible refine xs_keep ?hz ?_); case hz => first | assumption | (simp only [go_sem, Int.cast_ofNat_Int, Nat.reduceEqDiff, Nat.reduceAdd, Nat.reduceMul, Nat.reduceLeDiff, Nat.reduceLT, Int.reduceLT, Int.reduceLE, Int.reduceEq, Int.reduceNeg, Int.reduceToNat, Nat.reducePow, reduceIte, reduceCtorEq, Cells, and_true, i5, hcell_push, hcell_top, okW_push, okW_top, hcell_hset_ne, hcell_hset_off, hcell_hset_eq, okW_hset, hset_size, Array.size_push, Nat.lt_add_one, ne_add_one, add_one_ne, Nat.add_assoc, add_same, add_lt_same, Nat.reduceEqDiff, lt_add_k, add_k_ne, ne_add_k]))
      | ((with_reducible apply xs_guard_no); (case hi => rfl); (case hy => rfl); (case hS => assumption))
      | ((first | ((with_reducible apply xs_op); (case hi => rfl)) | ((with_reducible apply xs_op_yes); (case hi => rfl); (case hy => rfl))); (case hr => rfl); intro K hK; simp only [go_sem, Int.cast_ofNat_Int, Nat.reduceEqDiff, Nat.reduceAdd, Nat.reduceMul, Nat.reduceLeDiff, Nat.reduceLT, Int.reduceLT, Int.reduceLE, Int.reduceEq, Int.reduceNeg, Int.reduceToNat, Nat.reducePow, reduceIte, reduceCtorEq, i5, hcell_push, hcell_top, okW_push, okW_top, hcell_hset_ne, hcell_hset_off, hcell_hset_eq, okW_hset, hset_size, Array.size_push, Nat.lt_add_one, ne_add_one, add_one_ne, Nat.add_assoc, add_same, add_lt_same, Nat.reduceEqDiff, lt_add_k, add_k_ne, ne_add_k])
      | (with_reducible first | refine seq_normal ?_ | (refine hK _ _ ?_; clear hK K) | refine x_seq (fun K hK => ?_) | refine x_nil ?_ | refine x_block ?_ | refine x_skip ?_ | refine x_exit ?_ | refine x_ret ?_ | refine x_label ?_ | refine x_scope ?_ | (refine seq_ret ?_; clear hK K) | (refine seq_exit ?_; clear hK K) | refine block_normal ?_ | refine block_ret ?_ | refine block_exit ?_ | refine loop_exit ?_ | refine loop_ret ?_)
      | ((with_reducible refine x_reg_lit ?hq ?_); case hq => rfl)
      | ((first | (with_reducible first | refine x_op (fun K hK => ?_) | refine end_ret ?_ | refine end_normal ?_) | ((with_reducible refine x_guard_yes ?hy (fun K hK => ?_)); case hy => rfl)); simp only [go_sem, Int.cast_ofNat_Int, Nat.reduceEqDiff, Nat.reduceAdd, Nat.reduceMul, Nat.reduceLeDiff, Nat.reduceLT, Int.reduceLT, Int.reduceLE, Int.reduceEq, Int.reduceNeg, Int.reduceToNat, Nat.reducePow, reduceIte, reduceCtorEq, i5, hcell_push, hcell_top, okW_push, okW_top, hcell_hset_ne, hcell_hset_off, hcell_hset_eq, okW_hset, hset_size, Array.size_push, Nat.lt_add_one, ne_add_one, add_one_ne, Nat.add_assoc, add_same, add_lt_same, Nat.reduceEqDiff, lt_add_k, add_k_ne, ne_add_k])
      | ((with_reducible first | refine x_guard_no ?hy ?_ | refine x_cond_true ?hy ?_); case hy => rfl)
      | ((with_reducible first | refine x_guard_none ?hy ?_ | refine x_cond_false ?hy ?_); case hy => rfl)
      | ((with_reducible refine block_exit_ne ?hy ?_); case hy => decide))
    refine Pkisthmuslaw03.pick_ok hfit.1.1 hfit.1.2 (by omega) ?_
    repeat' (first
      | (with_reducible refine xs_nil ?_)
      | ((with_reducible apply xs_rd); (case hi => rfl); (case hr => rfl); (case h1 => intro H' hS'; (try simp only [Cells, and_true] at hS'); simp only [go_sem, Int.cast_ofNat_Int, Nat.reduceEqDiff, Nat.reduceAdd, Nat.reduceMul, Nat.reduceLeDiff, Nat.reduceLT, Int.reduceLT, Int.reduceLE, Int.reduceEq, Int.reduceNeg, Int.reduceToNat, Nat.reducePow, reduceIte, reduceCtorEq, i5, ew2, hcell_push, hcell_top, okW_push, okW_top, hcell_hset_ne, hcell_hset_off, hcell_hset_eq, okW_hset, hset_size, Array.size_push, Nat.lt_add_one, ne_add_one, add_one_ne, Nat.add_assoc, add_same, add_lt_same, Nat.reduceEqDiff, lt_add_k, add_k_ne, ne_add_k, hS']; rfl))
      | ((with_reducible apply xs_guard_yes); (case hi => rfl); (case hr => rfl); (case hy => rfl); (case h1 => intro H' hS'; (try simp only [Cells, and_true] at hS'); simp only [go_sem, Int.cast_ofNat_Int, Nat.reduceEqDiff, Nat.reduceAdd, Nat.reduceMul, Nat.reduceLeDiff, Nat.reduceLT, Int.reduceLT, Int.reduceLE, Int.reduceEq, Int.reduceNeg, Int.reduceToNat, Nat.reducePow, reduceIte, reduceCtorEq, i5, ew2, hcell_push, hcell_top, okW_push, okW_top, hcell_hset_ne, hcell_hset_off, hcell_hset_eq, okW_hset, hset_size, Array.size_push, Nat.lt_add_one, ne_add_one, add_one_ne, Nat.add_assoc, add_same, add_lt_same, Nat.reduceEqDiff, lt_add_k, add_k_ne, ne_add_k, hS']; rfl))
      | ((with_reducible refine xs_tail ?hz ?_); case hz => rfl)
      | ((with_reducible refine xs_keep ?hz ?_); case hz => first | assumption | (simp only [go_sem, Int.cast_ofNat_Int, Nat.reduceEqDiff, Nat.reduceAdd, Nat.reduceMul, Nat.reduceLeDiff, Nat.reduceLT, Int.reduceLT, Int.reduceLE, Int.reduceEq, Int.reduceNeg, Int.reduceToNat, Nat.reducePow, reduceIte, reduceCtorEq, Cells, and_true, i5, ew2, hcell_push, hcell_top, okW_push, okW_top, hcell_hset_ne, hcell_hset_off, hcell_hset_eq, okW_hset, hset_size, Array.size_push, Nat.lt_add_one, ne_add_one, add_one_ne, Nat.add_assoc, add_same, add_lt_same, Nat.reduceEqDiff, lt_add_k, add_k_ne, ne_add_k]))
      | ((with_reducible apply xs_guard_no); (case hi => rfl); (case hy => rfl); (case hS => assumption))
      | ((first | ((with_reducible apply xs_op); (case hi => rfl)) | ((with_reducible apply xs_op_yes); (case hi => rfl); (case hy => rfl))); (case hr => rfl); intro K hK; simp only [go_sem, Int.cast_ofNat_Int, Nat.reduceEqDiff, Nat.reduceAdd, Nat.reduceMul, Nat.reduceLeDiff, Nat.reduceLT, Int.reduceLT, Int.reduceLE, Int.reduceEq, Int.reduceNeg, Int.reduceToNat, Nat.reducePow, reduceIte, reduceCtorEq, i5, ew2, hcell_push, hcell_top, okW_push, okW_top, hcell_hset_ne, hcell_hset_off, hcell_hset_eq, okW_hset, hset_size, Array.size_push, Nat.lt_add_one, ne_add_one, add_one_ne, Nat.add_assoc, add_same, add_lt_same, Nat.reduceEqDiff, lt_add_k, add_k_ne, ne_add_k])
      | (with_reducible first | refine seq_normal ?_ | (refine hK _ _ ?_; clear hK K) | refine x_seq (fun K hK => ?_) | refine x_nil ?_ | refine x_block ?_ | refine x_skip ?_ | refine x_exit ?_ | refine x_ret ?_ | refine x_label ?_ | refine x_scope ?_ | (refine seq_ret ?_; clear hK K) | (refine seq_exit ?_; clear hK K) | refine block_normal ?_ | refine block_ret ?_ | refine block_exit ?_ | refine loop_exit ?_ | refine loop_ret ?_)
      | ((with_reducible refine x_reg_lit ?hq ?_); case hq => rfl)
      | ((first | (with_reducible first | refine x_op (fun K hK => ?_) | refine end_ret ?_ | refine end_normal ?_) | ((with_reducible refine x_guard_yes ?hy (fun K hK => ?_)); case hy => rfl)); simp only [go_sem, Int.cast_ofNat_Int, Nat.reduceEqDiff, Nat.reduceAdd, Nat.reduceMul, Nat.reduceLeDiff, Nat.reduceLT, Int.reduceLT, Int.reduceLE, Int.reduceEq, Int.reduceNeg, Int.reduceToNat, Nat.reducePow, reduceIte, reduceCtorEq, i5, ew2, hcell_push, hcell_top, okW_push, okW_top, hcell_hset_ne, hcell_hset_off, hcell_hset_eq, okW_hset, hset_size, Array.size_push, Nat.lt_add_one, ne_add_one, add_one_ne, Nat.add_assoc, add_same, add_lt_same, Nat.reduceEqDiff, lt_add_k, add_k_ne, ne_add_k])
      | ((with_reducible first | refine x_guard_no ?hy ?_ | refine x_cond_true ?hy ?_); case hy => rfl)
      | ((with_reducible first | refine x_guard_none ?hy ?_ | refine x_cond_false ?hy ?_); case hy => rfl)
      | ((with_reducible refine block_exit_ne ?hy ?_); case hy => decide))
    refine Pkisthmuslaw03.pick_ok hfit.2.1 hfit.2.2 (by omega) ?_
    repeat' (first
      | (with_reducible refine xs_nil ?_)
      | ((with_reducible apply xs_rd); (case hi => rfl); (case hr => rfl); (case h1 => intro H' hS'; (try simp only [Cells, and_true] at hS'); simp only [go_sem, Int.cast_ofNat_Int, Nat.reduceEqDiff, Nat.reduceAdd, Nat.reduceMul, Nat.reduceLeDiff, Nat.reduceLT, Int.reduceLT, Int.reduceLE, Int.reduceEq, Int.reduceNeg, Int.reduceToNat, Nat.reducePow, reduceIte, reduceCtorEq, i5, hcell_push, hcell_top, okW_push, okW_top, hcell_hset_ne, hcell_hset_off, hcell_hset_eq, okW_hset, hset_size, Array.size_push, Nat.lt_add_one, ne_add_one, add_one_ne, Nat.add_assoc, add_same, add_lt_same, Nat.reduceEqDiff, lt_add_k, add_k_ne, ne_add_k, hS']; rfl))
      | ((with_reducible apply xs_guard_yes); (case hi => rfl); (case hr => rfl); (case hy => rfl); (case h1 => intro H' hS'; (try simp only [Cells, and_true] at hS'); simp only [go_sem, Int.cast_ofNat_Int, Nat.reduceEqDiff, Nat.reduceAdd, Nat.reduceMul, Nat.reduceLeDiff, Nat.reduceLT, Int.reduceLT, Int.reduceLE, Int.reduceEq, Int.reduceNeg, Int.reduceToNat, Nat.reducePow, reduceIte, reduceCtorEq, i5, hcell_push, hcell_top, okW_push, okW_top, hcell_hset_ne, hcell_hset_off, hcell_hset_eq, okW_hset, hset_size, Array.size_push, Nat.lt_add_one, ne_add_one, add_one_ne, Nat.add_assoc, add_same, add_lt_same, Nat.reduceEqDiff, lt_add_k, add_k_ne, ne_add_k, hS']; rfl))
      | ((with_reducible refine xs_tail ?hz ?_); case hz => rfl)
      | ((with_reducible refine xs_keep ?hz ?_); case hz => first | assumption | (simp only [go_sem, Int.cast_ofNat_Int, Nat.reduceEqDiff, Nat.reduceAdd, Nat.reduceMul, Nat.reduceLeDiff, Nat.reduceLT, Int.reduceLT, Int.reduceLE, Int.reduceEq, Int.reduceNeg, Int.reduceToNat, Nat.reducePow, reduceIte, reduceCtorEq, Cells, and_true, i5, hcell_push, hcell_top, okW_push, okW_top, hcell_hset_ne, hcell_hset_off, hcell_hset_eq, okW_hset, hset_size, Array.size_push, Nat.lt_add_one, ne_add_one, add_one_ne, Nat.add_assoc, add_same, add_lt_same, Nat.reduceEqDiff, lt_add_k, add_k_ne, ne_add_k]))
      | ((with_reducible apply xs_guard_no); (case hi => rfl); (case hy => rfl); (case hS => assumption))
      | ((first | ((with_reducible apply xs_op); (case hi => rfl)) | ((with_reducible apply xs_op_yes); (case hi => rfl); (case hy => rfl))); (case hr => rfl); intro K hK; simp only [go_sem, Int.cast_ofNat_Int, Nat.reduceEqDiff, Nat.reduceAdd, Nat.reduceMul, Nat.reduceLeDiff, Nat.reduceLT, Int.reduceLT, Int.reduceLE, Int.reduceEq, Int.reduceNeg, Int.reduceToNat, Nat.reducePow, reduceIte, reduceCtorEq, i5, hcell_push, hcell_top, okW_push, okW_top, hcell_hset_ne, hcell_hset_off, hcell_hset_eq, okW_hset, hset_size, Array.size_push, Nat.lt_add_one, ne_add_one, add_one_ne, Nat.add_assoc, add_same, add_lt_same, Nat.reduceEqDiff, lt_add_k, add_k_ne, ne_add_k])
      | (with_reducible first | refine seq_normal ?_ | (refine hK _ _ ?_; clear hK K) | refine x_seq (fun K hK => ?_) | refine x_nil ?_ | refine x_block ?_ | refine x_skip ?_ | refine x_exit ?_ | refine x_ret ?_ | refine x_label ?_ | refine x_scope ?_ | (refine seq_ret ?_; clear hK K) | (refine seq_exit ?_; clear hK K) | refine block_normal ?_ | refine block_ret ?_ | refine block_exit ?_ | refine loop_exit ?_ | refine loop_ret ?_)
      | ((with_reducible refine x_reg_lit ?hq ?_); case hq => rfl)
      | ((first | (with_reducible first | refine x_op (fun K hK => ?_) | refine end_ret ?_ | refine end_normal ?_) | ((with_reducible refine x_guard_yes ?hy (fun K hK => ?_)); case hy => rfl)); simp only [go_sem, Int.cast_ofNat_Int, Nat.reduceEqDiff, Nat.reduceAdd, Nat.reduceMul, Nat.reduceLeDiff, Nat.reduceLT, Int.reduceLT, Int.reduceLE, Int.reduceEq, Int.reduceNeg, Int.reduceToNat, Nat.reducePow, reduceIte, reduceCtorEq, i5, hcell_push, hcell_top, okW_push, okW_top, hcell_hset_ne, hcell_hset_off, hcell_hset_eq, okW_hset, hset_size, Array.size_push, Nat.lt_add_one, ne_add_one, add_one_ne, Nat.add_assoc, add_same, add_lt_same, Nat.reduceEqDiff, lt_add_k, add_k_ne, ne_add_k])
      | ((with_reducible first | refine x_guard_no ?hy ?_ | refine x_cond_true ?hy ?_); case hy => rfl)
      | ((with_reducible first | refine x_guard_none ?hy ?_ | refine x_cond_false ?hy ?_); case hy => rfl)
      | ((with_reducible refine block_exit_ne ?hy ?_); case hy => decide))
    generalize hH2 : hset _ _ _ = H2
    have hf2 : Fr (fun _ => False) H1 H2 := by rw [← hH2]; exact (by ((repeat (first | refine Fr.set ?_ (by simp) _ | refine Fr.push ?_ _)); exact Fr.refl _ _))
    have hs2 : H2.size = H1.size + 1 := by rw [← hH2]; simp [hset_size]
    clear hH2
    rw [← hs2]
    refine append_item (x := norm (zs i)) (hv.frame (hf2.push _) (fun _ _ h => h)) (readL_blk (Blk.new H2 (norm (zs i)).cells _) 3 0 0 (by simp [Sp.Item.cells])) (by omega) ?_
    intro v3 H3 B3 hv3 hf3 hB3
    have hf13 : Fr (fun b => B = some b) H1 H3 := ((hf2.push _).mono (fun _ _ h => h.elim)).trans hf3
    repeat' (first
      | (with_reducible refine xs_nil ?_)
      | ((with_reducible apply xs_rd); (case hi => rfl); (case hr => rfl); (case h1 => intro H' hS'; (try simp only [Cells, and_true] at hS'); simp only [go_sem, Int.cast_ofNat_Int, Nat.reduceEqDiff, Nat.reduceAdd, Nat.reduceMul, Nat.reduceLeDiff, Nat.reduceLT, Int.reduceLT, Int.reduceLE, Int.reduceEq, Int.reduceNeg, Int.reduceToNat, Nat.reducePow, reduceIte, reduceCtorEq, i6, ew, hS']; rfl))
      | ((with_reducible apply xs_guard_yes); (case hi => rfl); (case hr => rfl); (case hy => rfl); (case h1 => intro H' hS'; (try simp only [Cells, and_true] at hS'); simp only [go_sem, Int.cast_ofNat_Int, Nat.reduceEqDiff, Nat.reduceAdd, Nat.reduceMul, Nat.reduceLeDiff, Nat.reduceLT, Int.reduceLT, Int.reduceLE, Int.reduceEq, Int.reduceNeg, Int.reduceToNat, Nat.reducePow, reduceIte, reduceCtorEq, i6, ew, hS']; rfl))
      | ((with_reducible refine xs_tail ?hz ?_); case hz => rfl)
      | ((with_reducible refine xs_keep ?hz ?_); case hz => first | assumption | (simp only [go_sem, Int.cast_ofNat_Int, Nat.reduceEqDiff, Nat.reduceAdd, Nat.reduceMul, Nat.reduceLeDiff, Nat.reduceLT, Int.reduceLT, Int.reduceLE, Int.reduceEq, Int.reduceNeg, Int.reduceToNat, Nat.reducePow, reduceIte, reduceCtorEq, Cells, and_true, i6, ew]))
      | ((with_reducible apply xs_guard_no); (case hi => rfl); (case hy => rfl); (case hS => assumption))
      | ((first | ((with_reducible apply xs_op); (case hi => rfl)) | ((with_reducible apply xs_op_yes); (case hi => rfl); (case hy => rfl))); (case hr => rfl); intro K hK; simp only [go_sem, Int.cast_ofNat_Int, Nat.reduceEqDiff, Nat.reduceAdd, Nat.reduceMul, Nat.reduceLeDiff, Nat.reduceLT, Int.reduceLT, Int.reduceLE, Int.reduceEq, Int.reduceNeg, Int.reduceToNat, Nat.reducePow, reduceIte, reduceCtorEq, i6, ew])
      | (with_reducible first | refine seq_normal ?_ | (refine hK _ _ ?_; clear hK K) | refine x_seq (fun K hK => ?_) | refine x_nil ?_ | refine x_block ?_ | refine x_skip ?_ | refine x_exit ?_ | refine x_ret ?_ | refine x_label ?_ | refine x_scope ?_ | (refine seq_ret ?_; clear hK K) | (refine seq_exit ?_; clear hK K) | refine block_normal ?_ | refine block_ret ?_ | refine block_exit ?_ | refine loop_exit ?_ | refine loop_ret ?_)
      | ((with_reducible refine x_reg_lit ?hq ?_); case hq => rfl)
      | ((first | (with_reducible first | refine x_op (fun K hK => ?_) | refine end_ret ?_ | refine end_normal ?_) | ((with_reducible refine x_guard_yes ?hy (fun K hK => ?_)); case hy => rfl)); simp only [go_sem, Int.cast_ofNat_Int, Nat.reduceEqDiff, Nat.reduceAdd, Nat.reduceMul, Nat.reduceLeDiff, Nat.reduceLT, Int.reduceLT, Int.reduceLE, Int.reduceEq, Int.reduceNeg, Int.reduceToNat, Nat.reducePow, reduceIte, reduceCtorEq, i6, ew])
      | ((with_reducible first | refine x_guard_no ?hy ?_ | refine x_cond_true ?hy ?_); case hy => rfl)
      | ((with_reducible first | refine x_guard_none ?hy ?_ | refine x_cond_false ?hy ?_); case hy => rfl)
      | ((with_reducible refine block_exit_ne ?hy ?_); case hy => decide))
    refine loop_normal (m' := most - (i + 1)) (by omega) ⟨i + 1, B3, v3, xs ++ [norm (zs i)], rfl, rfl, hv3, ?_, by simp [hxl], by omega, by omega, ?_, hf1.trans' hf13 fun b hb e => ?_, rfl⟩
    · intro b hb
      rcases hB3 with h | ⟨g', h1, h2⟩
      · exact hB b (h ▸ hb)
      · rw [h1] at hb
        obtain rfl := Option.some.inj hb
        simp at h2
        omega
    · intro x hx
      rcases List.mem_append.1 hx with hx | hx
      · exact hmay x hx
      · rw [List.mem_singleton.1 hx]; exact norm_may _
    · have := hB b e; omega
  · have hor : ¬ i < len ∨ (i < len ∧ ¬ i < most) := by
      by_cases h : i < len
      · exact .inr ⟨h, fun h2 => hgo ⟨h, h2⟩⟩
      · exact .inl h
    obtain ⟨a5, c5, hv5⟩ := hv.slice
    have i5' := i5.trans hv5
    rcases hor with h | ⟨h, h2⟩
    case' inl =>
      have t1 : (i < len) = False := by simp [h]
      repeat' (first
        | (with_reducible first | refine seq_normal ?_ | (refine hK _ _ ?_; clear hK K) | refine x_seq (fun K hK => ?_) | refine x_nil ?_ | refine x_block ?_ | refine x_skip ?_ | refine x_exit ?_ | refine x_ret ?_ | refine x_label ?_ | refine x_scope ?_ | (refine seq_ret ?_; clear hK K) | (refine seq_exit ?_; clear hK K) | refine block_normal ?_ | refine block_ret ?_ | refine block_exit ?_ | refine loop_exit ?_ | refine loop_ret ?_)
        | ((with_reducible refine x_reg_lit ?hq ?_); case hq => rfl)
        | ((first | (with_reducible first | refine x_op (fun K hK => ?_) | refine end_ret ?_ | refine end_normal ?_) | ((with_reducible refine x_guard_yes ?hy (fun K hK => ?_)); case hy => rfl)); simp only [go_sem, Int.cast_ofNat_Int, Nat.reduceEqDiff, Nat.reduceAdd, Nat.reduceMul, Nat.reduceLeDiff, Nat.reduceLT, Int.reduceLT, Int.reduceLE, Int.reduceEq, Int.reduceNeg, Int.reduceToNat, Nat.reducePow, reduceIte, reduceCtorEq, i0, i1, i5', i6, t1])
        | ((with_reducible first | refine x_guard_no ?hy ?_ | refine x_cond_true ?hy ?_); case hy => rfl)
        | ((with_reducible first | refine x_guard_none ?hy ?_ | refine x_cond_false ?hy ?_); case hy => rfl)
        | ((with_reducible refine block_exit_ne ?hy ?_); case hy => decide))
    case' inr =>
      have t1 : (i < len) = True := by simp [h]
      have t2 : (i < most) = False := by simp [h2]
      repeat' (first
        | (with_reducible first | refine seq_normal ?_ | (refine hK _ _ ?_; clear hK K) | refine x_seq (fun K hK => ?_) | refine x_nil ?_ | refine x_block ?_ | refine x_skip ?_ | refine x_exit ?_ | refine x_ret ?_ | refine x_label ?_ | refine x_scope ?_ | (refine seq_ret ?_; clear hK K) | (refine seq_exit ?_; clear hK K) | refine block_normal ?_ | refine block_ret ?_ | refine block_exit ?_ | refine loop_exit ?_ | refine loop_ret ?_)
        | ((with_reducible refine x_reg_lit ?hq ?_); case hq => rfl)
        | ((first | (with_reducible first | refine x_op (fun K hK => ?_) | refine end_ret ?_ | refine end_normal ?_) | ((with_reducible refine x_guard_yes ?hy (fun K hK => ?_)); case hy => rfl)); simp only [go_sem, Int.cast_ofNat_Int, Nat.reduceEqDiff, Nat.reduceAdd, Nat.reduceMul, Nat.reduceLeDiff, Nat.reduceLT, Int.reduceLT, Int.reduceLE, Int.reduceEq, Int.reduceNeg, Int.reduceToNat, Nat.reducePow, reduceIte, reduceCtorEq, i0, i1, i5', i6, t1, t2])
        | ((with_reducible first | refine x_guard_no ?hy ?_ | refine x_cond_true ?hy ?_); case hy => rfl)
        | ((with_reducible first | refine x_guard_none ?hy ?_ | refine x_cond_false ?hy ?_); case hy => rfl)
        | ((with_reducible refine block_exit_ne ?hy ?_); case hy => decide))
    all_goals
      by_cases hx0 : xs = []
      · have t3 : ((xs.length : Int) == 0) = true := by simp [hx0]
        refine x_cond_true (show _ = Value.bool true by rw [← t3]; rfl) ?_
        repeat' (first
          | (with_reducible first | refine seq_normal ?_ | (refine hK _ _ ?_; clear hK K) | refine x_seq (fun K hK => ?_) | refine x_nil ?_ | refine x_block ?_ | refine x_skip ?_ | refine x_exit ?_ | refine x_ret ?_ | refine x_label ?_ | refine x_scope ?_ | (refine seq_ret ?_; clear hK K) | (refine seq_exit ?_; clear hK K) | refine block_normal ?_ | refine block_ret ?_ | refine block_exit ?_ | refine loop_exit ?_ | refine loop_ret ?_)
          | ((with_reducible refine x_reg_lit ?hq ?_); case hq => rfl)
          | ((first | (with_reducible first | refine x_op (fun K hK => ?_) | refine end_ret ?_ | refine end_normal ?_) | ((with_reducible refine x_guard_yes ?hy (fun K hK => ?_)); case hy => rfl)); simp only [go_sem, Int.cast_ofNat_Int, Nat.reduceEqDiff, Nat.reduceAdd, Nat.reduceMul, Nat.reduceLeDiff, Nat.reduceLT, Int.reduceLT, Int.reduceLE, Int.reduceEq, Int.reduceNeg, Int.reduceToNat, Nat.reducePow, reduceIte, reduceCtorEq, i5'])
          | ((with_reducible first | refine x_guard_no ?hy ?_ | refine x_cond_true ?hy ?_); case hy => rfl)
          | ((with_reducible first | refine x_guard_none ?hy ?_ | refine x_cond_false ?hy ?_); case hy => rfl)
          | ((with_reducible refine block_exit_ne ?hy ?_); case hy => decide))
        rw [← hv5]
        refine append_item (x := ⟨1, true, 0⟩) (hv.frame ((Fr.refl _ _).push _) (fun _ _ h => h)) (readL_blk (Blk.new H1 (Sp.Item.cells ⟨1, true, 0⟩) _) 3 0 0 (by simp [Sp.Item.cells])) (by omega) ?_
        intro v3 H3 B3 hv3 hf3 hB3
        have hf13 : Fr (fun b => B = some b) H1 H3 := Fr.trans (Fr.mono (S := fun _ => False) ((Fr.refl _ _).push _) (fun _ _ h => h.elim)) hf3
        have hs1 := hf1.size
        repeat' (first
          | (with_reducible first | refine seq_normal ?_ | (refine hK _ _ ?_; clear hK K) | refine x_seq (fun K hK => ?_) | refine x_nil ?_ | refine x_block ?_ | refine x_skip ?_ | refine x_exit ?_ | refine x_ret ?_ | refine x_label ?_ | refine x_scope ?_ | (refine seq_ret ?_; clear hK K) | (refine seq_exit ?_; clear hK K) | refine block_normal ?_ | refine block_ret ?_ | refine block_exit ?_ | refine loop_exit ?_ | refine loop_ret ?_)
          | ((with_reducible refine x_reg_lit ?hq ?_); case hq => rfl)
          | ((first | (with_reducible first | refine x_op (fun K hK => ?_) | refine end_ret ?_ | refine end_normal ?_) | ((with_reducible refine x_guard_yes ?hy (fun K hK => ?_)); case hy => rfl)); simp only [go_sem, Int.cast_ofNat_Int, Nat.reduceEqDiff, Nat.reduceAdd, Nat.reduceMul, Nat.reduceLeDiff, Nat.reduceLT, Int.reduceLT, Int.reduceLE, Int.reduceEq, Int.reduceNeg, Int.reduceToNat, Nat.reducePow, reduceIte, reduceCtorEq])
          | ((with_reducible first | refine x_guard_no ?hy ?_ | refine x_cond_true ?hy ?_); case hy => rfl)
          | ((with_reducible first | refine x_guard_none ?hy ?_ | refine x_cond_false ?hy ?_); case hy => rfl)
          | ((with_reducible refine block_exit_ne ?hy ?_); case hy => decide))
        refine fin _ B3 _ _ hv3 ?_ (by simp) (by simp [hx0]; omega) ?_ (hf1.trans' hf13 fun b hb e => ?_)
        · intro b hb
          rcases hB3 with h | ⟨g', h1, h2⟩
          · exact hB b (h ▸ hb)
          · rw [h1] at hb
            obtain rfl := Option.some.inj hb
            simp at h2
            omega
        · intro x hx
          rcases List.mem_append.1 hx with hx | hx
          · exact hmay x hx
          · rw [List.mem_singleton.1 hx]; exact ⟨by decide, by decide, by decide, by decide⟩
        · have := hB b e; omega
      · have t3 : ((xs.length : Int) == 0) = false := by simp [hx0]
        refine x_cond_false (show _ = Value.bool false by rw [← t3]; rfl) ?_
        repeat' (first
          | (with_reducible first | refine seq_normal ?_ | (refine hK _ _ ?_; clear hK K) | refine x_seq (fun K hK => ?_) | refine x_nil ?_ | refine x_block ?_ | refine x_skip ?_ | refine x_exit ?_ | refine x_ret ?_ | refine x_label ?_ | refine x_scope ?_ | (refine seq_ret ?_; clear hK K) | (refine seq_exit ?_; clear hK K) | refine block_normal ?_ | refine block_ret ?_ | refine block_exit ?_ | refine loop_exit ?_ | refine loop_ret ?_)
          | ((with_reducible refine x_reg_lit ?hq ?_); case hq => rfl)
          | ((first | (with_reducible first | refine x_op (fun K hK => ?_) | refine end_ret ?_ | refine end_normal ?_) | ((with_reducible refine x_guard_yes ?hy (fun K hK => ?_)); case hy => rfl)); simp only [go_sem, Int.cast_ofNat_Int, Nat.reduceEqDiff, Nat.reduceAdd, Nat.reduceMul, Nat.reduceLeDiff, Nat.reduceLT, Int.reduceLT, Int.reduceLE, Int.reduceEq, Int.reduceNeg, Int.reduceToNat, Nat.reducePow, reduceIte, reduceCtorEq, i5'])
          | ((with_reducible first | refine x_guard_no ?hy ?_ | refine x_cond_true ?hy ?_); case hy => rfl)
          | ((with_reducible first | refine x_guard_none ?hy ?_ | refine x_cond_false ?hy ?_); case hy => rfl)
          | ((with_reducible refine block_exit_ne ?hy ?_); case hy => decide))
        rw [← hv5]
        have := List.length_pos_iff.2 hx0
        exact fin _ B _ _ hv hB (by omega) (by omega) hmay hf1
end Go.Proofs.Ytndkbhlfbeiniaa

namespace Go.Proofs.Ytndkbhlfbeiniaa
open Go Go.Hp Go.Sp
set_option linter.all false
set_option maxRecDepth 100000
set_option maxHeartbeats 1600000

/-- A forest and a list of handles, both of new memory. -/
structure RM (H0 H : Heap) (f : Nat) (T : Nat → Prop) (S : Sq) (B : Option Nat) (v : Value) (all : List Nat) : Prop where
  fo : FoM H f T S
  ir : IR H B v (all.map Int.ofNat)
  fr : Fr (fun _ => False) H0 H
  tb : ∀ b, T b → H0.size ≤ b
  bb : ∀ b, B = some b → H0.size ≤ b ∧ ¬ T b
section
variable {H0 H H' : Heap} {f : Nat} {T T' : Nat → Prop} {S S' : Sq} {B B' : Option Nat} {v v' : Value} {all all' : List Nat}
theorem RM.op (h : RM H0 H f T S B v all) (hf : FoM H' f T S') (hfr : Fr T H H') : RM H0 H' f T S' B v all :=
  ⟨hf, h.ir.frame hfr fun g hg => (h.bb g hg).2, h.fr.trans' hfr fun b hb e => by have := h.tb b e; omega, h.tb, h.bb⟩
theorem RM.op' (h : RM H0 H f T S B v all) (hf : FoM H' f T' S') (hfr : Fr T H H') (hT : ∀ b, T' b → T b ∨ H.size ≤ b) : RM H0 H' f T' S' B v all :=
  ⟨hf, h.ir.frame hfr fun g hg => (h.bb g hg).2, h.fr.trans' hfr (fun b hb e => by have := h.tb b e; omega), fun b hb => by
    rcases hT b hb with hb | hb
    · exact h.tb b hb
    · exact Nat.le_trans h.fr.size hb, fun b hb => ⟨(h.bb b hb).1, fun e => by
    rcases hT b e with e | e
    · exact (h.bb b hb).2 e
    · have := h.ir.lt hb; omega⟩⟩
theorem RM.grow (h : RM H0 H f T S B v all) (hf : Fr (fun _ => False) H H') : RM H0 H' f T S B v all :=
  ⟨h.fo.grow hf, h.ir.frame hf fun _ _ h => h, h.fr.trans hf, h.tb, h.bb⟩
theorem RM.list (h : RM H0 H f T S B v all) (hi : IR H' B' v' (all'.map Int.ofNat)) (hf : Fr (fun b => B = some b) H H') (hB : B' = B ∨ ∃ g, B' = some g ∧ H.size ≤ g) : RM H0 H' f T S B' v' all' :=
  ⟨h.fo.frame hf fun b hb e => (h.bb b e).2 hb, hi, h.fr.trans' hf (fun b hb e => by have := (h.bb b e).1; omega), h.tb, fun b hb => by
    rcases hB with rfl | ⟨g, h1, h2⟩
    · exact h.bb b hb
    · rw [h1] at hb
      obtain rfl := Option.some.inj hb
      exact ⟨Nat.le_trans h.fr.size h2, fun e => by have := h.fo.lt e; omega⟩⟩
theorem RM.base (h : RM H0 H f T S B v all) {H00 : Heap} (hf : Fr (fun _ => False) H00 H0) : RM H00 H f T S B v all :=
  ⟨h.fo, h.ir, hf.trans h.fr, fun b hb => Nat.le_trans hf.size (h.tb b hb), fun b hb => ⟨Nat.le_trans hf.size (h.bb b hb).1, (h.bb b hb).2⟩⟩
end
/-- A list made anew. -/
theorem RM.replace {H0 H H' : Heap} {f : Nat} {T : Nat → Prop} {S : Sq} {B B' : Option Nat} {v v' : Value} {all all' : List Nat} (h : RM H0 H f T S B v all) (hi : IR H' B' v' (all'.map Int.ofNat)) (hf : Fr (fun b => H.size ≤ b) H H') (hB : ∀ b, B' = some b → H.size ≤ b) : RM H0 H' f T S B' v' all' :=
  ⟨h.fo.frame hf fun b hb e => by have := h.fo.lt hb; omega, hi, h.fr.trans' hf (fun b hb e => by have := h.fr.size; omega), h.tb, fun b hb => ⟨Nat.le_trans h.fr.size (hB b hb), fun e => by have := h.fo.lt e; have := hB b hb; omega⟩⟩
/-- What lies elsewhere is written. -/
theorem RM.other {H0 H H' : Heap} {f : Nat} {T : Nat → Prop} {S : Sq} {B C : Option Nat} {v : Value} {all : List Nat} (h : RM H0 H f T S B v all) (hf : Fr (fun b => C = some b) H H') (hC : ∀ b, C = some b → H0.size ≤ b ∧ ¬ T b ∧ B ≠ some b) : RM H0 H' f T S B v all :=
  ⟨h.fo.frame hf fun b hb e => (hC b e).2.1 hb, h.ir.frame hf fun b hb e => (hC b e).2.2 hb, h.fr.trans' hf (fun b hb e => by have := (hC b e).1; omega), h.tb, h.bb⟩
theorem IR.one (H : Heap) (x : Int) (T : TypeId) : IR (H.push (.cells #[.int .i64 x] T)) (some H.size) (.slice (some ⟨H.size, 0, none⟩) 1 1) [x] :=
  ⟨rfl, .inr ⟨H.size, 1, [], rfl, rfl, Blk.new H [.int .i64 x] T, rfl, Nat.le_refl _⟩⟩
theorem row_ok {H : Heap} {a : Option Addr} {len cap : Nat} {zs : Nat → Int} {Bi : Option Nat} {vi : Value} {xs : List Sp.Item} {K : Value → Heap → Prop} (hin : InInts H a len zs) (hl : len ≤ 9223372036854775807)
    (hi : Its H Bi vi xs) (hm : ∀ x ∈ xs, May x) (hxl : xs.length ≤ 1024) (hx1 : 1 ≤ xs.length)
    (fin : ∀ H' f T S B v all, RM H H' f T S B v all → S.rows = [all] → all.length = xs.length → S.free = [] → S.top = xs.length + 1 → S.room = 1024 → (all.map S.it).Perm xs → K (.tuple #[.pointer (some ⟨f, 0, none⟩), v]) H') :
    CallsH Try.prog 12 #[vi, .slice a len cap] H K := by
  obtain ⟨ai, ci, hvi⟩ := hi.slice
  refine call12 (by simp) ?_
  simp only [Try.f12, Option.getD_some]
  rw [hvi]
  repeat' (first
    | (with_reducible first | refine seq_normal ?_ | (refine hK _ _ ?_; clear hK K) | refine x_seq (fun K hK => ?_) | refine x_nil ?_ | refine x_block ?_ | refine x_skip ?_ | refine x_exit ?_ | refine x_ret ?_ | refine x_label ?_ | refine x_scope ?_ | (refine seq_ret ?_; clear hK K) | (refine seq_exit ?_; clear hK K) | refine block_normal ?_ | refine block_ret ?_ | refine block_exit ?_ | refine loop_exit ?_ | refine loop_ret ?_)
    | ((with_reducible refine x_reg_lit ?hq ?_); case hq => rfl)
    | ((first | (with_reducible first | refine x_op (fun K hK => ?_) | refine end_ret ?_ | refine end_normal ?_) | ((with_reducible refine x_guard_yes ?hy (fun K hK => ?_)); case hy => rfl)); simp only [go_sem, Int.cast_ofNat_Int, Nat.reduceEqDiff, Nat.reduceAdd, Nat.reduceMul, Nat.reduceLeDiff, Nat.reduceLT, Int.reduceLT, Int.reduceLE, Int.reduceEq, Int.reduceNeg, Int.reduceToNat, Nat.reducePow, reduceIte, reduceCtorEq])
    | ((with_reducible first | refine x_guard_no ?hy ?_ | refine x_cond_true ?hy ?_); case hy => rfl)
    | ((with_reducible first | refine x_guard_none ?hy ?_ | refine x_cond_false ?hy ?_); case hy => rfl)
    | ((with_reducible refine block_exit_ne ?hy ?_); case hy => decide))
  refine new_ok (n := 1024) (by omega) ?_
  intro H1 f T1 hF1 hf1 hT1 hTf
  repeat' (first
    | (with_reducible first | refine seq_normal ?_ | (refine hK _ _ ?_; clear hK K) | refine x_seq (fun K hK => ?_) | refine x_nil ?_ | refine x_block ?_ | refine x_skip ?_ | refine x_exit ?_ | refine x_ret ?_ | refine x_label ?_ | refine x_scope ?_ | (refine seq_ret ?_; clear hK K) | (refine seq_exit ?_; clear hK K) | refine block_normal ?_ | refine block_ret ?_ | refine block_exit ?_ | refine loop_exit ?_ | refine loop_ret ?_)
    | ((with_reducible refine x_reg_lit ?hq ?_); case hq => rfl)
    | ((first | (with_reducible first | refine x_op (fun K hK => ?_) | refine end_ret ?_ | refine end_normal ?_) | ((with_reducible refine x_guard_yes ?hy (fun K hK => ?_)); case hy => rfl)); simp only [go_sem, Int.cast_ofNat_Int, Nat.reduceEqDiff, Nat.reduceAdd, Nat.reduceMul, Nat.reduceLeDiff, Nat.reduceLT, Int.reduceLT, Int.reduceLE, Int.reduceEq, Int.reduceNeg, Int.reduceToNat, Nat.reducePow, reduceIte, reduceCtorEq])
    | ((with_reducible first | refine x_guard_no ?hy ?_ | refine x_cond_true ?hy ?_); case hy => rfl)
    | ((with_reducible first | refine x_guard_none ?hy ?_ | refine x_cond_false ?hy ?_); case hy => rfl)
    | ((with_reducible refine block_exit_ne ?hy ?_); case hy => decide))
  refine x_loop (fun m e' H' => ∃ (i : Nat) (T : Nat → Prop) (S : Sq) (B : Option Nat) (v : Value) (all : List Nat), e' 8 = v ∧ e' 9 = .int .i64 (i : Nat) ∧ RM H H' f T S B v all ∧ S.rows = (if i = 0 then [] else [all]) ∧ all.length = i ∧ S.free = [] ∧ S.top = i + 1 ∧ S.room = 1024 ∧
      (all.map S.it).Perm (xs.take i) ∧ i ≤ xs.length ∧ m = xs.length - i)
    xs.length ⟨0, T1, _, none, _, [], rfl, rfl, ⟨hF1, IR.nil _, hf1, hT1, fun b h => by cases h⟩, rfl, rfl, rfl, rfl, rfl, .refl _, Nat.zero_le _, rfl⟩ ?_
  rintro m e1 H2 ⟨i, T, S, B, v, all, i8, i9, hM, hrows, hall, hfree, htop, hroom, hperm, hil, rfl⟩ hoff
  have i0 := (hoff 0 rfl).trans rfl
  have i1 := (hoff 1 rfl).trans rfl
  have i6 := (hoff 6 rfl).trans rfl
  clear hoff
  by_cases hlt : i < xs.length
  · obtain ⟨x, hx⟩ : ∃ x, xs[i]? = some x := ⟨_, List.getElem?_eq_getElem hlt⟩
    have hxm : May x := hm x (List.mem_of_getElem? hx)
    obtain ⟨gi, cgi, hBi, hvi', q0, q1, q2⟩ := (hi.frame hM.fr (fun _ _ h => h)).read hx
    have i0' := i0.trans (hvi.symm.trans hvi')
    have hflat : S.rows.flatten = all := by
      rw [hrows]
      split
      · rename_i h; simp [List.length_eq_zero_iff.1 (hall.trans h)]
      · simp
    have ew : IntKind.i64.wrap ((i : Int) + 1) = ((i + 1 : Nat) : Int) := by rw [wrap_i64] <;> omega
    have hnext : S.next = i + 1 := by unfold Sq.next; rw [hfree, htop]; rfl
    repeat' (first
      | (with_reducible first | refine seq_normal ?_ | (refine hK _ _ ?_; clear hK K) | refine x_seq (fun K hK => ?_) | refine x_nil ?_ | refine x_block ?_ | refine x_skip ?_ | refine x_exit ?_ | refine x_ret ?_ | refine x_label ?_ | refine x_scope ?_ | (refine seq_ret ?_; clear hK K) | (refine seq_exit ?_; clear hK K) | refine block_normal ?_ | refine block_ret ?_ | refine block_exit ?_ | refine loop_exit ?_ | refine loop_ret ?_)
      | ((with_reducible refine x_reg_lit ?hq ?_); case hq => rfl)
      | ((first | (with_reducible first | refine x_op (fun K hK => ?_) | refine end_ret ?_ | refine end_normal ?_) | ((with_reducible refine x_guard_yes ?hy (fun K hK => ?_)); case hy => rfl)); simp only [go_sem, Int.cast_ofNat_Int, Nat.reduceEqDiff, Nat.reduceAdd, Nat.reduceMul, Nat.reduceLeDiff, Nat.reduceLT, Int.reduceLT, Int.reduceLE, Int.reduceEq, Int.reduceNeg, Int.reduceToNat, Nat.reducePow, reduceIte, reduceCtorEq, i0', i1, i6, i9, hlt, q0, q1, q2])
      | ((with_reducible first | refine x_guard_no ?hy ?_ | refine x_cond_true ?hy ?_); case hy => rfl)
      | ((with_reducible first | refine x_guard_none ?hy ?_ | refine x_cond_false ?hy ?_); case hy => rfl)
      | ((with_reducible refine block_exit_ne ?hy ?_); case hy => decide))
    refine make_ok (x := x) hM.fo (May.fits hxm) hxm (by rw [hflat, hroom, hall]; omega) ?_
    intro H3 T3 hF3 hf3 hT3 _
    have hM3 := hM.op' hF3 hf3 hT3
    have hnin : i + 1 ∉ all := fun h => by
      have := hM.fo.lt_top (k := i + 1) (by rw [hflat]; exact h)
      omega
    have hmade : (S.made x).rows = [i + 1] :: S.rows := by unfold Sq.made; rw [hnext]
    have hmit : ∀ k ∈ all, (S.made x).it k = S.it k := fun k hk => by
      show (if k = S.next then x else S.it k) = S.it k
      rw [if_neg]
      intro e
      rw [hnext] at e
      exact hnin (e ▸ hk)
    have hmitn : (S.made x).it (i + 1) = x := by
      show (if i + 1 = S.next then x else S.it (i + 1)) = x
      rw [if_pos hnext.symm]
    have htake : xs.take (i + 1) = xs.take i ++ [x] := by
      rw [List.take_add_one, hx]; rfl
    have hmap : all.map (S.made x).it = all.map S.it := List.map_congr_left hmit
    have hmfree : (S.made x).free = [] := by show S.free.tail = []; rw [hfree]; rfl
    have hmtop : (S.made x).top = i + 1 + 1 := by show (if S.free = [] then S.top + 1 else S.top) = _; rw [if_pos hfree, htop]
    rw [hnext]
    by_cases hi0 : i = 0
    · subst hi0
      obtain rfl : all = [] := List.length_eq_zero_iff.1 hall
      rw [if_pos rfl] at hrows
      have ew0 : IntKind.i64.wrap 1 = 1 := by rw [wrap_i64] <;> omega
      have z1 : (((0 : Nat) : Int) == 0) = true := rfl
      repeat' (first
        | (with_reducible first | refine seq_normal ?_ | (refine hK _ _ ?_; clear hK K) | refine x_seq (fun K hK => ?_) | refine x_nil ?_ | refine x_block ?_ | refine x_skip ?_ | refine x_exit ?_ | refine x_ret ?_ | refine x_label ?_ | refine x_scope ?_ | (refine seq_ret ?_; clear hK K) | (refine seq_exit ?_; clear hK K) | refine block_normal ?_ | refine block_ret ?_ | refine block_exit ?_ | refine loop_exit ?_ | refine loop_ret ?_)
        | ((with_reducible refine x_reg_lit ?hq ?_); case hq => rfl)
        | ((first | (with_reducible first | refine x_op (fun K hK => ?_) | refine end_ret ?_ | refine end_normal ?_) | ((with_reducible refine x_guard_yes ?hy (fun K hK => ?_)); case hy => rfl)); simp only [go_sem, Int.cast_ofNat_Int, Nat.reduceEqDiff, Nat.reduceAdd, Nat.reduceMul, Nat.reduceLeDiff, Nat.reduceLT, Int.reduceLT, Int.reduceLE, Int.reduceEq, Int.reduceNeg, Int.reduceToNat, Nat.reducePow, reduceIte, reduceCtorEq, i0', i1, i6, i8, i9, hlt, z1, ew])
        | ((with_reducible first | refine x_guard_no ?hy ?_ | refine x_cond_true ?hy ?_); case hy => rfl)
        | ((with_reducible first | refine x_guard_none ?hy ?_ | refine x_cond_false ?hy ?_); case hy => rfl)
        | ((with_reducible refine block_exit_ne ?hy ?_); case hy => decide))
      refine append_ir elems23 tl3 hM3.ir rfl (by decide) (by simp) rfl ?_
      intro v' H4 B' hi4 hf4 hB4
      have hM4 := hM3.list (all' := [1]) hi4 hf4 hB4
      repeat' (first
        | (with_reducible first | refine seq_normal ?_ | (refine hK _ _ ?_; clear hK K) | refine x_seq (fun K hK => ?_) | refine x_nil ?_ | refine x_block ?_ | refine x_skip ?_ | refine x_exit ?_ | refine x_ret ?_ | refine x_label ?_ | refine x_scope ?_ | (refine seq_ret ?_; clear hK K) | (refine seq_exit ?_; clear hK K) | refine block_normal ?_ | refine block_ret ?_ | refine block_exit ?_ | refine loop_exit ?_ | refine loop_ret ?_)
        | ((with_reducible refine x_reg_lit ?hq ?_); case hq => rfl)
        | ((first | (with_reducible first | refine x_op (fun K hK => ?_) | refine end_ret ?_ | refine end_normal ?_) | ((with_reducible refine x_guard_yes ?hy (fun K hK => ?_)); case hy => rfl)); simp only [go_sem, Int.cast_ofNat_Int, Nat.reduceEqDiff, Nat.reduceAdd, Nat.reduceMul, Nat.reduceLeDiff, Nat.reduceLT, Int.reduceLT, Int.reduceLE, Int.reduceEq, Int.reduceNeg, Int.reduceToNat, Nat.reducePow, reduceIte, reduceCtorEq, i9, ew])
        | ((with_reducible first | refine x_guard_no ?hy ?_ | refine x_cond_true ?hy ?_); case hy => rfl)
        | ((with_reducible first | refine x_guard_none ?hy ?_ | refine x_cond_false ?hy ?_); case hy => rfl)
        | ((with_reducible refine block_exit_ne ?hy ?_); case hy => decide))
      refine loop_normal (m' := xs.length - 1) (by omega) ⟨1, T3, _, B', v', [1], rfl, rfl, hM4, ?_, rfl, hmfree, hmtop, hroom, ?_, by omega, rfl⟩
      · rw [hmade, hrows]; rfl
      · rw [htake]
        simp only [List.map_cons, List.map_nil, List.take_zero, List.nil_append]
        rw [show (S.made x).it 1 = x from hmitn]
    · have z1 : ((i : Int) == 0) = false := by simp [hi0]
      rw [if_neg hi0] at hrows
      have hane : all ≠ [] := fun h => hi0 (by rw [← hall, h]; rfl)
      obtain ⟨g8, c8, hB8, hv8, hr8, hc8⟩ := hM3.ir.rowAt (i := 0) (by rw [List.length_map, hall]; omega)
      rw [List.length_map, hall] at hv8 hc8
      have i8' := i8.trans hv8
      have ewm : IntKind.i64.wrap ((i : Int) - 1) = ((i - 1 : Nat) : Int) := by rw [wrap_i64] <;> omega
      by_cases hneg : i < len ∧ zs i < 0
      · obtain ⟨p, rfl, cz, hz1, hz2⟩ := (hin.frame hM3.fr) i hneg.1
        have t1 : (i < len) = True := by simp [hneg.1]
        have t2 : (zs i < 0) = True := by simp [hneg.2]
        obtain ⟨w, hw⟩ : ∃ w, all[i - 1]? = some w := ⟨_, List.getElem?_eq_getElem (by omega)⟩
        have cw := hr8 (i - 1) (w : Int) (by rw [List.getElem?_map, hw]; rfl)
        have t3 : (i - 1 < i) = True := by simp; omega
        repeat' (first
          | (with_reducible first | refine seq_normal ?_ | (refine hK _ _ ?_; clear hK K) | refine x_seq (fun K hK => ?_) | refine x_nil ?_ | refine x_block ?_ | refine x_skip ?_ | refine x_exit ?_ | refine x_ret ?_ | refine x_label ?_ | refine x_scope ?_ | (refine seq_ret ?_; clear hK K) | (refine seq_exit ?_; clear hK K) | refine block_normal ?_ | refine block_ret ?_ | refine block_exit ?_ | refine loop_exit ?_ | refine loop_ret ?_)
          | ((with_reducible refine x_reg_lit ?hq ?_); case hq => rfl)
          | ((first | (with_reducible first | refine x_op (fun K hK => ?_) | refine end_ret ?_ | refine end_normal ?_) | ((with_reducible refine x_guard_yes ?hy (fun K hK => ?_)); case hy => rfl)); simp only [go_sem, Int.cast_ofNat_Int, Nat.reduceEqDiff, Nat.reduceAdd, Nat.reduceMul, Nat.reduceLeDiff, Nat.reduceLT, Int.reduceLT, Int.reduceLE, Int.reduceEq, Int.reduceNeg, Int.reduceToNat, Nat.reducePow, reduceIte, reduceCtorEq, i0', i1, i6, i8', i9, hlt, z1, t1, t2, cz, ewm, cw, t3])
          | ((with_reducible first | refine x_guard_no ?hy ?_ | refine x_cond_true ?hy ?_); case hy => rfl)
          | ((with_reducible first | refine x_guard_none ?hy ?_ | refine x_cond_false ?hy ?_); case hy => rfl)
          | ((with_reducible refine block_exit_ne ?hy ?_); case hy => decide))
        refine m_join (xs := [i + 1]) (ys := all) (R := []) hM3.fo (by rw [hmade, hrows]) (by simp) (List.mem_of_getElem? hw) ?_
        intro H4 hF4 hf4
        have hM4 := hM3.op hF4 hf4
        have ione := IR.one H4 ((i + 1 : Nat) : Int) 3
        have r4 := hM4.ir
        rw [hB8, hv8] at r4
        have hM5 := hM4.grow (H' := H4.push (.cells #[.int .i64 ((i + 1 : Nat) : Int)] 3)) ((Fr.refl _ _).push _)
        have r5 := hM5.ir
        rw [hB8, hv8] at r5
        have rl := r5.readL (o := 0) (m := i) (by simp [hall])
        rw [List.drop_zero, List.take_of_length_le (by simp [hall])] at rl
        repeat' (first
          | (with_reducible first | refine seq_normal ?_ | (refine hK _ _ ?_; clear hK K) | refine x_seq (fun K hK => ?_) | refine x_nil ?_ | refine x_block ?_ | refine x_skip ?_ | refine x_exit ?_ | refine x_ret ?_ | refine x_label ?_ | refine x_scope ?_ | (refine seq_ret ?_; clear hK K) | (refine seq_exit ?_; clear hK K) | refine block_normal ?_ | refine block_ret ?_ | refine block_exit ?_ | refine loop_exit ?_ | refine loop_ret ?_)
          | ((with_reducible refine x_reg_lit ?hq ?_); case hq => rfl)
          | ((first | (with_reducible first | refine x_op (fun K hK => ?_) | refine end_ret ?_ | refine end_normal ?_) | ((with_reducible refine x_guard_yes ?hy (fun K hK => ?_)); case hy => rfl)); simp only [go_sem, Int.cast_ofNat_Int, Nat.reduceEqDiff, Nat.reduceAdd, Nat.reduceMul, Nat.reduceLeDiff, Nat.reduceLT, Int.reduceLT, Int.reduceLE, Int.reduceEq, Int.reduceNeg, Int.reduceToNat, Nat.reducePow, reduceIte, reduceCtorEq, i0', i1, i6, i8', i9])
          | ((with_reducible first | refine x_guard_no ?hy ?_ | refine x_cond_true ?hy ?_); case hy => rfl)
          | ((with_reducible first | refine x_guard_none ?hy ?_ | refine x_cond_false ?hy ?_); case hy => rfl)
          | ((with_reducible refine block_exit_ne ?hy ?_); case hy => decide))
        refine append_irs elems23 tl3 ione rl (by simp [hall]) (by decide) (by simp; omega) rfl ?_
        intro v6 H6 B6 hi6 hf6 hB6
        have hM6 : RM H H6 f T3 { S.made x with rows := [[i + 1] ++ all] } B6 v6 ([i + 1] ++ all) := by
          have hsz := hM4.fr.size
          have hlt8 := r4.lt rfl
          refine ⟨hM5.fo.frame hf6 fun b hb e => ?_, by simpa using hi6, hM5.fr.trans' hf6 (fun b hb e => ?_), hM5.tb, fun b hb => ?_⟩
          · obtain rfl := Option.some.inj e
            have := hM4.fo.lt hb
            omega
          · obtain rfl := Option.some.inj e
            omega
          · have hge : H4.size ≤ b := by
              rcases hB6 with h | ⟨g', h1, h2⟩
              · rw [h] at hb
                obtain rfl := Option.some.inj hb
                omega
              · rw [h1] at hb
                obtain rfl := Option.some.inj hb
                simp at h2
                omega
            exact ⟨by omega, fun e => by have := hM4.fo.lt e; omega⟩
        repeat' (first
          | (with_reducible first | refine seq_normal ?_ | (refine hK _ _ ?_; clear hK K) | refine x_seq (fun K hK => ?_) | refine x_nil ?_ | refine x_block ?_ | refine x_skip ?_ | refine x_exit ?_ | refine x_ret ?_ | refine x_label ?_ | refine x_scope ?_ | (refine seq_ret ?_; clear hK K) | (refine seq_exit ?_; clear hK K) | refine block_normal ?_ | refine block_ret ?_ | refine block_exit ?_ | refine loop_exit ?_ | refine loop_ret ?_)
          | ((with_reducible refine x_reg_lit ?hq ?_); case hq => rfl)
          | ((first | (with_reducible first | refine x_op (fun K hK => ?_) | refine end_ret ?_ | refine end_normal ?_) | ((with_reducible refine x_guard_yes ?hy (fun K hK => ?_)); case hy => rfl)); simp only [go_sem, Int.cast_ofNat_Int, Nat.reduceEqDiff, Nat.reduceAdd, Nat.reduceMul, Nat.reduceLeDiff, Nat.reduceLT, Int.reduceLT, Int.reduceLE, Int.reduceEq, Int.reduceNeg, Int.reduceToNat, Nat.reducePow, reduceIte, reduceCtorEq, i9, ew])
          | ((with_reducible first | refine x_guard_no ?hy ?_ | refine x_cond_true ?hy ?_); case hy => rfl)
          | ((with_reducible first | refine x_guard_none ?hy ?_ | refine x_cond_false ?hy ?_); case hy => rfl)
          | ((with_reducible refine block_exit_ne ?hy ?_); case hy => decide))
        refine loop_normal (m' := xs.length - (i + 1)) (by omega) ⟨i + 1, T3, _, B6, v6, [i + 1] ++ all, rfl, rfl, hM6, by simp, by simp [hall], hmfree, hmtop, hroom, ?_, by omega, rfl⟩
        rw [htake]
        simp only [List.map_append, List.map_cons, List.map_nil]
        rw [hmitn, hmap]
        exact (List.Perm.append_left [x] hperm).trans List.perm_append_comm
      · have hor : ¬ i < len ∨ (i < len ∧ ¬ zs i < 0) := by
          by_cases h : i < len
          · exact .inr ⟨h, fun h2 => hneg ⟨h, h2⟩⟩
          · exact .inl h
        obtain ⟨w, hw⟩ : ∃ w, all[0]? = some w := ⟨_, List.getElem?_eq_getElem (by omega)⟩
        have cw := hr8 0 (w : Int) (by rw [List.getElem?_map, hw]; rfl)
        have t3 : (0 < i) = True := by simp; omega
        have t4 : ((0 : Int) < (i : Int)) = True := by simp; omega
        rcases hor with h | ⟨h, h2⟩
        case' inl =>
          have t1 : (i < len) = False := by simp [h]
          repeat' (first
            | (with_reducible first | refine seq_normal ?_ | (refine hK _ _ ?_; clear hK K) | refine x_seq (fun K hK => ?_) | refine x_nil ?_ | refine x_block ?_ | refine x_skip ?_ | refine x_exit ?_ | refine x_ret ?_ | refine x_label ?_ | refine x_scope ?_ | (refine seq_ret ?_; clear hK K) | (refine seq_exit ?_; clear hK K) | refine block_normal ?_ | refine block_ret ?_ | refine block_exit ?_ | refine loop_exit ?_ | refine loop_ret ?_)
            | ((with_reducible refine x_reg_lit ?hq ?_); case hq => rfl)
            | ((first | (with_reducible first | refine x_op (fun K hK => ?_) | refine end_ret ?_ | refine end_normal ?_) | ((with_reducible refine x_guard_yes ?hy (fun K hK => ?_)); case hy => rfl)); simp only [go_sem, Int.cast_ofNat_Int, Nat.reduceEqDiff, Nat.reduceAdd, Nat.reduceMul, Nat.reduceLeDiff, Nat.reduceLT, Int.reduceLT, Int.reduceLE, Int.reduceEq, Int.reduceNeg, Int.reduceToNat, Nat.reducePow, reduceIte, reduceCtorEq, i0', i1, i6, i8', i9, hlt, z1, t1, cw, t3, t4])
            | ((with_reducible first | refine x_guard_no ?hy ?_ | refine x_cond_true ?hy ?_); case hy => rfl)
            | ((with_reducible first | refine x_guard_none ?hy ?_ | refine x_cond_false ?hy ?_); case hy => rfl)
            | ((with_reducible refine block_exit_ne ?hy ?_); case hy => decide))
        case' inr =>
          obtain ⟨p, rfl, cz, hz1, hz2⟩ := (hin.frame hM3.fr) i h
          have t1 : (i < len) = True := by simp [h]
          have t2 : (zs i < 0) = False := by simp; omega
          repeat' (first
            | (with_reducible first | refine seq_normal ?_ | (refine hK _ _ ?_; clear hK K) | refine x_seq (fun K hK => ?_) | refine x_nil ?_ | refine x_block ?_ | refine x_skip ?_ | refine x_exit ?_ | refine x_ret ?_ | refine x_label ?_ | refine x_scope ?_ | (refine seq_ret ?_; clear hK K) | (refine seq_exit ?_; clear hK K) | refine block_normal ?_ | refine block_ret ?_ | refine block_exit ?_ | refine loop_exit ?_ | refine loop_ret ?_)
            | ((with_reducible refine x_reg_lit ?hq ?_); case hq => rfl)
            | ((first | (with_reducible first | refine x_op (fun K hK => ?_) | refine end_ret ?_ | refine end_normal ?_) | ((with_reducible refine x_guard_yes ?hy (fun K hK => ?_)); case hy => rfl)); simp only [go_sem, Int.cast_ofNat_Int, Nat.reduceEqDiff, Nat.reduceAdd, Nat.reduceMul, Nat.reduceLeDiff, Nat.reduceLT, Int.reduceLT, Int.reduceLE, Int.reduceEq, Int.reduceNeg, Int.reduceToNat, Nat.reducePow, reduceIte, reduceCtorEq, i0', i1, i6, i8', i9, hlt, z1, t1, t2, cz, cw, t3, t4])
            | ((with_reducible first | refine x_guard_no ?hy ?_ | refine x_cond_true ?hy ?_); case hy => rfl)
            | ((with_reducible first | refine x_guard_none ?hy ?_ | refine x_cond_false ?hy ?_); case hy => rfl)
            | ((with_reducible refine block_exit_ne ?hy ?_); case hy => decide))
        all_goals
          refine m_join (k := w) (j := i + 1) (xs := all) (ys := [i + 1]) (R := []) hM3.fo (by rw [hmade, hrows]; exact List.Perm.swap _ _ _) (List.mem_of_getElem? hw) (by simp) ?_
          intro H4 hF4 hf4
          have hM4 := hM3.op hF4 hf4
          repeat' (first
            | (with_reducible first | refine seq_normal ?_ | (refine hK _ _ ?_; clear hK K) | refine x_seq (fun K hK => ?_) | refine x_nil ?_ | refine x_block ?_ | refine x_skip ?_ | refine x_exit ?_ | refine x_ret ?_ | refine x_label ?_ | refine x_scope ?_ | (refine seq_ret ?_; clear hK K) | (refine seq_exit ?_; clear hK K) | refine block_normal ?_ | refine block_ret ?_ | refine block_exit ?_ | refine loop_exit ?_ | refine loop_ret ?_)
            | ((with_reducible refine x_reg_lit ?hq ?_); case hq => rfl)
            | ((first | (with_reducible first | refine x_op (fun K hK => ?_) | refine end_ret ?_ | refine end_normal ?_) | ((with_reducible refine x_guard_yes ?hy (fun K hK => ?_)); case hy => rfl)); simp only [go_sem, Int.cast_ofNat_Int, Nat.reduceEqDiff, Nat.reduceAdd, Nat.reduceMul, Nat.reduceLeDiff, Nat.reduceLT, Int.reduceLT, Int.reduceLE, Int.reduceEq, Int.reduceNeg, Int.reduceToNat, Nat.reducePow, reduceIte, reduceCtorEq, i0', i1, i6, i8, i9])
            | ((with_reducible first | refine x_guard_no ?hy ?_ | refine x_cond_true ?hy ?_); case hy => rfl)
            | ((with_reducible first | refine x_guard_none ?hy ?_ | refine x_cond_false ?hy ?_); case hy => rfl)
            | ((with_reducible refine block_exit_ne ?hy ?_); case hy => decide))
          refine append_ir elems23 tl3 hM4.ir rfl (by decide) (by simp [hall]; omega) rfl ?_
          intro v6 H6 B6 hi6 hf6 hB6
          have hM6 := hM4.list (all' := all ++ [i + 1]) (by simpa using hi6) hf6 hB6
          repeat' (first
            | (with_reducible first | refine seq_normal ?_ | (refine hK _ _ ?_; clear hK K) | refine x_seq (fun K hK => ?_) | refine x_nil ?_ | refine x_block ?_ | refine x_skip ?_ | refine x_exit ?_ | refine x_ret ?_ | refine x_label ?_ | refine x_scope ?_ | (refine seq_ret ?_; clear hK K) | (refine seq_exit ?_; clear hK K) | refine block_normal ?_ | refine block_ret ?_ | refine block_exit ?_ | refine loop_exit ?_ | refine loop_ret ?_)
            | ((with_reducible refine x_reg_lit ?hq ?_); case hq => rfl)
            | ((first | (with_reducible first | refine x_op (fun K hK => ?_) | refine end_ret ?_ | refine end_normal ?_) | ((with_reducible refine x_guard_yes ?hy (fun K hK => ?_)); case hy => rfl)); simp only [go_sem, Int.cast_ofNat_Int, Nat.reduceEqDiff, Nat.reduceAdd, Nat.reduceMul, Nat.reduceLeDiff, Nat.reduceLT, Int.reduceLT, Int.reduceLE, Int.reduceEq, Int.reduceNeg, Int.reduceToNat, Nat.reducePow, reduceIte, reduceCtorEq, i9, ew])
            | ((with_reducible first | refine x_guard_no ?hy ?_ | refine x_cond_true ?hy ?_); case hy => rfl)
            | ((with_reducible first | refine x_guard_none ?hy ?_ | refine x_cond_false ?hy ?_); case hy => rfl)
            | ((with_reducible refine block_exit_ne ?hy ?_); case hy => decide))
          refine loop_normal (m' := xs.length - (i + 1)) (by omega) ⟨i + 1, T3, _, B6, v6, all ++ [i + 1], rfl, rfl, hM6, by simp, by simp [hall], hmfree, hmtop, hroom, ?_, by omega, rfl⟩
          rw [htake]
          simp only [List.map_append, List.map_cons, List.map_nil]
          rw [hmitn, hmap]
          exact hperm.append_right [x]
  · have hi' : i = xs.length := by omega
    have t1 : (i < xs.length) = False := by simp; omega
    repeat' (first
      | (with_reducible first | refine seq_normal ?_ | (refine hK _ _ ?_; clear hK K) | refine x_seq (fun K hK => ?_) | refine x_nil ?_ | refine x_block ?_ | refine x_skip ?_ | refine x_exit ?_ | refine x_ret ?_ | refine x_label ?_ | refine x_scope ?_ | (refine seq_ret ?_; clear hK K) | (refine seq_exit ?_; clear hK K) | refine block_normal ?_ | refine block_ret ?_ | refine block_exit ?_ | refine loop_exit ?_ | refine loop_ret ?_)
      | ((with_reducible refine x_reg_lit ?hq ?_); case hq => rfl)
      | ((first | (with_reducible first | refine x_op (fun K hK => ?_) | refine end_ret ?_ | refine end_normal ?_) | ((with_reducible refine x_guard_yes ?hy (fun K hK => ?_)); case hy => rfl)); simp only [go_sem, Int.cast_ofNat_Int, Nat.reduceEqDiff, Nat.reduceAdd, Nat.reduceMul, Nat.reduceLeDiff, Nat.reduceLT, Int.reduceLT, Int.reduceLE, Int.reduceEq, Int.reduceNeg, Int.reduceToNat, Nat.reducePow, reduceIte, reduceCtorEq, i0, i9, i6, i8, t1])
      | ((with_reducible first | refine x_guard_no ?hy ?_ | refine x_cond_true ?hy ?_); case hy => rfl)
      | ((with_reducible first | refine x_guard_none ?hy ?_ | refine x_cond_false ?hy ?_); case hy => rfl)
      | ((with_reducible refine block_exit_ne ?hy ?_); case hy => decide))
    rw [if_neg (by omega)] at hrows
    refine fin _ _ _ _ _ _ _ hM hrows (by omega) hfree (by omega) hroom ?_
    rw [hi', List.take_length] at hperm
    exact hperm
end Go.Proofs.Ytndkbhlfbeiniaa

namespace Go.Proofs.Ytndkbhlfbeiniaa
open Go Go.Hp Go.Sp
set_option linter.all false
set_option maxRecDepth 100000
set_option maxHeartbeats 1600000

theorem RM.cell {H0 H : Heap} {f g n c : Nat} {T : Nat → Prop} {S : Sq} {all : List Nat} (h : RM H0 H f T S (some g) (.slice (some ⟨g, 0, none⟩) n c) all) {k x : Nat} (hk : all[k]? = some x) : hcell H ⟨g, k, none⟩ = some (.int .i64 (x : Nat)) :=
  h.ir.cell (by rw [List.getElem?_map, hk]; rfl)
theorem RM.open {H0 H : Heap} {f : Nat} {T : Nat → Prop} {S : Sq} {B : Option Nat} {v : Value} {all : List Nat} (h : RM H0 H f T S B v all) (hne : all ≠ []) :
    ∃ g c, B = some g ∧ v = .slice (some ⟨g, 0, none⟩) all.length c ∧ all.length ≤ c := by
  obtain ⟨g, c, h1, h2, _, h3⟩ := h.ir.rowAt (i := 0) (by rw [List.length_map]; exact List.length_pos_iff.2 hne)
  rw [List.length_map] at h2 h3
  exact ⟨g, c, h1, h2, h3⟩
theorem split_at' {l : List Nat} {i x : Nat} (h : l[i]? = some x) : l = l.take i ++ x :: l.drop (i + 1) := by
  have hlt := (List.getElem?_eq_some_iff.1 h).1
  have e : l[i] = x := (List.getElem?_eq_some_iff.1 h).2
  rw [← e, ← List.drop_eq_getElem_cons hlt, List.take_append_drop]
theorem stands_ok {H0 H : Heap} {f : Nat} {T : Nat → Prop} {S : Sq} {B : Option Nat} {v : Value} {all : List Nat} {K : Value → Heap → Prop} (hM : RM H0 H f T S B v all) (hr : S.rows = [all]) (hne : all ≠ [])
    (fin : ∀ H', RM H0 H' f T S B v all → K (.bool true) H') : CallsH Try.prog 26 #[.pointer (some ⟨f, 0, none⟩), v] H K := by
  obtain ⟨g, c, rfl, rfl, hc⟩ := hM.open hne
  have hpos := List.length_pos_iff.2 hne
  have hx : all ∈ S.rows := by rw [hr]; exact .head _
  have hlen : all.length ≤ 4096 := by have := hM.fo.len; rw [hr] at this; simpa using this
  obtain ⟨n, hn⟩ : ∃ n, n = all.length := ⟨_, rfl⟩
  rw [← hn] at hpos hlen hM fin ⊢
  have eq : IntKind.i64.wrap ((n : Int).tdiv 2) = ((n / 2 : Nat) : Int) := by
    rw [Int.tdiv_eq_ediv_of_nonneg (by omega), wrap_i64] <;> omega
  have hmid : n / 2 < n := by omega
  obtain ⟨w, hw⟩ : ∃ w, all[n / 2]? = some w := ⟨_, List.getElem?_eq_getElem (by omega)⟩
  obtain ⟨w0, hw0⟩ : ∃ w, all[0]? = some w := ⟨_, List.getElem?_eq_getElem (by omega)⟩
  have two : ((2 : Int) = 0) = False := by simp
  refine call26 (by simp) ?_
  simp only [Try.f26, Option.getD_some]
  have cw := hM.cell hw
  repeat' (first
    | (with_reducible first | refine seq_normal ?_ | (refine hK _ _ ?_; clear hK K) | refine x_seq (fun K hK => ?_) | refine x_nil ?_ | refine x_block ?_ | refine x_skip ?_ | refine x_exit ?_ | refine x_ret ?_ | refine x_label ?_ | refine x_scope ?_ | (refine seq_ret ?_; clear hK K) | (refine seq_exit ?_; clear hK K) | refine block_normal ?_ | refine block_ret ?_ | refine block_exit ?_ | refine loop_exit ?_ | refine loop_ret ?_)
    | ((with_reducible refine x_reg_lit ?hq ?_); case hq => rfl)
    | ((first | (with_reducible first | refine x_op (fun K hK => ?_) | refine end_ret ?_ | refine end_normal ?_) | ((with_reducible refine x_guard_yes ?hy (fun K hK => ?_)); case hy => rfl)); simp only [go_sem, Int.cast_ofNat_Int, Nat.reduceEqDiff, Nat.reduceAdd, Nat.reduceMul, Nat.reduceLeDiff, Nat.reduceLT, Int.reduceLT, Int.reduceLE, Int.reduceEq, Int.reduceNeg, Int.reduceToNat, Nat.reducePow, reduceIte, reduceCtorEq, eq, two, hmid, cw])
    | ((with_reducible first | refine x_guard_no ?hy ?_ | refine x_cond_true ?hy ?_); case hy => rfl)
    | ((with_reducible first | refine x_guard_none ?hy ?_ | refine x_cond_false ?hy ?_); case hy => rfl)
    | ((with_reducible refine block_exit_ne ?hy ?_); case hy => decide))
  refine m_all hM.fo hx (List.mem_of_getElem? hw) ?_
  intro H1 B1 v1 hF1 hi1 hB1 hf1
  have hM1 := hM.op hF1 hf1
  repeat' (first
    | (with_reducible first | refine seq_normal ?_ | (refine hK _ _ ?_; clear hK K) | refine x_seq (fun K hK => ?_) | refine x_nil ?_ | refine x_block ?_ | refine x_skip ?_ | refine x_exit ?_ | refine x_ret ?_ | refine x_label ?_ | refine x_scope ?_ | (refine seq_ret ?_; clear hK K) | (refine seq_exit ?_; clear hK K) | refine block_normal ?_ | refine block_ret ?_ | refine block_exit ?_ | refine loop_exit ?_ | refine loop_ret ?_)
    | ((with_reducible refine x_reg_lit ?hq ?_); case hq => rfl)
    | ((first | (with_reducible first | refine x_op (fun K hK => ?_) | refine end_ret ?_ | refine end_normal ?_) | ((with_reducible refine x_guard_yes ?hy (fun K hK => ?_)); case hy => rfl)); simp only [go_sem, Int.cast_ofNat_Int, Nat.reduceEqDiff, Nat.reduceAdd, Nat.reduceMul, Nat.reduceLeDiff, Nat.reduceLT, Int.reduceLT, Int.reduceLE, Int.reduceEq, Int.reduceNeg, Int.reduceToNat, Nat.reducePow, reduceIte, reduceCtorEq])
    | ((with_reducible first | refine x_guard_no ?hy ?_ | refine x_cond_true ?hy ?_); case hy => rfl)
    | ((with_reducible first | refine x_guard_none ?hy ?_ | refine x_cond_false ?hy ?_); case hy => rfl)
    | ((with_reducible refine block_exit_ne ?hy ?_); case hy => decide))
  refine Pkisthmuslaw03.same_ok hi1.rds hM1.ir.rds (by simp; omega) ?_
  have dt : decide (List.map Int.ofNat all = List.map Int.ofNat all) = true := by simp
  rw [dt]
  repeat' (first
    | (with_reducible first | refine seq_normal ?_ | (refine hK _ _ ?_; clear hK K) | refine x_seq (fun K hK => ?_) | refine x_nil ?_ | refine x_block ?_ | refine x_skip ?_ | refine x_exit ?_ | refine x_ret ?_ | refine x_label ?_ | refine x_scope ?_ | (refine seq_ret ?_; clear hK K) | (refine seq_exit ?_; clear hK K) | refine block_normal ?_ | refine block_ret ?_ | refine block_exit ?_ | refine loop_exit ?_ | refine loop_ret ?_)
    | ((with_reducible refine x_reg_lit ?hq ?_); case hq => rfl)
    | ((first | (with_reducible first | refine x_op (fun K hK => ?_) | refine end_ret ?_ | refine end_normal ?_) | ((with_reducible refine x_guard_yes ?hy (fun K hK => ?_)); case hy => rfl)); simp only [go_sem, Int.cast_ofNat_Int, Nat.reduceEqDiff, Nat.reduceAdd, Nat.reduceMul, Nat.reduceLeDiff, Nat.reduceLT, Int.reduceLT, Int.reduceLE, Int.reduceEq, Int.reduceNeg, Int.reduceToNat, Nat.reducePow, reduceIte, reduceCtorEq])
    | ((with_reducible first | refine x_guard_no ?hy ?_ | refine x_cond_true ?hy ?_); case hy => rfl)
    | ((with_reducible first | refine x_guard_none ?hy ?_ | refine x_cond_false ?hy ?_); case hy => rfl)
    | ((with_reducible refine block_exit_ne ?hy ?_); case hy => decide))
  refine x_loop (fun m e' H' => ∃ i : Nat, RM H0 H' f T S (some g) (.slice (some ⟨g, 0, none⟩) n c) all ∧ e' 8 = .int .i64 (i : Nat) ∧ i ≤ n ∧ m = n - i) n ⟨0, hM1, rfl, Nat.zero_le _, rfl⟩ ?_
  rintro m e1 H2 ⟨i, hM2, i8, hi, rfl⟩ hoff
  have i0 := (hoff 0 rfl).trans rfl
  have i1 := (hoff 1 rfl).trans rfl
  clear hoff
  by_cases hlt : i < n
  · obtain ⟨x, hxi⟩ : ∃ x, all[i]? = some x := ⟨_, List.getElem?_eq_getElem (by omega)⟩
    obtain ⟨y, hy⟩ : ∃ y, all[n - 1 - i]? = some y := ⟨_, List.getElem?_eq_getElem (by omega)⟩
    have cx := hM2.cell hxi
    have ew1 : IntKind.i64.wrap ((n : Int) - 1) = ((n - 1 : Nat) : Int) := by rw [wrap_i64] <;> omega
    have ew2 : IntKind.i64.wrap (((n - 1 : Nat) : Int) - (i : Int)) = ((n - 1 - i : Nat) : Int) := by rw [wrap_i64] <;> omega
    have ew : IntKind.i64.wrap ((i : Int) + 1) = ((i + 1 : Nat) : Int) := by rw [wrap_i64] <;> omega
    have hlt2 : n - 1 - i < n := by omega
    repeat' (first
      | (with_reducible first | refine seq_normal ?_ | (refine hK _ _ ?_; clear hK K) | refine x_seq (fun K hK => ?_) | refine x_nil ?_ | refine x_block ?_ | refine x_skip ?_ | refine x_exit ?_ | refine x_ret ?_ | refine x_label ?_ | refine x_scope ?_ | (refine seq_ret ?_; clear hK K) | (refine seq_exit ?_; clear hK K) | refine block_normal ?_ | refine block_ret ?_ | refine block_exit ?_ | refine loop_exit ?_ | refine loop_ret ?_)
      | ((with_reducible refine x_reg_lit ?hq ?_); case hq => rfl)
      | ((first | (with_reducible first | refine x_op (fun K hK => ?_) | refine end_ret ?_ | refine end_normal ?_) | ((with_reducible refine x_guard_yes ?hy (fun K hK => ?_)); case hy => rfl)); simp only [go_sem, Int.cast_ofNat_Int, Nat.reduceEqDiff, Nat.reduceAdd, Nat.reduceMul, Nat.reduceLeDiff, Nat.reduceLT, Int.reduceLT, Int.reduceLE, Int.reduceEq, Int.reduceNeg, Int.reduceToNat, Nat.reducePow, reduceIte, reduceCtorEq, i0, i1, i8, hlt, cx])
      | ((with_reducible first | refine x_guard_no ?hy ?_ | refine x_cond_true ?hy ?_); case hy => rfl)
      | ((with_reducible first | refine x_guard_none ?hy ?_ | refine x_cond_false ?hy ?_); case hy => rfl)
      | ((with_reducible refine block_exit_ne ?hy ?_); case hy => decide))
    refine m_rank hM2.fo hx (split_at' hxi) ?_
    intro H3 hF3 hf3
    have hM3 := hM2.op hF3 hf3
    have cy := hM3.cell hy
    have etl : (all.take i).length = i := by simp; omega
    rw [etl]
    repeat' (first
      | (with_reducible first | refine seq_normal ?_ | (refine hK _ _ ?_; clear hK K) | refine x_seq (fun K hK => ?_) | refine x_nil ?_ | refine x_block ?_ | refine x_skip ?_ | refine x_exit ?_ | refine x_ret ?_ | refine x_label ?_ | refine x_scope ?_ | (refine seq_ret ?_; clear hK K) | (refine seq_exit ?_; clear hK K) | refine block_normal ?_ | refine block_ret ?_ | refine block_exit ?_ | refine loop_exit ?_ | refine loop_ret ?_)
      | ((with_reducible refine x_reg_lit ?hq ?_); case hq => rfl)
      | ((first | (with_reducible first | refine x_op (fun K hK => ?_) | refine end_ret ?_ | refine end_normal ?_) | ((with_reducible refine x_guard_yes ?hy (fun K hK => ?_)); case hy => rfl)); simp only [go_sem, Int.cast_ofNat_Int, Nat.reduceEqDiff, Nat.reduceAdd, Nat.reduceMul, Nat.reduceLeDiff, Nat.reduceLT, Int.reduceLT, Int.reduceLE, Int.reduceEq, Int.reduceNeg, Int.reduceToNat, Nat.reducePow, reduceIte, reduceCtorEq, i0, i1, i8, ew1, ew2, hlt2, cy])
      | ((with_reducible first | refine x_guard_no ?hy ?_ | refine x_cond_true ?hy ?_); case hy => rfl)
      | ((with_reducible first | refine x_guard_none ?hy ?_ | refine x_cond_false ?hy ?_); case hy => rfl)
      | ((with_reducible refine block_exit_ne ?hy ?_); case hy => decide))
    refine m_at (n := i) hM3.fo hx (List.mem_of_getElem? hy) hxi ?_
    intro H4 hF4 hf4
    have hM4 := hM3.op hF4 hf4
    have cx4 := hM4.cell hxi
    have z1 : ((i : Int) != (i : Int)) = false := by simp
    have z2 : ((x : Int) != (x : Int)) = false := by simp
    repeat' (first
      | (with_reducible first | refine seq_normal ?_ | (refine hK _ _ ?_; clear hK K) | refine x_seq (fun K hK => ?_) | refine x_nil ?_ | refine x_block ?_ | refine x_skip ?_ | refine x_exit ?_ | refine x_ret ?_ | refine x_label ?_ | refine x_scope ?_ | (refine seq_ret ?_; clear hK K) | (refine seq_exit ?_; clear hK K) | refine block_normal ?_ | refine block_ret ?_ | refine block_exit ?_ | refine loop_exit ?_ | refine loop_ret ?_)
      | ((with_reducible refine x_reg_lit ?hq ?_); case hq => rfl)
      | ((first | (with_reducible first | refine x_op (fun K hK => ?_) | refine end_ret ?_ | refine end_normal ?_) | ((with_reducible refine x_guard_yes ?hy (fun K hK => ?_)); case hy => rfl)); simp only [go_sem, Int.cast_ofNat_Int, Nat.reduceEqDiff, Nat.reduceAdd, Nat.reduceMul, Nat.reduceLeDiff, Nat.reduceLT, Int.reduceLT, Int.reduceLE, Int.reduceEq, Int.reduceNeg, Int.reduceToNat, Nat.reducePow, reduceIte, reduceCtorEq, i0, i1, i8, hlt, cx4, z1, z2, ew])
      | ((with_reducible first | refine x_guard_no ?hy ?_ | refine x_cond_true ?hy ?_); case hy => rfl)
      | ((with_reducible first | refine x_guard_none ?hy ?_ | refine x_cond_false ?hy ?_); case hy => rfl)
      | ((with_reducible refine block_exit_ne ?hy ?_); case hy => decide))
    exact loop_normal (m' := n - (i + 1)) (by omega) ⟨i + 1, hM4, rfl, by omega, rfl⟩
  · have t1 : (i < n) = False := by simp; omega
    have c0 := hM2.cell hw0
    have t2 : (0 < n) = True := by simp; omega
    have t3 : ((0 : Int) < (n : Int)) = True := by simp; omega
    repeat' (first
      | (with_reducible first | refine seq_normal ?_ | (refine hK _ _ ?_; clear hK K) | refine x_seq (fun K hK => ?_) | refine x_nil ?_ | refine x_block ?_ | refine x_skip ?_ | refine x_exit ?_ | refine x_ret ?_ | refine x_label ?_ | refine x_scope ?_ | (refine seq_ret ?_; clear hK K) | (refine seq_exit ?_; clear hK K) | refine block_normal ?_ | refine block_ret ?_ | refine block_exit ?_ | refine loop_exit ?_ | refine loop_ret ?_)
      | ((with_reducible refine x_reg_lit ?hq ?_); case hq => rfl)
      | ((first | (with_reducible first | refine x_op (fun K hK => ?_) | refine end_ret ?_ | refine end_normal ?_) | ((with_reducible refine x_guard_yes ?hy (fun K hK => ?_)); case hy => rfl)); simp only [go_sem, Int.cast_ofNat_Int, Nat.reduceEqDiff, Nat.reduceAdd, Nat.reduceMul, Nat.reduceLeDiff, Nat.reduceLT, Int.reduceLT, Int.reduceLE, Int.reduceEq, Int.reduceNeg, Int.reduceToNat, Nat.reducePow, reduceIte, reduceCtorEq, i0, i1, i8, t1, t2, t3, c0])
      | ((with_reducible first | refine x_guard_no ?hy ?_ | refine x_cond_true ?hy ?_); case hy => rfl)
      | ((with_reducible first | refine x_guard_none ?hy ?_ | refine x_cond_false ?hy ?_); case hy => rfl)
      | ((with_reducible refine block_exit_ne ?hy ?_); case hy => decide))
    refine m_at_bad (n := (n : Int)) hM2.fo hx (List.mem_of_getElem? hw0) (.inr (by omega)) ?_
    intro H3 hF3 hf3
    have hM3 := hM2.op hF3 hf3
    have c0' := hM3.cell hw0
    repeat' (first
      | (with_reducible first | refine seq_normal ?_ | (refine hK _ _ ?_; clear hK K) | refine x_seq (fun K hK => ?_) | refine x_nil ?_ | refine x_block ?_ | refine x_skip ?_ | refine x_exit ?_ | refine x_ret ?_ | refine x_label ?_ | refine x_scope ?_ | (refine seq_ret ?_; clear hK K) | (refine seq_exit ?_; clear hK K) | refine block_normal ?_ | refine block_ret ?_ | refine block_exit ?_ | refine loop_exit ?_ | refine loop_ret ?_)
      | ((with_reducible refine x_reg_lit ?hq ?_); case hq => rfl)
      | ((first | (with_reducible first | refine x_op (fun K hK => ?_) | refine end_ret ?_ | refine end_normal ?_) | ((with_reducible refine x_guard_yes ?hy (fun K hK => ?_)); case hy => rfl)); simp only [go_sem, Int.cast_ofNat_Int, Nat.reduceEqDiff, Nat.reduceAdd, Nat.reduceMul, Nat.reduceLeDiff, Nat.reduceLT, Int.reduceLT, Int.reduceLE, Int.reduceEq, Int.reduceNeg, Int.reduceToNat, Nat.reducePow, reduceIte, reduceCtorEq, i0, i1, i8, t2, t3, c0'])
      | ((with_reducible first | refine x_guard_no ?hy ?_ | refine x_cond_true ?hy ?_); case hy => rfl)
      | ((with_reducible first | refine x_guard_none ?hy ?_ | refine x_cond_false ?hy ?_); case hy => rfl)
      | ((with_reducible refine block_exit_ne ?hy ?_); case hy => decide))
    refine m_at_bad (n := -1) hM3.fo hx (List.mem_of_getElem? hw0) (.inl (by omega)) ?_
    intro H4 hF4 hf4
    have hM4 := hM3.op hF4 hf4
    repeat' (first
      | (with_reducible first | refine seq_normal ?_ | (refine hK _ _ ?_; clear hK K) | refine x_seq (fun K hK => ?_) | refine x_nil ?_ | refine x_block ?_ | refine x_skip ?_ | refine x_exit ?_ | refine x_ret ?_ | refine x_label ?_ | refine x_scope ?_ | (refine seq_ret ?_; clear hK K) | (refine seq_exit ?_; clear hK K) | refine block_normal ?_ | refine block_ret ?_ | refine block_exit ?_ | refine loop_exit ?_ | refine loop_ret ?_)
      | ((with_reducible refine x_reg_lit ?hq ?_); case hq => rfl)
      | ((first | (with_reducible first | refine x_op (fun K hK => ?_) | refine end_ret ?_ | refine end_normal ?_) | ((with_reducible refine x_guard_yes ?hy (fun K hK => ?_)); case hy => rfl)); simp only [go_sem, Int.cast_ofNat_Int, Nat.reduceEqDiff, Nat.reduceAdd, Nat.reduceMul, Nat.reduceLeDiff, Nat.reduceLT, Int.reduceLT, Int.reduceLE, Int.reduceEq, Int.reduceNeg, Int.reduceToNat, Nat.reducePow, reduceIte, reduceCtorEq])
      | ((with_reducible first | refine x_guard_no ?hy ?_ | refine x_cond_true ?hy ?_); case hy => rfl)
      | ((with_reducible first | refine x_guard_none ?hy ?_ | refine x_cond_false ?hy ?_); case hy => rfl)
      | ((with_reducible refine block_exit_ne ?hy ?_); case hy => decide))
    exact fin _ hM4
theorem aggFlat : flatS Try.prog 42 = some [(.int .i64, 0), (.int .i64, 1), (.int .i64, 2), (.int .i64, 3), (.int .i64, 4)] := by kernel_rfl
theorem agg_eq {op : BinOp} {ox oy : Operand} {a b : Agg} {H : Heap} {K : Value → Prop} (hK : match op with | .eql => K (.bool (decide (a = b))) | .neq => K (.bool (!decide (a = b))) | _ => False) : binX Try.prog op 42 ox oy a.val b.val H K := by
  refine binX_flat aggFlat (b := decide (a = b)) ?_ hK
  obtain ⟨a1, a2, a3, a4, a5⟩ := a
  obtain ⟨b1, b2, b3, b4, b5⟩ := b
  simp only [allEq, sEq, List.getElem?_toArray, List.getElem?_cons_zero, List.getElem?_cons_succ, if_true, Agg.mk.injEq]
  have key : ∀ x y : Int, (x == y) = decide (x = y) := fun x y => by by_cases h : x = y <;> simp [h]
  simp only [key]
  by_cases h1 : a1 = b1 <;> by_cases h2 : a2 = b2 <;> by_cases h3 : a3 = b3 <;> by_cases h4 : a4 = b4 <;> by_cases h5 : a5 = b5 <;> simp [h1, h2, h3, h4, h5]
theorem awake_ok {H : Heap} {K : Value → Heap → Prop} (fin : ∀ H', Fr (fun _ => False) H H' → K (.bool true) H') : CallsH Try.prog 11 #[] H K := by
  refine call11 (by simp) ?_
  simp only [Try.f11, Option.getD_some]
  repeat' (first
    | (with_reducible first | refine seq_normal ?_ | (refine hK _ _ ?_; clear hK K) | refine x_seq (fun K hK => ?_) | refine x_nil ?_ | refine x_block ?_ | refine x_skip ?_ | refine x_exit ?_ | refine x_ret ?_ | refine x_label ?_ | refine x_scope ?_ | (refine seq_ret ?_; clear hK K) | (refine seq_exit ?_; clear hK K) | refine block_normal ?_ | refine block_ret ?_ | refine block_exit ?_ | refine loop_exit ?_ | refine loop_ret ?_)
    | ((with_reducible refine x_reg_lit ?hq ?_); case hq => rfl)
    | ((first | (with_reducible first | refine x_op (fun K hK => ?_) | refine end_ret ?_ | refine end_normal ?_) | ((with_reducible refine x_guard_yes ?hy (fun K hK => ?_)); case hy => rfl)); simp only [go_sem, Int.cast_ofNat_Int, Nat.reduceEqDiff, Nat.reduceAdd, Nat.reduceMul, Nat.reduceLeDiff, Nat.reduceLT, Int.reduceLT, Int.reduceLE, Int.reduceEq, Int.reduceNeg, Int.reduceToNat, Nat.reducePow, reduceIte, reduceCtorEq])
    | ((with_reducible first | refine x_guard_no ?hy ?_ | refine x_cond_true ?hy ?_); case hy => rfl)
    | ((with_reducible first | refine x_guard_none ?hy ?_ | refine x_cond_false ?hy ?_); case hy => rfl)
    | ((with_reducible refine block_exit_ne ?hy ?_); case hy => decide))
  refine new_ok (n := 3) (by omega) ?_
  intro H1 f T1 hF1 hf1 hT1 hTf
  repeat' (first
    | (with_reducible first | refine seq_normal ?_ | (refine hK _ _ ?_; clear hK K) | refine x_seq (fun K hK => ?_) | refine x_nil ?_ | refine x_block ?_ | refine x_skip ?_ | refine x_exit ?_ | refine x_ret ?_ | refine x_label ?_ | refine x_scope ?_ | (refine seq_ret ?_; clear hK K) | (refine seq_exit ?_; clear hK K) | refine block_normal ?_ | refine block_ret ?_ | refine block_exit ?_ | refine loop_exit ?_ | refine loop_ret ?_)
    | ((with_reducible refine x_reg_lit ?hq ?_); case hq => rfl)
    | ((first | (with_reducible first | refine x_op (fun K hK => ?_) | refine end_ret ?_ | refine end_normal ?_) | ((with_reducible refine x_guard_yes ?hy (fun K hK => ?_)); case hy => rfl)); simp only [go_sem, Int.cast_ofNat_Int, Nat.reduceEqDiff, Nat.reduceAdd, Nat.reduceMul, Nat.reduceLeDiff, Nat.reduceLT, Int.reduceLT, Int.reduceLE, Int.reduceEq, Int.reduceNeg, Int.reduceToNat, Nat.reducePow, reduceIte, reduceCtorEq])
    | ((with_reducible first | refine x_guard_no ?hy ?_ | refine x_cond_true ?hy ?_); case hy => rfl)
    | ((with_reducible first | refine x_guard_none ?hy ?_ | refine x_cond_false ?hy ?_); case hy => rfl)
    | ((with_reducible refine block_exit_ne ?hy ?_); case hy => decide))
  refine make_ok (x := ⟨5, true, 1⟩) hF1 ⟨⟨by decide, by decide⟩, by decide, by decide⟩ ⟨by decide, by decide, by decide, by decide⟩ (by decide) ?_
  intro H2 T2 hF2 hf2 hT2 _
  have n1 : (Sq.new 3).next = 1 := rfl
  rw [n1]
  repeat' (first
    | (with_reducible first | refine seq_normal ?_ | (refine hK _ _ ?_; clear hK K) | refine x_seq (fun K hK => ?_) | refine x_nil ?_ | refine x_block ?_ | refine x_skip ?_ | refine x_exit ?_ | refine x_ret ?_ | refine x_label ?_ | refine x_scope ?_ | (refine seq_ret ?_; clear hK K) | (refine seq_exit ?_; clear hK K) | refine block_normal ?_ | refine block_ret ?_ | refine block_exit ?_ | refine loop_exit ?_ | refine loop_ret ?_)
    | ((with_reducible refine x_reg_lit ?hq ?_); case hq => rfl)
    | ((first | (with_reducible first | refine x_op (fun K hK => ?_) | refine end_ret ?_ | refine end_normal ?_) | ((with_reducible refine x_guard_yes ?hy (fun K hK => ?_)); case hy => rfl)); simp only [go_sem, Int.cast_ofNat_Int, Nat.reduceEqDiff, Nat.reduceAdd, Nat.reduceMul, Nat.reduceLeDiff, Nat.reduceLT, Int.reduceLT, Int.reduceLE, Int.reduceEq, Int.reduceNeg, Int.reduceToNat, Nat.reducePow, reduceIte, reduceCtorEq])
    | ((with_reducible first | refine x_guard_no ?hy ?_ | refine x_cond_true ?hy ?_); case hy => rfl)
    | ((with_reducible first | refine x_guard_none ?hy ?_ | refine x_cond_false ?hy ?_); case hy => rfl)
    | ((with_reducible refine block_exit_ne ?hy ?_); case hy => decide))
  refine make_ok (x := ⟨7, false, 2⟩) hF2 ⟨⟨by decide, by decide⟩, by decide, by decide⟩ ⟨by decide, by decide, by decide, by decide⟩ (by decide) ?_
  intro H3 T3 hF3 hf3 hT3 _
  have n2 : ((Sq.new 3).made ⟨5, true, 1⟩).next = 2 := rfl
  rw [n2]
  repeat' (first
    | (with_reducible first | refine seq_normal ?_ | (refine hK _ _ ?_; clear hK K) | refine x_seq (fun K hK => ?_) | refine x_nil ?_ | refine x_block ?_ | refine x_skip ?_ | refine x_exit ?_ | refine x_ret ?_ | refine x_label ?_ | refine x_scope ?_ | (refine seq_ret ?_; clear hK K) | (refine seq_exit ?_; clear hK K) | refine block_normal ?_ | refine block_ret ?_ | refine block_exit ?_ | refine loop_exit ?_ | refine loop_ret ?_)
    | ((with_reducible refine x_reg_lit ?hq ?_); case hq => rfl)
    | ((first | (with_reducible first | refine x_op (fun K hK => ?_) | refine end_ret ?_ | refine end_normal ?_) | ((with_reducible refine x_guard_yes ?hy (fun K hK => ?_)); case hy => rfl)); simp only [go_sem, Int.cast_ofNat_Int, Nat.reduceEqDiff, Nat.reduceAdd, Nat.reduceMul, Nat.reduceLeDiff, Nat.reduceLT, Int.reduceLT, Int.reduceLE, Int.reduceEq, Int.reduceNeg, Int.reduceToNat, Nat.reducePow, reduceIte, reduceCtorEq])
    | ((with_reducible first | refine x_guard_no ?hy ?_ | refine x_cond_true ?hy ?_); case hy => rfl)
    | ((with_reducible first | refine x_guard_none ?hy ?_ | refine x_cond_false ?hy ?_); case hy => rfl)
    | ((with_reducible refine block_exit_ne ?hy ?_); case hy => decide))
  refine make_ok (x := ⟨-3, true, 0⟩) hF3 ⟨⟨by decide, by decide⟩, by decide, by decide⟩ ⟨by decide, by decide, by decide, by decide⟩ (by decide) ?_
  intro H4 T4 hF4 hf4 hT4 _
  have n3 : (((Sq.new 3).made ⟨5, true, 1⟩).made ⟨7, false, 2⟩).next = 3 := rfl
  rw [n3]
  repeat' (first
    | (with_reducible first | refine seq_normal ?_ | (refine hK _ _ ?_; clear hK K) | refine x_seq (fun K hK => ?_) | refine x_nil ?_ | refine x_block ?_ | refine x_skip ?_ | refine x_exit ?_ | refine x_ret ?_ | refine x_label ?_ | refine x_scope ?_ | (refine seq_ret ?_; clear hK K) | (refine seq_exit ?_; clear hK K) | refine block_normal ?_ | refine block_ret ?_ | refine block_exit ?_ | refine loop_exit ?_ | refine loop_ret ?_)
    | ((with_reducible refine x_reg_lit ?hq ?_); case hq => rfl)
    | ((first | (with_reducible first | refine x_op (fun K hK => ?_) | refine end_ret ?_ | refine end_normal ?_) | ((with_reducible refine x_guard_yes ?hy (fun K hK => ?_)); case hy => rfl)); simp only [go_sem, Int.cast_ofNat_Int, Nat.reduceEqDiff, Nat.reduceAdd, Nat.reduceMul, Nat.reduceLeDiff, Nat.reduceLT, Int.reduceLT, Int.reduceLE, Int.reduceEq, Int.reduceNeg, Int.reduceToNat, Nat.reducePow, reduceIte, reduceCtorEq])
    | ((with_reducible first | refine x_guard_no ?hy ?_ | refine x_cond_true ?hy ?_); case hy => rfl)
    | ((with_reducible first | refine x_guard_none ?hy ?_ | refine x_cond_false ?hy ?_); case hy => rfl)
    | ((with_reducible refine block_exit_ne ?hy ?_); case hy => decide))
  refine m_join (k := 1) (j := 2) (xs := [1]) (ys := [2]) (R := [[3]]) hF4 (by decide) (by decide) (by decide) ?_
  intro H5 hF5 hf5
  repeat' (first
    | (with_reducible first | refine seq_normal ?_ | (refine hK _ _ ?_; clear hK K) | refine x_seq (fun K hK => ?_) | refine x_nil ?_ | refine x_block ?_ | refine x_skip ?_ | refine x_exit ?_ | refine x_ret ?_ | refine x_label ?_ | refine x_scope ?_ | (refine seq_ret ?_; clear hK K) | (refine seq_exit ?_; clear hK K) | refine block_normal ?_ | refine block_ret ?_ | refine block_exit ?_ | refine loop_exit ?_ | refine loop_ret ?_)
    | ((with_reducible refine x_reg_lit ?hq ?_); case hq => rfl)
    | ((first | (with_reducible first | refine x_op (fun K hK => ?_) | refine end_ret ?_ | refine end_normal ?_) | ((with_reducible refine x_guard_yes ?hy (fun K hK => ?_)); case hy => rfl)); simp only [go_sem, Int.cast_ofNat_Int, Nat.reduceEqDiff, Nat.reduceAdd, Nat.reduceMul, Nat.reduceLeDiff, Nat.reduceLT, Int.reduceLT, Int.reduceLE, Int.reduceEq, Int.reduceNeg, Int.reduceToNat, Nat.reducePow, reduceIte, reduceCtorEq])
    | ((with_reducible first | refine x_guard_no ?hy ?_ | refine x_cond_true ?hy ?_); case hy => rfl)
    | ((with_reducible first | refine x_guard_none ?hy ?_ | refine x_cond_false ?hy ?_); case hy => rfl)
    | ((with_reducible refine block_exit_ne ?hy ?_); case hy => decide))
  refine m_join (k := 2) (j := 3) (xs := [1, 2]) (ys := [3]) (R := []) hF5 (by decide) (by decide) (by decide) ?_
  intro H6 hF6 hf6
  repeat' (first
    | (with_reducible first | refine seq_normal ?_ | (refine hK _ _ ?_; clear hK K) | refine x_seq (fun K hK => ?_) | refine x_nil ?_ | refine x_block ?_ | refine x_skip ?_ | refine x_exit ?_ | refine x_ret ?_ | refine x_label ?_ | refine x_scope ?_ | (refine seq_ret ?_; clear hK K) | (refine seq_exit ?_; clear hK K) | refine block_normal ?_ | refine block_ret ?_ | refine block_exit ?_ | refine loop_exit ?_ | refine loop_ret ?_)
    | ((with_reducible refine x_reg_lit ?hq ?_); case hq => rfl)
    | ((first | (with_reducible first | refine x_op (fun K hK => ?_) | refine end_ret ?_ | refine end_normal ?_) | ((with_reducible refine x_guard_yes ?hy (fun K hK => ?_)); case hy => rfl)); simp only [go_sem, Int.cast_ofNat_Int, Nat.reduceEqDiff, Nat.reduceAdd, Nat.reduceMul, Nat.reduceLeDiff, Nat.reduceLT, Int.reduceLT, Int.reduceLE, Int.reduceEq, Int.reduceNeg, Int.reduceToNat, Nat.reducePow, reduceIte, reduceCtorEq])
    | ((with_reducible first | refine x_guard_no ?hy ?_ | refine x_cond_true ?hy ?_); case hy => rfl)
    | ((with_reducible first | refine x_guard_none ?hy ?_ | refine x_cond_false ?hy ?_); case hy => rfl)
    | ((with_reducible refine block_exit_ne ?hy ?_); case hy => decide))
  refine m_sum (k := 2) (xs := [1, 2, 3]) hF6 (by decide) (by decide) ?_
  intro H7 hF7 hf7
  have ea : aggOf ((((Sq.new 3).made ⟨5, true, 1⟩).made ⟨7, false, 2⟩).made ⟨-3, true, 0⟩).it [1, 2, 3] = ⟨2, 2, -3, 5, 3⟩ := by decide
  have ea' : ∀ S : Sq, S.it = ((((Sq.new 3).made ⟨5, true, 1⟩).made ⟨7, false, 2⟩).made ⟨-3, true, 0⟩).it → aggOf S.it [1, 2, 3] = ⟨2, 2, -3, 5, 3⟩ := fun S h => by rw [h]; exact ea
  rw [ea' _ rfl]
  repeat' (first
    | (with_reducible first | refine seq_normal ?_ | (refine hK _ _ ?_; clear hK K) | refine x_seq (fun K hK => ?_) | refine x_nil ?_ | refine x_block ?_ | refine x_skip ?_ | refine x_exit ?_ | refine x_ret ?_ | refine x_label ?_ | refine x_scope ?_ | (refine seq_ret ?_; clear hK K) | (refine seq_exit ?_; clear hK K) | refine block_normal ?_ | refine block_ret ?_ | refine block_exit ?_ | refine loop_exit ?_ | refine loop_ret ?_)
    | ((with_reducible refine x_reg_lit ?hq ?_); case hq => rfl)
    | ((first | (with_reducible first | refine x_op (fun K hK => ?_) | refine end_ret ?_ | refine end_normal ?_) | ((with_reducible refine x_guard_yes ?hy (fun K hK => ?_)); case hy => rfl)); simp only [go_sem, Int.cast_ofNat_Int, Nat.reduceEqDiff, Nat.reduceAdd, Nat.reduceMul, Nat.reduceLeDiff, Nat.reduceLT, Int.reduceLT, Int.reduceLE, Int.reduceEq, Int.reduceNeg, Int.reduceToNat, Nat.reducePow, reduceIte, reduceCtorEq, Agg.val, hcell_push, hcell_top, okW_push, okW_top, hcell_hset_ne, hcell_hset_off, hcell_hset_eq, okW_hset, hset_size, Array.size_push, Nat.lt_add_one, ne_add_one, add_one_ne, Nat.add_assoc, add_same, add_lt_same, Nat.reduceEqDiff, lt_add_k, add_k_ne, ne_add_k])
    | ((with_reducible first | refine x_guard_no ?hy ?_ | refine x_cond_true ?hy ?_); case hy => rfl)
    | ((with_reducible first | refine x_guard_none ?hy ?_ | refine x_cond_false ?hy ?_); case hy => rfl)
    | ((with_reducible refine block_exit_ne ?hy ?_); case hy => decide))
  generalize hH8 : hset _ _ _ = H8
  have hf8 : Fr (fun _ => False) H7 H8 := by rw [← hH8]; exact (by ((repeat (first | refine Fr.set ?_ (by simp) _ | refine Fr.push ?_ _)); exact Fr.refl _ _))
  have q8 : Cells [(H7.size, 0, .int .i64 2), (H7.size, 1, .int .i64 2), (H7.size, 2, .int .i64 (-3)), (H7.size, 3, .int .i64 5), (H7.size, 4, .int .i64 3)] H8 := by
    rw [← hH8]
    simp only [go_sem, Int.cast_ofNat_Int, Nat.reduceEqDiff, Nat.reduceAdd, Nat.reduceMul, Nat.reduceLeDiff, Nat.reduceLT, Int.reduceLT, Int.reduceLE, Int.reduceEq, Int.reduceNeg, Int.reduceToNat, Nat.reducePow, reduceIte, reduceCtorEq, Cells, and_true, hcell_push, hcell_top, okW_push, okW_top, hcell_hset_ne, hcell_hset_off, hcell_hset_eq, okW_hset, hset_size, Array.size_push, Nat.lt_add_one, ne_add_one, add_one_ne, Nat.add_assoc, add_same, add_lt_same, Nat.reduceEqDiff, lt_add_k, add_k_ne, ne_add_k]
  clear hH8
  have hF8 := hF7.grow hf8
  have hnT : ¬ T4 H7.size := fun h => by have := hF7.lt h; omega
  refine m_rank (k := 3) (l := [1, 2]) (r := []) (xs := [1, 2, 3]) hF8 (by decide) rfl ?_
  intro H9 hF9 hf9
  have q9 := q8.frame hf9 (by simp; exact hnT)
  repeat' (first
    | (with_reducible first | refine seq_normal ?_ | (refine hK _ _ ?_; clear hK K) | refine x_seq (fun K hK => ?_) | refine x_nil ?_ | refine x_block ?_ | refine x_skip ?_ | refine x_exit ?_ | refine x_ret ?_ | refine x_label ?_ | refine x_scope ?_ | (refine seq_ret ?_; clear hK K) | (refine seq_exit ?_; clear hK K) | refine block_normal ?_ | refine block_ret ?_ | refine block_exit ?_ | refine loop_exit ?_ | refine loop_ret ?_)
    | ((with_reducible refine x_reg_lit ?hq ?_); case hq => rfl)
    | ((first | (with_reducible first | refine x_op (fun K hK => ?_) | refine end_ret ?_ | refine end_normal ?_) | ((with_reducible refine x_guard_yes ?hy (fun K hK => ?_)); case hy => rfl)); simp only [go_sem, Int.cast_ofNat_Int, Nat.reduceEqDiff, Nat.reduceAdd, Nat.reduceMul, Nat.reduceLeDiff, Nat.reduceLT, Int.reduceLT, Int.reduceLE, Int.reduceEq, Int.reduceNeg, Int.reduceToNat, Nat.reducePow, reduceIte, reduceCtorEq])
    | ((with_reducible first | refine x_guard_no ?hy ?_ | refine x_cond_true ?hy ?_); case hy => rfl)
    | ((with_reducible first | refine x_guard_none ?hy ?_ | refine x_cond_false ?hy ?_); case hy => rfl)
    | ((with_reducible refine block_exit_ne ?hy ?_); case hy => decide))
  refine m_flagged (k := 1) (fl := 6) (xs := [1, 2, 3]) hF9 (by decide) (by decide) (by decide) ?_
  intro H10 hF10 hf10
  have q10 := q9.frame hf10 (by simp; exact hnT)
  have ef : ∀ S : Sq, S.it = ((((Sq.new 3).made ⟨5, true, 1⟩).made ⟨7, false, 2⟩).made ⟨-3, true, 0⟩).it → firstF S.it 6 [1, 2, 3] = some 2 := fun S h => by rw [h]; decide
  rw [ef _ rfl]
  simp only [Cells, and_true] at q10
  repeat' (first
    | (with_reducible first | refine seq_normal ?_ | (refine hK _ _ ?_; clear hK K) | refine x_seq (fun K hK => ?_) | refine x_nil ?_ | refine x_block ?_ | refine x_skip ?_ | refine x_exit ?_ | refine x_ret ?_ | refine x_label ?_ | refine x_scope ?_ | (refine seq_ret ?_; clear hK K) | (refine seq_exit ?_; clear hK K) | refine block_normal ?_ | refine block_ret ?_ | refine block_exit ?_ | refine loop_exit ?_ | refine loop_ret ?_)
    | ((with_reducible refine x_reg_lit ?hq ?_); case hq => rfl)
    | ((first | (with_reducible first | refine x_op (fun K hK => ?_) | refine end_ret ?_ | refine end_normal ?_) | ((with_reducible refine x_guard_yes ?hy (fun K hK => ?_)); case hy => rfl)); simp only [go_sem, Int.cast_ofNat_Int, Nat.reduceEqDiff, Nat.reduceAdd, Nat.reduceMul, Nat.reduceLeDiff, Nat.reduceLT, Int.reduceLT, Int.reduceLE, Int.reduceEq, Int.reduceNeg, Int.reduceToNat, Nat.reducePow, reduceIte, reduceCtorEq, q10])
    | ((with_reducible first | refine x_guard_no ?hy ?_ | refine x_cond_true ?hy ?_); case hy => rfl)
    | ((with_reducible first | refine x_guard_none ?hy ?_ | refine x_cond_false ?hy ?_); case hy => rfl)
    | ((with_reducible refine block_exit_ne ?hy ?_); case hy => decide))
  refine agg_eq (op := .eql) (a := ⟨2, 2, -3, 5, 3⟩) (b := ⟨2, 2, -3, 5, 3⟩) ?_
  simp only [decide_true]
  repeat' (first
    | (with_reducible first | refine seq_normal ?_ | (refine hK _ _ ?_; clear hK K) | refine x_seq (fun K hK => ?_) | refine x_nil ?_ | refine x_block ?_ | refine x_skip ?_ | refine x_exit ?_ | refine x_ret ?_ | refine x_label ?_ | refine x_scope ?_ | (refine seq_ret ?_; clear hK K) | (refine seq_exit ?_; clear hK K) | refine block_normal ?_ | refine block_ret ?_ | refine block_exit ?_ | refine loop_exit ?_ | refine loop_ret ?_)
    | ((with_reducible refine x_reg_lit ?hq ?_); case hq => rfl)
    | ((first | (with_reducible first | refine x_op (fun K hK => ?_) | refine end_ret ?_ | refine end_normal ?_) | ((with_reducible refine x_guard_yes ?hy (fun K hK => ?_)); case hy => rfl)); simp only [go_sem, Int.cast_ofNat_Int, Nat.reduceEqDiff, Nat.reduceAdd, Nat.reduceMul, Nat.reduceLeDiff, Nat.reduceLT, Int.reduceLT, Int.reduceLE, Int.reduceEq, Int.reduceNeg, Int.reduceToNat, Nat.reducePow, reduceIte, reduceCtorEq])
    | ((with_reducible first | refine x_guard_no ?hy ?_ | refine x_cond_true ?hy ?_); case hy => rfl)
    | ((with_reducible first | refine x_guard_none ?hy ?_ | refine x_cond_false ?hy ?_); case hy => rfl)
    | ((with_reducible refine block_exit_ne ?hy ?_); case hy => decide))
  have hs1 := hf1.size
  have hs2 := hf2.size
  have hs3 := hf3.size
  have g1 : ∀ b, T2 b → H.size ≤ b := fun b hb => by rcases hT2 b hb with h | h; · exact hT1 b h
                                                     omega
  have g2 : ∀ b, T3 b → H.size ≤ b := fun b hb => by rcases hT3 b hb with h | h; · exact g1 b h
                                                     omega
  have g3 : ∀ b, T4 b → H.size ≤ b := fun b hb => by rcases hT4 b hb with h | h; · exact g2 b h
                                                     omega
  have a2 : Fr (fun _ => False) H H2 := hf1.trans' hf2 fun b hb e => by have := hT1 b e; omega
  have a3 : Fr (fun _ => False) H H3 := a2.trans' hf3 fun b hb e => by have := g1 b e; omega
  have a4 : Fr (fun _ => False) H H4 := a3.trans' hf4 fun b hb e => by have := g2 b e; omega
  have lift : ∀ {H' H'' : Heap}, Fr (fun _ => False) H H' → Fr T4 H' H'' → Fr (fun _ => False) H H'' := fun a b => a.trans' b fun b hb e => by have := g3 b e; omega
  exact fin _ (lift (lift ((lift (lift (lift a4 hf5) hf6) hf7).trans hf8) hf9) hf10)
end Go.Proofs.Ytndkbhlfbeiniaa
