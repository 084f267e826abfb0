/-
  The helpers of the laws of layer 3: items, awake.
-/
import Derived.Test.YtndkbhlfbeiniaaSpZ
import Derived.Test.YtndkbhlfbeiniaaHpU
import Derived.Test.YtndkbhlfbeiniaaPkisthmuslaw03
namespace Go.Proofs.Ytndkbhlfbeiniaa
open Go Go.Hp Go.Sp
set_option linter.all false
set_option maxRecDepth 100000
set_option maxHeartbeats 1600000

/-- A slice of items that came in reads as zs. -/
def InItems (H : Heap) (a : Option Addr) (len : Nat) (zs : Nat → Sp.Item) : Prop :=
  ∀ i, i < len → ∃ p : Addr, a = some p ∧ hcell H (p.add (i * 3)) = some (.int .i64 (zs i).value) ∧ hcell H ⟨(p.add (i * 3)).block, (p.add (i * 3)).off + 1, none⟩ = some (.bool (zs i).counts) ∧ hcell H ⟨(p.add (i * 3)).block, (p.add (i * 3)).off + 2, none⟩ = some (.int .i64 (zs i).flags) ∧ Fits (zs i)
theorem add_block (a : Addr) (n : Nat) : (a.add n).block = a.block := by unfold Addr.add; split <;> rfl
theorem InItems.frame {H H' : Heap} {a : Option Addr} {len : Nat} {zs : Nat → Sp.Item} (h : InItems H a len zs) (hf : Fr (fun _ => False) H H') : InItems H' a len zs := fun i hi => by
  obtain ⟨p, h1, h2, h3, h4, h5⟩ := h i hi
  exact ⟨p, h1, by rw [hf.cell (hcell_lt h2) (fun h => h)]; exact h2, by rw [hf.cell (hcell_lt h3) (fun h => h)]; exact h3, by rw [hf.cell (hcell_lt h4) (fun h => h)]; exact h4, h5⟩
/-- A row of items of one's own. -/
def Its (H : Heap) (B : Option Nat) (v : Value) (xs : List Sp.Item) : Prop := Own H B v 3 xs.length (xs.flatMap Sp.Item.cells)
theorem cells_len (xs : List Sp.Item) : (xs.flatMap Sp.Item.cells).length = xs.length * 3 := by
  induction xs with
  | nil => rfl
  | cons x xs ih => rw [List.flatMap_cons, List.length_append, ih, List.length_cons]; simp [Sp.Item.cells]; omega
theorem cells_get : ∀ (xs : List Sp.Item) {i : Nat} {x : Sp.Item}, xs[i]? = some x → ∀ j, j < 3 → (xs.flatMap Sp.Item.cells)[i * 3 + j]? = x.cells[j]?
  | [], i, x, h, j, hj => by cases h
  | y :: xs, 0, x, h, j, hj => by
    obtain rfl := Option.some.inj h
    rw [List.flatMap_cons, Nat.zero_mul, Nat.zero_add, List.getElem?_append_left (by simp [Sp.Item.cells]; omega)]
  | y :: xs, i + 1, x, h, j, hj => by
    rw [List.flatMap_cons, List.getElem?_append_right (by simp [Sp.Item.cells]; omega)]
    have e : (i + 1) * 3 + j - y.cells.length = i * 3 + j := by simp [Sp.Item.cells]; omega
    rw [e]
    exact cells_get xs (by simpa using h) j hj
theorem Its.frame {S : Nat → Prop} {H H' : Heap} {B : Option Nat} {v : Value} {xs : List Sp.Item} (h : Its H B v xs) (hf : Fr S H H') (hb : ∀ g, B = some g → ¬ S g) : Its H' B v xs := Own.frame h hf hb
theorem Its.slice {H : Heap} {B : Option Nat} {v : Value} {xs : List Sp.Item} (h : Its H B v xs) : ∃ a c, v = .slice a xs.length c := by
  obtain ⟨_, h | ⟨g', c, rest, h1, h2, h3, h4, h5⟩⟩ := h
  · obtain ⟨_, h2, h3⟩ := h
    exact ⟨none, 0, by rw [h2, h3]⟩
  · exact ⟨_, _, h2⟩
theorem Its.read {H : Heap} {B : Option Nat} {v : Value} {xs : List Sp.Item} (h : Its H B v xs) {i : Nat} {x : Sp.Item} (hi : xs[i]? = some x) :
    ∃ g c, B = some g ∧ v = .slice (some ⟨g, 0, none⟩) xs.length c ∧ hcell H ⟨g, i * 3, none⟩ = some (.int .i64 x.value) ∧ hcell H ⟨g, i * 3 + 1, none⟩ = some (.bool x.counts) ∧ hcell H ⟨g, i * 3 + 2, none⟩ = some (.int .i64 x.flags) := by
  obtain ⟨hl, h | ⟨g', c, rest, h1, h2, h3, h4, h5⟩⟩ := h
  · have : xs = [] := List.length_eq_zero_iff.1 h.2.2
    rw [this] at hi; cases hi
  · have hlt := (List.getElem?_eq_some_iff.1 hi).1
    have get : ∀ j, j < 3 → ((xs.flatMap Sp.Item.cells) ++ rest)[i * 3 + j]? = x.cells[j]? := fun j hj => by
      rw [List.getElem?_append_left (by rw [cells_len]; omega)]
      exact cells_get xs hi j hj
    exact ⟨g', c, h1, h2, h3.cellOf (get 0 (by omega)), h3.cellOf (get 1 (by omega)), h3.cellOf (get 2 (by omega))⟩
theorem Its.nil (H : Heap) : Its H none (.slice none 0 0) [] := ⟨rfl, .inl ⟨rfl, rfl, rfl⟩⟩
theorem Its.lt {H : Heap} {B : Option Nat} {v : Value} {xs : List Sp.Item} (h : Its H B v xs) {g : Nat} (hg : B = some g) : g < H.size := by
  obtain ⟨_, h | ⟨g', c, rest, h1, h2, h3, h4, h5⟩⟩ := h
  · rw [h.1] at hg; cases hg
  · rw [h1] at hg
    obtain rfl := Option.some.inj hg
    exact h3.lt
theorem append_item {s : Value} {H : Heap} {B : Option Nat} {b d : Nat} {xs : List Sp.Item} {x : Sp.Item} {K : Value → Heap → Prop}
    (h : Its H B s xs) (hr : Go.Hp.readL H ⟨b, 0, none⟩ 0 3 = some x.cells) (hl : xs.length ≤ 100000)
    (hk : ∀ v' H' B', Its H' B' v' (xs ++ [x]) → Fr (fun b => B = some b) H H' → (B' = B ∨ ∃ g, B' = some g ∧ H.size ≤ g) → K v' H') : appendX Try.prog 22 s (.slice (some ⟨b, 0, none⟩) 1 d) H K := by
  refine append_own elems22 tl31 h (m := 1) (.inl ⟨_, _, rfl, hr⟩) ?_ (by decide) (by simp only []; omega) rfl rfl ?_
  · intro v hv
    simp only [Sp.Item.cells, List.mem_cons, List.not_mem_nil, or_false] at hv
    rcases hv with rfl | rfl | rfl <;> rfl
  · intro v' H' B' ho hf hB
    exact hk v' H' B' (by unfold Its; simpa using ho) hf hB
def norm (x : Sp.Item) : Sp.Item := ⟨pickN x.value 2199023255553 - 1099511627776, x.counts, pickN x.flags 256⟩
theorem norm_may (x : Sp.Item) : May (norm x) := by
  have h1 := pickN_range x.value (n := 2199023255553) (by omega)
  have h2 := pickN_range x.flags (n := 256) (by omega)
  exact ⟨by simp only [norm]; omega, by simp only [norm]; omega, h2.1, h2.2⟩
theorem May.fits {x : Sp.Item} (h : May x) : Fits x := by
  have := h.lo; have := h.hi; have := h.f0; have := h.f1
  exact ⟨⟨by omega, by omega⟩, by omega, by omega⟩
theorem items_ok {H : Heap} {a : Option Addr} {len cap most : Nat} {zs : Nat → Sp.Item} {K : Value → Heap → Prop} (hin : InItems H a len zs) (hl : len ≤ 9223372036854775807) (hm : most ≤ 1000) (hm1 : 1 ≤ most)
    (fin : ∀ H' B v xs, Its H' B v xs → (∀ b, B = some b → H.size ≤ b) → 1 ≤ xs.length → xs.length ≤ most → (∀ x ∈ xs, May x) → Fr (fun _ => False) H H' → K v H') :
    CallsH Try.prog 13 #[.slice a len cap, .int .i64 (most : Nat)] H K := by
  refine call13 (by simp) ?_
  simp only [Try.f13, Option.getD_some]
  repeat' (first
    | (with_reducible first | refine seq_normal ?_ | (refine hK _ _ ?_; clear hK K) | refine x_seq (fun K hK => ?_) | refine x_nil ?_ | refine x_block ?_ | refine x_skip ?_ | refine x_exit ?_ | refine x_ret ?_ | refine x_label ?_ | refine x_scope ?_ | (refine seq_ret ?_; clear hK K) | (refine seq_exit ?_; clear hK K) | refine block_normal ?_ | refine block_ret ?_ | refine block_exit ?_ | refine loop_exit ?_ | refine loop_ret ?_)
    | ((with_reducible refine x_reg_lit ?hq ?_); case hq => rfl)
    | ((first | (with_reducible first | refine x_op (fun K hK => ?_) | refine end_ret ?_ | refine end_normal ?_) | ((with_reducible refine x_guard_yes ?hy (fun K hK => ?_)); case hy => rfl)); simp only [go_sem, Int.cast_ofNat_Int, Nat.reduceEqDiff, Nat.reduceAdd, Nat.reduceMul, Nat.reduceLeDiff, Nat.reduceLT, Int.reduceLT, Int.reduceLE, Int.reduceEq, Int.reduceNeg, Int.reduceToNat, Nat.reducePow, reduceIte, reduceCtorEq])
    | ((with_reducible first | refine x_guard_no ?hy ?_ | refine x_cond_true ?hy ?_); case hy => rfl)
    | ((with_reducible first | refine x_guard_none ?hy ?_ | refine x_cond_false ?hy ?_); case hy => rfl)
    | ((with_reducible refine block_exit_ne ?hy ?_); case hy => decide))
  refine x_loop (fun m e' H' => ∃ (i : Nat) (B : Option Nat) (v : Value) (xs : List Sp.Item), e' 5 = v ∧ e' 6 = .int .i64 (i : Nat) ∧ Its H' B v xs ∧ (∀ b, B = some b → H.size ≤ b) ∧ xs.length = i ∧ i ≤ most ∧ i ≤ len ∧ (∀ x ∈ xs, May x) ∧ Fr (fun _ => False) H H' ∧ m = most - i)
    most ⟨0, none, _, [], rfl, rfl, Its.nil H, (fun b h => by cases h), rfl, by omega, by omega, (fun x h => by cases h), .refl _ _, rfl⟩ ?_
  rintro m e1 H1 ⟨i, B, v, xs, i5, i6, hv, hB, hxl, him, hil, hmay, hf1, rfl⟩ hoff
  have i0 := (hoff 0 rfl).trans rfl
  have i1 := (hoff 1 rfl).trans rfl
  clear hoff
  by_cases hgo : i < len ∧ i < most
  · have t1 : (i < len) = True := by simp [hgo.1]
    have t2 : (i < most) = True := by simp [hgo.2]
    obtain ⟨p, rfl, c0, c1, c2, hfit⟩ := (hin.frame hf1) i hgo.1
    have w0 := okW_top (H := H1) (T := 31) (cs := #[.int .i64 0, .bool false, .int .i64 0]) (b := H1.size) (i := 0) rfl (by decide)
    have ew : IntKind.i64.wrap ((i : Int) + 1) = ((i + 1 : Nat) : Int) := by rw [wrap_i64] <;> omega
    have p1 := pickN_range (zs i).value (n := 2199023255553) (by omega)
    have p2 := pickN_range (zs i).flags (n := 256) (by omega)
    have ew2 : IntKind.i64.wrap (pickN (zs i).value 2199023255553 - 1099511627776) = pickN (zs i).value 2199023255553 - 1099511627776 := by rw [wrap_i64] <;> omega
    have hs1 := hf1.size
    repeat' (first
      | (with_reducible first | refine seq_normal ?_ | (refine hK _ _ ?_; clear hK K) | refine x_seq (fun K hK => ?_) | refine x_nil ?_ | refine x_block ?_ | refine x_skip ?_ | refine x_exit ?_ | refine x_ret ?_ | refine x_label ?_ | refine x_scope ?_ | (refine seq_ret ?_; clear hK K) | (refine seq_exit ?_; clear hK K) | refine block_normal ?_ | refine block_ret ?_ | refine block_exit ?_ | refine loop_exit ?_ | refine loop_ret ?_)
      | ((with_reducible refine x_reg_lit ?hq ?_); case hq => rfl)
      | ((first | (with_reducible first | refine x_op (fun K hK => ?_) | refine end_ret ?_ | refine end_normal ?_) | ((with_reducible refine x_guard_yes ?hy (fun K hK => ?_)); case hy => rfl)); simp only [go_sem, Int.cast_ofNat_Int, Nat.reduceEqDiff, Nat.reduceAdd, Nat.reduceMul, Nat.reduceLeDiff, Nat.reduceLT, Int.reduceLT, Int.reduceLE, Int.reduceEq, Int.reduceNeg, Int.reduceToNat, Nat.reducePow, reduceIte, reduceCtorEq, i0, i1, i5, i6, t1, t2, c0, c1, c2, hcell_push, hcell_top, okW_push, okW_top, hcell_hset_ne, hcell_hset_off, hcell_hset_eq, okW_hset, hset_size, Array.size_push, Nat.lt_add_one, ne_add_one, add_one_ne, Nat.add_assoc, add_same, add_lt_same, Nat.reduceEqDiff, lt_add_k, add_k_ne, ne_add_k])
      | ((with_reducible first | refine x_guard_no ?hy ?_ | refine x_cond_true ?hy ?_); case hy => rfl)
      | ((with_reducible first | refine x_guard_none ?hy ?_ | refine x_cond_false ?hy ?_); case hy => rfl)
      | ((with_reducible refine block_exit_ne ?hy ?_); case hy => decide))
    refine x_drawS [12, 13] [0, 1, 2, 5, 6, 7, 8, 3, 4, 9, 10, 11, 12, 13] rfl (by kernel_rfl) (Cells [(H1.size, 0, .int .i64 (zs i).value), (H1.size, 1, .bool (zs i).counts), (H1.size, 2, .int .i64 (zs i).flags)]) (by simp only [go_sem, Int.cast_ofNat_Int, Nat.reduceEqDiff, Nat.reduceAdd, Nat.reduceMul, Nat.reduceLeDiff, Nat.reduceLT, Int.reduceLT, Int.reduceLE, Int.reduceEq, Int.reduceNeg, Int.reduceToNat, Nat.reducePow, reduceIte, reduceCtorEq, Cells, and_true, hcell_push, hcell_top, okW_push, okW_top, hcell_hset_ne, hcell_hset_off, hcell_hset_eq, okW_hset, hset_size, Array.size_push, Nat.lt_add_one, ne_add_one, add_one_ne, Nat.add_assoc, add_same, add_lt_same, Nat.reduceEqDiff, lt_add_k, add_k_ne, ne_add_k]) ?_
    repeat' (first
      | (with_reducible refine xs_nil ?_)
      | ((with_reducible apply xs_rd); (case hi => rfl); (case hr => rfl); (case h1 => intro H' hS'; (try simp only [Cells, and_true] at hS'); simp only [go_sem, Int.cast_ofNat_Int, Nat.reduceEqDiff, Nat.reduceAdd, Nat.reduceMul, Nat.reduceLeDiff, Nat.reduceLT, Int.reduceLT, Int.reduceLE, Int.reduceEq, Int.reduceNeg, Int.reduceToNat, Nat.reducePow, reduceIte, reduceCtorEq, i5, hcell_push, hcell_top, okW_push, okW_top, hcell_hset_ne, hcell_hset_off, hcell_hset_eq, okW_hset, hset_size, Array.size_push, Nat.lt_add_one, ne_add_one, add_one_ne, Nat.add_assoc, add_same, add_lt_same, Nat.reduceEqDiff, lt_add_k, add_k_ne, ne_add_k, hS']; rfl))
      | ((with_reducible apply xs_guard_yes); (case hi => rfl); (case hr => rfl); (case hy => rfl); (case h1 => intro H' hS'; (try simp only [Cells, and_true] at hS'); simp only [go_sem, Int.cast_ofNat_Int, Nat.reduceEqDiff, Nat.reduceAdd, Nat.reduceMul, Nat.reduceLeDiff, Nat.reduceLT, Int.reduceLT, Int.reduceLE, Int.reduceEq, Int.reduceNeg, Int.reduceToNat, Nat.reducePow, reduceIte, reduceCtorEq, i5, hcell_push, hcell_top, okW_push, okW_top, hcell_hset_ne, hcell_hset_off, hcell_hset_eq, okW_hset, hset_size, Array.size_push, Nat.lt_add_one, ne_add_one, add_one_ne, Nat.add_assoc, add_same, add_lt_same, Nat.reduceEqDiff, lt_add_k, add_k_ne, ne_add_k, hS']; rfl))
      | ((with_reducible refine xs_tail ?hz ?_); case hz => rfl)
      | ((with_reducible refine xs_keep ?hz ?_); case hz => first | assumption | (simp only [go_sem, Int.cast_ofNat_Int, Nat.reduceEqDiff, Nat.reduceAdd, Nat.reduceMul, Nat.reduceLeDiff, Nat.reduceLT, Int.reduceLT, Int.reduceLE, Int.reduceEq, Int.reduceNeg, Int.reduceToNat, Nat.reducePow, reduceIte, reduceCtorEq, Cells, and_true, i5, hcell_push, hcell_top, okW_push, okW_top, hcell_hset_ne, hcell_hset_off, hcell_hset_eq, okW_hset, hset_size, Array.size_push, Nat.lt_add_one, ne_add_one, add_one_ne, Nat.add_assoc, add_same, add_lt_same, Nat.reduceEqDiff, lt_add_k, add_k_ne, ne_add_k]))
      | ((with_reducible apply xs_guard_no); (case hi => rfl); (case hy => rfl); (case hS => assumption))
      | ((first | ((with_reducible apply xs_op); (case hi => rfl)) | ((with_reducible apply xs_op_yes); (case hi => rfl); (case hy => rfl))); (case hr => rfl); intro K hK; simp only [go_sem, Int.cast_ofNat_Int, Nat.reduceEqDiff, Nat.reduceAdd, Nat.reduceMul, Nat.reduceLeDiff, Nat.reduceLT, Int.reduceLT, Int.reduceLE, Int.reduceEq, Int.reduceNeg, Int.reduceToNat, Nat.reducePow, reduceIte, reduceCtorEq, i5, hcell_push, hcell_top, okW_push, okW_top, hcell_hset_ne, hcell_hset_off, hcell_hset_eq, okW_hset, hset_size, Array.size_push, Nat.lt_add_one, ne_add_one, add_one_ne, Nat.add_assoc, add_same, add_lt_same, Nat.reduceEqDiff, lt_add_k, add_k_ne, ne_add_k])
      | (with_reducible first | refine seq_normal ?_ | (refine hK _ _ ?_; clear hK K) | refine x_seq (fun K hK => ?_) | refine x_nil ?_ | refine x_block ?_ | refine x_skip ?_ | refine x_exit ?_ | refine x_ret ?_ | refine x_label ?_ | refine x_scope ?_ | (refine seq_ret ?_; clear hK K) | (refine seq_exit ?_; clear hK K) | refine block_normal ?_ | refine block_ret ?_ | refine block_exit ?_ | refine loop_exit ?_ | refine loop_ret ?_)
      | ((with_reducible refine x_reg_lit ?hq ?_); case hq => rfl)
      | ((first | (with_reducible first | refine x_op (fun K hK => ?_) | refine end_ret ?_ | refine end_normal ?_) | ((with_reducible refine x_guard_yes ?hy (fun K hK => ?_)); case hy => rfl)); simp only [go_sem, Int.cast_ofNat_Int, Nat.reduceEqDiff, Nat.reduceAdd, Nat.reduceMul, Nat.reduceLeDiff, Nat.reduceLT, Int.reduceLT, Int.reduceLE, Int.reduceEq, Int.reduceNeg, Int.reduceToNat, Nat.reducePow, reduceIte, reduceCtorEq, i5, hcell_push, hcell_top, okW_push, okW_top, hcell_hset_ne, hcell_hset_off, hcell_hset_eq, okW_hset, hset_size, Array.size_push, Nat.lt_add_one, ne_add_one, add_one_ne, Nat.add_assoc, add_same, add_lt_same, Nat.reduceEqDiff, lt_add_k, add_k_ne, ne_add_k])
      | ((with_reducible first | refine x_guard_no ?hy ?_ | refine x_cond_true ?hy ?_); case hy => rfl)
      | ((with_reducible first | refine x_guard_none ?hy ?_ | refine x_cond_false ?hy ?_); case hy => rfl)
      | ((with_reducible refine block_exit_ne ?hy ?_); case hy => decide))
    refine Pkisthmuslaw03.pick_ok hfit.1.1 hfit.1.2 (by omega) ?_
    repeat' (first
      | (with_reducible refine xs_nil ?_)
      | ((with_reducible apply xs_rd); (case hi => rfl); (case hr => rfl); (case h1 => intro H' hS'; (try simp only [Cells, and_true] at hS'); simp only [go_sem, Int.cast_ofNat_Int, Nat.reduceEqDiff, Nat.reduceAdd, Nat.reduceMul, Nat.reduceLeDiff, Nat.reduceLT, Int.reduceLT, Int.reduceLE, Int.reduceEq, Int.reduceNeg, Int.reduceToNat, Nat.reducePow, reduceIte, reduceCtorEq, i5, ew2, hcell_push, hcell_top, okW_push, okW_top, hcell_hset_ne, hcell_hset_off, hcell_hset_eq, okW_hset, hset_size, Array.size_push, Nat.lt_add_one, ne_add_one, add_one_ne, Nat.add_assoc, add_same, add_lt_same, Nat.reduceEqDiff, lt_add_k, add_k_ne, ne_add_k, hS']; rfl))
      | ((with_reducible apply xs_guard_yes); (case hi => rfl); (case hr => rfl); (case hy => rfl); (case h1 => intro H' hS'; (try simp only [Cells, and_true] at hS'); simp only [go_sem, Int.cast_ofNat_Int, Nat.reduceEqDiff, Nat.reduceAdd, Nat.reduceMul, Nat.reduceLeDiff, Nat.reduceLT, Int.reduceLT, Int.reduceLE, Int.reduceEq, Int.reduceNeg, Int.reduceToNat, Nat.reducePow, reduceIte, reduceCtorEq, i5, ew2, hcell_push, hcell_top, okW_push, okW_top, hcell_hset_ne, hcell_hset_off, hcell_hset_eq, okW_hset, hset_size, Array.size_push, Nat.lt_add_one, ne_add_one, add_one_ne, Nat.add_assoc, add_same, add_lt_same, Nat.reduceEqDiff, lt_add_k, add_k_ne, ne_add_k, hS']; rfl))
      | ((with_reducible refine xs_tail ?hz ?_); case hz => rfl)
      | ((with_reducible refine xs_keep ?hz ?_); case hz => first | assumption | (simp only [go_sem, Int.cast_ofNat_Int, Nat.reduceEqDiff, Nat.reduceAdd, Nat.reduceMul, Nat.reduceLeDiff, Nat.reduceLT, Int.reduceLT, Int.reduceLE, Int.reduceEq, Int.reduceNeg, Int.reduceToNat, Nat.reducePow, reduceIte, reduceCtorEq, Cells, and_true, i5, ew2, hcell_push, hcell_top, okW_push, okW_top, hcell_hset_ne, hcell_hset_off, hcell_hset_eq, okW_hset, hset_size, Array.size_push, Nat.lt_add_one, ne_add_one, add_one_ne, Nat.add_assoc, add_same, add_lt_same, Nat.reduceEqDiff, lt_add_k, add_k_ne, ne_add_k]))
      | ((with_reducible apply xs_guard_no); (case hi => rfl); (case hy => rfl); (case hS => assumption))
      | ((first | ((with_reducible apply xs_op); (case hi => rfl)) | ((with_reducible apply xs_op_yes); (case hi => rfl); (case hy => rfl))); (case hr => rfl); intro K hK; simp only [go_sem, Int.cast_ofNat_Int, Nat.reduceEqDiff, Nat.reduceAdd, Nat.reduceMul, Nat.reduceLeDiff, Nat.reduceLT, Int.reduceLT, Int.reduceLE, Int.reduceEq, Int.reduceNeg, Int.reduceToNat, Nat.reducePow, reduceIte, reduceCtorEq, i5, ew2, hcell_push, hcell_top, okW_push, okW_top, hcell_hset_ne, hcell_hset_off, hcell_hset_eq, okW_hset, hset_size, Array.size_push, Nat.lt_add_one, ne_add_one, add_one_ne, Nat.add_assoc, add_same, add_lt_same, Nat.reduceEqDiff, lt_add_k, add_k_ne, ne_add_k])
      | (with_reducible first | refine seq_normal ?_ | (refine hK _ _ ?_; clear hK K) | refine x_seq (fun K hK => ?_) | refine x_nil ?_ | refine x_block ?_ | refine x_skip ?_ | refine x_exit ?_ | refine x_ret ?_ | refine x_label ?_ | refine x_scope ?_ | (refine seq_ret ?_; clear hK K) | (refine seq_exit ?_; clear hK K) | refine block_normal ?_ | refine block_ret ?_ | refine block_exit ?_ | refine loop_exit ?_ | refine loop_ret ?_)
      | ((with_reducible refine x_reg_lit ?hq ?_); case hq => rfl)
      | ((first | (with_reducible first | refine x_op (fun K hK => ?_) | refine end_ret ?_ | refine end_normal ?_) | ((with_reducible refine x_guard_yes ?hy (fun K hK => ?_)); case hy => rfl)); simp only [go_sem, Int.cast_ofNat_Int, Nat.reduceEqDiff, Nat.reduceAdd, Nat.reduceMul, Nat.reduceLeDiff, Nat.reduceLT, Int.reduceLT, Int.reduceLE, Int.reduceEq, Int.reduceNeg, Int.reduceToNat, Nat.reducePow, reduceIte, reduceCtorEq, i5, ew2, hcell_push, hcell_top, okW_push, okW_top, hcell_hset_ne, hcell_hset_off, hcell_hset_eq, okW_hset, hset_size, Array.size_push, Nat.lt_add_one, ne_add_one, add_one_ne, Nat.add_assoc, add_same, add_lt_same, Nat.reduceEqDiff, lt_add_k, add_k_ne, ne_add_k])
      | ((with_reducible first | refine x_guard_no ?hy ?_ | refine x_cond_true ?hy ?_); case hy => rfl)
      | ((with_reducible first | refine x_guard_none ?hy ?_ | refine x_cond_false ?hy ?_); case hy => rfl)
      | ((with_reducible refine block_exit_ne ?hy ?_); case hy => decide))
    refine Pkisthmuslaw03.pick_ok hfit.2.1 hfit.2.2 (by omega) ?_
    repeat' (first
      | (with_reducible refine xs_nil ?_)
      | ((with_reducible apply xs_rd); (case hi => rfl); (case hr => rfl); (case h1 => intro H' hS'; (try simp only [Cells, and_true] at hS'); simp only [go_sem, Int.cast_ofNat_Int, Nat.reduceEqDiff, Nat.reduceAdd, Nat.reduceMul, Nat.reduceLeDiff, Nat.reduceLT, Int.reduceLT, Int.reduceLE, Int.reduceEq, Int.reduceNeg, Int.reduceToNat, Nat.reducePow, reduceIte, reduceCtorEq, i5, hcell_push, hcell_top, okW_push, okW_top, hcell_hset_ne, hcell_hset_off, hcell_hset_eq, okW_hset, hset_size, Array.size_push, Nat.lt_add_one, ne_add_one, add_one_ne, Nat.add_assoc, add_same, add_lt_same, Nat.reduceEqDiff, lt_add_k, add_k_ne, ne_add_k, hS']; rfl))
      | ((with_reducible apply xs_guard_yes); (case hi => rfl); (case hr => rfl); (case hy => rfl); (case h1 => intro H' hS'; (try simp only [Cells, and_true] at hS'); simp only [go_sem, Int.cast_ofNat_Int, Nat.reduceEqDiff, Nat.reduceAdd, Nat.reduceMul, Nat.reduceLeDiff, Nat.reduceLT, Int.reduceLT, Int.reduceLE, Int.reduceEq, Int.reduceNeg, Int.reduceToNat, Nat.reducePow, reduceIte, reduceCtorEq, i5, hcell_push, hcell_top, okW_push, okW_top, hcell_hset_ne, hcell_hset_off, hcell_hset_eq, okW_hset, hset_size, Array.size_push, Nat.lt_add_one, ne_add_one, add_one_ne, Nat.add_assoc, add_same, add_lt_same, Nat.reduceEqDiff, lt_add_k, add_k_ne, ne_add_k, hS']; rfl))
      | ((with_reducible refine xs_tail ?hz ?_); case hz => rfl)
      | ((with_reducible refine xs_keep ?hz ?_); case hz => first | assumption | (simp only [go_sem, Int.cast_ofNat_Int, Nat.reduceEqDiff, Nat.reduceAdd, Nat.reduceMul, Nat.reduceLeDiff, Nat.reduceLT, Int.reduceLT, Int.reduceLE, Int.reduceEq, Int.reduceNeg, Int.reduceToNat, Nat.reducePow, reduceIte, reduceCtorEq, Cells, and_true, i5, hcell_push, hcell_top, okW_push, okW_top, hcell_hset_ne, hcell_hset_off, hcell_hset_eq, okW_hset, hset_size, Array.size_push, Nat.lt_add_one, ne_add_one, add_one_ne, Nat.add_assoc, add_same, add_lt_same, Nat.reduceEqDiff, lt_add_k, add_k_ne, ne_add_k]))
      | ((with_reducible apply xs_guard_no); (case hi => rfl); (case hy => rfl); (case hS => assumption))
      | ((first | ((with_reducible apply xs_op); (case hi => rfl)) | ((with_reducible apply xs_op_yes); (case hi => rfl); (case hy => rfl))); (case hr => rfl); intro K hK; simp only [go_sem, Int.cast_ofNat_Int, Nat.reduceEqDiff, Nat.reduceAdd, Nat.reduceMul, Nat.reduceLeDiff, Nat.reduceLT, Int.reduceLT, Int.reduceLE, Int.reduceEq, Int.reduceNeg, Int.reduceToNat, Nat.reducePow, reduceIte, reduceCtorEq, i5, hcell_push, hcell_top, okW_push, okW_top, hcell_hset_ne, hcell_hset_off, hcell_hset_eq, okW_hset, hset_size, Array.size_push, Nat.lt_add_one, ne_add_one, add_one_ne, Nat.add_assoc, add_same, add_lt_same, Nat.reduceEqDiff, lt_add_k, add_k_ne, ne_add_k])
      | (with_reducible first | refine seq_normal ?_ | (refine hK _ _ ?_; clear hK K) | refine x_seq (fun K hK => ?_) | refine x_nil ?_ | refine x_block ?_ | refine x_skip ?_ | refine x_exit ?_ | refine x_ret ?_ | refine x_label ?_ | refine x_scope ?_ | (refine seq_ret ?_; clear hK K) | (refine seq_exit ?_; clear hK K) | refine block_normal ?_ | refine block_ret ?_ | refine block_exit ?_ | refine loop_exit ?_ | refine loop_ret ?_)
      | ((with_reducible refine x_reg_lit ?hq ?_); case hq => rfl)
      | ((first | (with_reducible first | refine x_op (fun K hK => ?_) | refine end_ret ?_ | refine end_normal ?_) | ((with_reducible refine x_guard_yes ?hy (fun K hK => ?_)); case hy => rfl)); simp only [go_sem, Int.cast_ofNat_Int, Nat.reduceEqDiff, Nat.reduceAdd, Nat.reduceMul, Nat.reduceLeDiff, Nat.reduceLT, Int.reduceLT, Int.reduceLE, Int.reduceEq, Int.reduceNeg, Int.reduceToNat, Nat.reducePow, reduceIte, reduceCtorEq, i5, hcell_push, hcell_top, okW_push, okW_top, hcell_hset_ne, hcell_hset_off, hcell_hset_eq, okW_hset, hset_size, Array.size_push, Nat.lt_add_one, ne_add_one, add_one_ne, Nat.add_assoc, add_same, add_lt_same, Nat.reduceEqDiff, lt_add_k, add_k_ne, ne_add_k])
      | ((with_reducible first | refine x_guard_no ?hy ?_ | refine x_cond_true ?hy ?_); case hy => rfl)
      | ((with_reducible first | refine x_guard_none ?hy ?_ | refine x_cond_false ?hy ?_); case hy => rfl)
      | ((with_reducible refine block_exit_ne ?hy ?_); case hy => decide))
    generalize hH2 : hset _ _ _ = H2
    have hf2 : Fr (fun _ => False) H1 H2 := by rw [← hH2]; exact (by ((repeat (first | refine Fr.set ?_ (by simp) _ | refine Fr.push ?_ _)); exact Fr.refl _ _))
    have hs2 : H2.size = H1.size + 1 := by rw [← hH2]; simp [hset_size]
    clear hH2
    rw [← hs2]
    refine append_item (x := norm (zs i)) (hv.frame (hf2.push _) (fun _ _ h => h)) (readL_blk (Blk.new H2 (norm (zs i)).cells _) 3 0 0 (by simp [Sp.Item.cells])) (by omega) ?_
    intro v3 H3 B3 hv3 hf3 hB3
    have hf13 : Fr (fun b => B = some b) H1 H3 := ((hf2.push _).mono (fun _ _ h => h.elim)).trans hf3
    repeat' (first
      | (with_reducible refine xs_nil ?_)
      | ((with_reducible apply xs_rd); (case hi => rfl); (case hr => rfl); (case h1 => intro H' hS'; (try simp only [Cells, and_true] at hS'); simp only [go_sem, Int.cast_ofNat_Int, Nat.reduceEqDiff, Nat.reduceAdd, Nat.reduceMul, Nat.reduceLeDiff, Nat.reduceLT, Int.reduceLT, Int.reduceLE, Int.reduceEq, Int.reduceNeg, Int.reduceToNat, Nat.reducePow, reduceIte, reduceCtorEq, i6, ew, hS']; rfl))
      | ((with_reducible apply xs_guard_yes); (case hi => rfl); (case hr => rfl); (case hy => rfl); (case h1 => intro H' hS'; (try simp only [Cells, and_true] at hS'); simp only [go_sem, Int.cast_ofNat_Int, Nat.reduceEqDiff, Nat.reduceAdd, Nat.reduceMul, Nat.reduceLeDiff, Nat.reduceLT, Int.reduceLT, Int.reduceLE, Int.reduceEq, Int.reduceNeg, Int.reduceToNat, Nat.reducePow, reduceIte, reduceCtorEq, i6, ew, hS']; rfl))
      | ((with_reducible refine xs_tail ?hz ?_); case hz => rfl)
      | ((with_reducible refine xs_keep ?hz ?_); case hz => first | assumption | (simp only [go_sem, Int.cast_ofNat_Int, Nat.reduceEqDiff, Nat.reduceAdd, Nat.reduceMul, Nat.reduceLeDiff, Nat.reduceLT, Int.reduceLT, Int.reduceLE, Int.reduceEq, Int.reduceNeg, Int.reduceToNat, Nat.reducePow, reduceIte, reduceCtorEq, Cells, and_true, i6, ew]))
      | ((with_reducible apply xs_guard_no); (case hi => rfl); (case hy => rfl); (case hS => assumption))
      | ((first | ((with_reducible apply xs_op); (case hi => rfl)) | ((with_reducible apply xs_op_yes); (case hi => rfl); (case hy => rfl))); (case hr => rfl); intro K hK; simp only [go_sem, Int.cast_ofNat_Int, Nat.reduceEqDiff, Nat.reduceAdd, Nat.reduceMul, Nat.reduceLeDiff, Nat.reduceLT, Int.reduceLT, Int.reduceLE, Int.reduceEq, Int.reduceNeg, Int.reduceToNat, Nat.reducePow, reduceIte, reduceCtorEq, i6, ew])
      | (with_reducible first | refine seq_normal ?_ | (refine hK _ _ ?_; clear hK K) | refine x_seq (fun K hK => ?_) | refine x_nil ?_ | refine x_block ?_ | refine x_skip ?_ | refine x_exit ?_ | refine x_ret ?_ | refine x_label ?_ | refine x_scope ?_ | (refine seq_ret ?_; clear hK K) | (refine seq_exit ?_; clear hK K) | refine block_normal ?_ | refine block_ret ?_ | refine block_exit ?_ | refine loop_exit ?_ | refine loop_ret ?_)
      | ((with_reducible refine x_reg_lit ?hq ?_); case hq => rfl)
      | ((first | (with_reducible first | refine x_op (fun K hK => ?_) | refine end_ret ?_ | refine end_normal ?_) | ((with_reducible refine x_guard_yes ?hy (fun K hK => ?_)); case hy => rfl)); simp only [go_sem, Int.cast_ofNat_Int, Nat.reduceEqDiff, Nat.reduceAdd, Nat.reduceMul, Nat.reduceLeDiff, Nat.reduceLT, Int.reduceLT, Int.reduceLE, Int.reduceEq, Int.reduceNeg, Int.reduceToNat, Nat.reducePow, reduceIte, reduceCtorEq, i6, ew])
      | ((with_reducible first | refine x_guard_no ?hy ?_ | refine x_cond_true ?hy ?_); case hy => rfl)
      | ((with_reducible first | refine x_guard_none ?hy ?_ | refine x_cond_false ?hy ?_); case hy => rfl)
      | ((with_reducible refine block_exit_ne ?hy ?_); case hy => decide))
    refine loop_normal (m' := most - (i + 1)) (by omega) ⟨i + 1, B3, v3, xs ++ [norm (zs i)], rfl, rfl, hv3, ?_, by simp [hxl], by omega, by omega, ?_, hf1.trans' hf13 fun b hb e => ?_, rfl⟩
    · intro b hb
      rcases hB3 with h | ⟨g', h1, h2⟩
      · exact hB b (h ▸ hb)
      · rw [h1] at hb
        obtain rfl := Option.some.inj hb
        simp at h2
        omega
    · intro x hx
      rcases List.mem_append.1 hx with hx | hx
      · exact hmay x hx
      · rw [List.mem_singleton.1 hx]; exact norm_may _
    · have := hB b e; omega
  · have hor : ¬ i < len ∨ (i < len ∧ ¬ i < most) := by
      by_cases h : i < len
      · exact .inr ⟨h, fun h2 => hgo ⟨h, h2⟩⟩
      · exact .inl h
    obtain ⟨a5, c5, hv5⟩ := hv.slice
    have i5' := i5.trans hv5
    rcases hor with h | ⟨h, h2⟩
    case' inl =>
      have t1 : (i < len) = False := by simp [h]
      repeat' (first
        | (with_reducible first | refine seq_normal ?_ | (refine hK _ _ ?_; clear hK K) | refine x_seq (fun K hK => ?_) | refine x_nil ?_ | refine x_block ?_ | refine x_skip ?_ | refine x_exit ?_ | refine x_ret ?_ | refine x_label ?_ | refine x_scope ?_ | (refine seq_ret ?_; clear hK K) | (refine seq_exit ?_; clear hK K) | refine block_normal ?_ | refine block_ret ?_ | refine block_exit ?_ | refine loop_exit ?_ | refine loop_ret ?_)
        | ((with_reducible refine x_reg_lit ?hq ?_); case hq => rfl)
        | ((first | (with_reducible first | refine x_op (fun K hK => ?_) | refine end_ret ?_ | refine end_normal ?_) | ((with_reducible refine x_guard_yes ?hy (fun K hK => ?_)); case hy => rfl)); simp only [go_sem, Int.cast_ofNat_Int, Nat.reduceEqDiff, Nat.reduceAdd, Nat.reduceMul, Nat.reduceLeDiff, Nat.reduceLT, Int.reduceLT, Int.reduceLE, Int.reduceEq, Int.reduceNeg, Int.reduceToNat, Nat.reducePow, reduceIte, reduceCtorEq, i0, i1, i5', i6, t1])
        | ((with_reducible first | refine x_guard_no ?hy ?_ | refine x_cond_true ?hy ?_); case hy => rfl)
        | ((with_reducible first | refine x_guard_none ?hy ?_ | refine x_cond_false ?hy ?_); case hy => rfl)
        | ((with_reducible refine block_exit_ne ?hy ?_); case hy => decide))
    case' inr =>
      have t1 : (i < len) = True := by simp [h]
      have t2 : (i < most) = False := by simp [h2]
      repeat' (first
        | (with_reducible first | refine seq_normal ?_ | (refine hK _ _ ?_; clear hK K) | refine x_seq (fun K hK => ?_) | refine x_nil ?_ | refine x_block ?_ | refine x_skip ?_ | refine x_exit ?_ | refine x_ret ?_ | refine x_label ?_ | refine x_scope ?_ | (refine seq_ret ?_; clear hK K) | (refine seq_exit ?_; clear hK K) | refine block_normal ?_ | refine block_ret ?_ | refine block_exit ?_ | refine loop_exit ?_ | refine loop_ret ?_)
        | ((with_reducible refine x_reg_lit ?hq ?_); case hq => rfl)
        | ((first | (with_reducible first | refine x_op (fun K hK => ?_) | refine end_ret ?_ | refine end_normal ?_) | ((with_reducible refine x_guard_yes ?hy (fun K hK => ?_)); case hy => rfl)); simp only [go_sem, Int.cast_ofNat_Int, Nat.reduceEqDiff, Nat.reduceAdd, Nat.reduceMul, Nat.reduceLeDiff, Nat.reduceLT, Int.reduceLT, Int.reduceLE, Int.reduceEq, Int.reduceNeg, Int.reduceToNat, Nat.reducePow, reduceIte, reduceCtorEq, i0, i1, i5', i6, t1, t2])
        | ((with_reducible first | refine x_guard_no ?hy ?_ | refine x_cond_true ?hy ?_); case hy => rfl)
        | ((with_reducible first | refine x_guard_none ?hy ?_ | refine x_cond_false ?hy ?_); case hy => rfl)
        | ((with_reducible refine block_exit_ne ?hy ?_); case hy => decide))
    all_goals
      by_cases hx0 : xs = []
      · have t3 : ((xs.length : Int) == 0) = true := by simp [hx0]
        refine x_cond_true (show _ = Value.bool true by rw [← t3]; rfl) ?_
        repeat' (first
          | (with_reducible first | refine seq_normal ?_ | (refine hK _ _ ?_; clear hK K) | refine x_seq (fun K hK => ?_) | refine x_nil ?_ | refine x_block ?_ | refine x_skip ?_ | refine x_exit ?_ | refine x_ret ?_ | refine x_label ?_ | refine x_scope ?_ | (refine seq_ret ?_; clear hK K) | (refine seq_exit ?_; clear hK K) | refine block_normal ?_ | refine block_ret ?_ | refine block_exit ?_ | refine loop_exit ?_ | refine loop_ret ?_)
          | ((with_reducible refine x_reg_lit ?hq ?_); case hq => rfl)
          | ((first | (with_reducible first | refine x_op (fun K hK => ?_) | refine end_ret ?_ | refine end_normal ?_) | ((with_reducible refine x_guard_yes ?hy (fun K hK => ?_)); case hy => rfl)); simp only [go_sem, Int.cast_ofNat_Int, Nat.reduceEqDiff, Nat.reduceAdd, Nat.reduceMul, Nat.reduceLeDiff, Nat.reduceLT, Int.reduceLT, Int.reduceLE, Int.reduceEq, Int.reduceNeg, Int.reduceToNat, Nat.reducePow, reduceIte, reduceCtorEq, i5'])
          | ((with_reducible first | refine x_guard_no ?hy ?_ | refine x_cond_true ?hy ?_); case hy => rfl)
          | ((with_reducible first | refine x_guard_none ?hy ?_ | refine x_cond_false ?hy ?_); case hy => rfl)
          | ((with_reducible refine block_exit_ne ?hy ?_); case hy => decide))
        rw [← hv5]
        refine append_item (x := ⟨1, true, 0⟩) (hv.frame ((Fr.refl _ _).push _) (fun _ _ h => h)) (readL_blk (Blk.new H1 (Sp.Item.cells ⟨1, true, 0⟩) _) 3 0 0 (by simp [Sp.Item.cells])) (by omega) ?_
        intro v3 H3 B3 hv3 hf3 hB3
        have hf13 : Fr (fun b => B = some b) H1 H3 := Fr.trans (Fr.mono (S := fun _ => False) ((Fr.refl _ _).push _) (fun _ _ h => h.elim)) hf3
        have hs1 := hf1.size
        repeat' (first
          | (with_reducible first | refine seq_normal ?_ | (refine hK _ _ ?_; clear hK K) | refine x_seq (fun K hK => ?_) | refine x_nil ?_ | refine x_block ?_ | refine x_skip ?_ | refine x_exit ?_ | refine x_ret ?_ | refine x_label ?_ | refine x_scope ?_ | (refine seq_ret ?_; clear hK K) | (refine seq_exit ?_; clear hK K) | refine block_normal ?_ | refine block_ret ?_ | refine block_exit ?_ | refine loop_exit ?_ | refine loop_ret ?_)
          | ((with_reducible refine x_reg_lit ?hq ?_); case hq => rfl)
          | ((first | (with_reducible first | refine x_op (fun K hK => ?_) | refine end_ret ?_ | refine end_normal ?_) | ((with_reducible refine x_guard_yes ?hy (fun K hK => ?_)); case hy => rfl)); simp only [go_sem, Int.cast_ofNat_Int, Nat.reduceEqDiff, Nat.reduceAdd, Nat.reduceMul, Nat.reduceLeDiff, Nat.reduceLT, Int.reduceLT, Int.reduceLE, Int.reduceEq, Int.reduceNeg, Int.reduceToNat, Nat.reducePow, reduceIte, reduceCtorEq])
          | ((with_reducible first | refine x_guard_no ?hy ?_ | refine x_cond_true ?hy ?_); case hy => rfl)
          | ((with_reducible first | refine x_guard_none ?hy ?_ | refine x_cond_false ?hy ?_); case hy => rfl)
          | ((with_reducible refine block_exit_ne ?hy ?_); case hy => decide))
        refine fin _ B3 _ _ hv3 ?_ (by simp) (by simp [hx0]; omega) ?_ (hf1.trans' hf13 fun b hb e => ?_)
        · intro b hb
          rcases hB3 with h | ⟨g', h1, h2⟩
          · exact hB b (h ▸ hb)
          · rw [h1] at hb
            obtain rfl := Option.some.inj hb
            simp at h2
            omega
        · intro x hx
          rcases List.mem_append.1 hx with hx | hx
          · exact hmay x hx
          · rw [List.mem_singleton.1 hx]; exact ⟨by decide, by decide, by decide, by decide⟩
        · have := hB b e; omega
      · have t3 : ((xs.length : Int) == 0) = false := by simp [hx0]
        refine x_cond_false (show _ = Value.bool false by rw [← t3]; rfl) ?_
        repeat' (first
          | (with_reducible first | refine seq_normal ?_ | (refine hK _ _ ?_; clear hK K) | refine x_seq (fun K hK => ?_) | refine x_nil ?_ | refine x_block ?_ | refine x_skip ?_ | refine x_exit ?_ | refine x_ret ?_ | refine x_label ?_ | refine x_scope ?_ | (refine seq_ret ?_; clear hK K) | (refine seq_exit ?_; clear hK K) | refine block_normal ?_ | refine block_ret ?_ | refine block_exit ?_ | refine loop_exit ?_ | refine loop_ret ?_)
          | ((with_reducible refine x_reg_lit ?hq ?_); case hq => rfl)
          | ((first | (with_reducible first | refine x_op (fun K hK => ?_) | refine end_ret ?_ | refine end_normal ?_) | ((with_reducible refine x_guard_yes ?hy (fun K hK => ?_)); case hy => rfl)); simp only [go_sem, Int.cast_ofNat_Int, Nat.reduceEqDiff, Nat.reduceAdd, Nat.reduceMul, Nat.reduceLeDiff, Nat.reduceLT, Int.reduceLT, Int.reduceLE, Int.reduceEq, Int.reduceNeg, Int.reduceToNat, Nat.reducePow, reduceIte, reduceCtorEq, i5'])
          | ((with_reducible first | refine x_guard_no ?hy ?_ | refine x_cond_true ?hy ?_); case hy => rfl)
          | ((with_reducible first | refine x_guard_none ?hy ?_ | refine x_cond_false ?hy ?_); case hy => rfl)
          | ((with_reducible refine block_exit_ne ?hy ?_); case hy => decide))
        rw [← hv5]
        have := List.length_pos_iff.2 hx0
        exact fin _ B _ _ hv hB (by omega) (by omega) hmay hf1
end Go.Proofs.Ytndkbhlfbeiniaa
