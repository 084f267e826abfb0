/-
  SplaySets returns true, whatever it is given, and writes nothing that was there.
-/
import Derived.Test.YtndkbhlfbeiniaaM7
namespace Go.Proofs.Ytndkbhlfbeiniaa
open Go Go.Hp Go.Sp
set_option linter.all false
set_option maxRecDepth 100000
set_option maxHeartbeats 1600000

theorem flatMap_cells (xs : List Sp.Item) : xs.flatMap Sp.Item.cells = (xs.map Sp.Item.cells).flatten := by rw [List.flatMap_def]
theorem Its.write {H : Heap} {g n c : Nat} {xs : List Sp.Item} (h : Its H (some g) (.slice (some ⟨g, 0, none⟩) n c) xs) {i : Nat} (hi : i < xs.length) (x : Sp.Item) :
    (okW H ⟨g, i * 3, none⟩ ∧ okW H ⟨g, i * 3 + 1, none⟩ ∧ okW H ⟨g, i * 3 + 2, none⟩) ∧
    Its (hset (hset (hset H ⟨g, i * 3, none⟩ (.int .i64 x.value)) ⟨g, i * 3 + 1, none⟩ (.bool x.counts)) ⟨g, i * 3 + 2, none⟩ (.int .i64 x.flags)) (some g) (.slice (some ⟨g, 0, none⟩) n c) (xs.set i x) ∧
    Fr (fun b => some g = some b) H (hset (hset (hset H ⟨g, i * 3, none⟩ (.int .i64 x.value)) ⟨g, i * 3 + 1, none⟩ (.bool x.counts)) ⟨g, i * 3 + 2, none⟩ (.int .i64 x.flags)) := by
  obtain ⟨hl, h | ⟨g', c', rest, h1, h2, h3, h4, h5⟩⟩ := h
  · cases h.1
  · obtain rfl := Option.some.inj h1
    simp only [Value.slice.injEq] at h2
    obtain ⟨_, rfl, rfl⟩ := h2
    have hlen := cells_len xs
    have hw : ∀ r ∈ xs.map Sp.Item.cells, r.length = 3 := fun r hr => by obtain ⟨y, _, rfl⟩ := List.mem_map.1 hr; rfl
    have hset := rows3 hw (i := i) (by rw [List.length_map]; exact hi) (.int .i64 x.value) (.bool x.counts) (.int .i64 x.flags) rest
    rw [← flatMap_cells] at hset
    have hms : ((xs.map Sp.Item.cells).set i [.int .i64 x.value, .bool x.counts, .int .i64 x.flags]).flatten = (xs.set i x).flatMap Sp.Item.cells := by
      rw [flatMap_cells, List.map_set]; rfl
    rw [hms] at hset
    refine ⟨⟨h3.okW (by rw [List.length_append, hlen]; omega), h3.okW (by rw [List.length_append, hlen]; omega), h3.okW (by rw [List.length_append, hlen]; omega)⟩, ⟨by rw [cells_len], .inr ⟨g, c, rest, rfl, by simp, ?_, ?_, by simpa using h5⟩⟩, ?_⟩
    · rw [← hset]
      exact ((h3.set_same _ _).set_same _ _).set_same _ _
    · rw [List.length_append, cells_len, List.length_set]
      rw [List.length_append, cells_len] at h4
      exact h4
    · have step : ∀ {H' : Heap} (o : Nat) (v : Value), Fr (fun b => some g = some b) H H' → Fr (fun b => some g = some b) H (Go.Hp.hset H' ⟨g, o, none⟩ v) := fun o v h => Fr.set (S := fun b => some g = some b) (a := ⟨g, o, none⟩) h (.inl rfl) v
      exact step _ _ (step _ _ (step _ _ (Fr.refl _ _)))
theorem repL_zero (n : Nat) : repL n [.int .i64 0, .bool false, .int .i64 0] = (List.replicate n Sp.Item.zero).flatMap Sp.Item.cells := by
  induction n with
  | zero => rfl
  | succ n ih => rw [List.replicate_succ, List.flatMap_cons, ← ih]; rfl
theorem its_new (H : Heap) (n : Nat) (T : TypeId) : Its (H.push (.cells (repL n [.int .i64 0, .bool false, .int .i64 0]).toArray T)) (some H.size) (.slice (some ⟨H.size, 0, none⟩) n n) (List.replicate n Sp.Item.zero) := by
  refine ⟨by rw [cells_len], .inr ⟨H.size, n, [], rfl, by simp, ?_, ?_, by simp⟩⟩
  · rw [List.append_nil, ← repL_zero]
    exact Blk.new H _ T
  · rw [List.append_nil, cells_len]; simp
theorem set_step {l : List Sp.Item} {n j : Nat} {x : Sp.Item} (hl : l.length = n) (hx : l[j]? = some x) (z : Sp.Item) : (l.take j ++ List.replicate (n - j) z).set j x = l.take (j + 1) ++ List.replicate (n - (j + 1)) z := by
  have hlt := (List.getElem?_eq_some_iff.1 hx).1
  rw [List.set_append_right _ _ (by rw [List.length_take]; omega), List.length_take, show j - min j l.length = 0 by omega, show n - j = (n - (j + 1)) + 1 by omega, List.replicate_succ, List.set_cons_zero, List.take_add_one, hx]
  simp
theorem itemFlat : flatS Try.prog 31 = some [(.int .i64, 0), (.bool, 1), (.int .i64, 2)] := by kernel_rfl
theorem item_eq {op : BinOp} {ox oy : Operand} {a b : Sp.Item} {H : Heap} {K : Value → Prop} (hK : match op with | .eql => K (.bool (decide (a = b))) | .neq => K (.bool (!decide (a = b))) | _ => False) : binX Try.prog op 31 ox oy a.val b.val H K := by
  refine binX_flat itemFlat (b := decide (a = b)) ?_ hK
  obtain ⟨a1, a2, a3⟩ := a
  obtain ⟨b1, b2, b3⟩ := b
  simp only [allEq, sEq, List.getElem?_toArray, List.getElem?_cons_zero, List.getElem?_cons_succ, if_true, Sp.Item.mk.injEq]
  have key : ∀ x y : Int, (x == y) = decide (x = y) := fun x y => by by_cases h : x = y <;> simp [h]
  have keyb : ∀ x y : Bool, (x == y) = decide (x = y) := fun x y => by cases x <;> cases y <;> rfl
  simp only [key, keyb]
  by_cases h1 : a1 = b1 <;> by_cases h2 : a2 = b2 <;> by_cases h3 : a3 = b3 <;> simp [h1, h2, h3]
section
variable {H0 H : Heap} {e : Env} {Q : HX → Env → Heap → Prop} {f : Nat} {T : Nat → Prop} {S : Sq} {B : Option Nat} {v : Value} {all : List Nat}
theorem setsInner {bx go co k xk : Nat} (hM : RM H0 H f T S B v all) (hr : S.rows = [all]) (hne : all ≠ []) (hk : all[k]? = some xk) (hx : Blk H bx (S.it xk).cells) (hbx : H0.size ≤ bx ∧ ¬ T bx ∧ go ≠ bx)
    (ho : Its H (some go) (.slice (some ⟨go, 0, none⟩) all.length co) (List.replicate all.length Sp.Item.zero)) (hgo : ∀ b, some go = some b → H0.size ≤ b ∧ ¬ T b ∧ B ≠ some b)
    (e10 : e 10 = .pointer (some ⟨f, 0, none⟩)) (e11 : e 11 = v) (e14 : e 14 = .int .i64 (k : Nat)) (e15 : e 15 = .pointer (some ⟨bx, 0, none⟩)) (e16 : e 16 = .slice (some ⟨go, 0, none⟩) all.length co) (e17 : e 17 = .int .i64 0)
    (hQ : ∀ e' H', (e' 2 = e 2 ∧ e' 9 = e 9 ∧ e' 10 = e 10 ∧ e' 11 = e 11 ∧ e' 12 = e 12 ∧ e' 13 = e 13 ∧ e' 15 = e 15 ∧ e' 16 = e 16) → RM H0 H' f T S B v all → Its H' (some go) (.slice (some ⟨go, 0, none⟩) all.length co) (all.map S.it) → Fr (fun b => T b ∨ some go = some b) H H' → Q .normal e' H') :
    codeX Try.prog [11] (loopAt Try.f3.body 1) (blockQ 2 Q) e H := by
  obtain ⟨g, c, rfl, rfl, hc⟩ := hM.open hne
  have hlen : all.length ≤ 4096 := by have := hM.fo.len; rw [hr] at this; simpa using this
  have hxf : ∀ x ∈ all, x ∈ S.rows.flatten := fun x h => by rw [hr]; simpa using h
  obtain ⟨n, hn⟩ : ∃ n, n = all.length := ⟨_, rfl⟩
  rw [← hn] at hlen hM hc e11 e16 hQ ho
  refine x_loop (fun m e' H' => ∃ j : Nat, e' 17 = .int .i64 (j : Nat) ∧ RM H0 H' f T S (some g) (.slice (some ⟨g, 0, none⟩) n c) all ∧ Its H' (some go) (.slice (some ⟨go, 0, none⟩) n co) ((all.map S.it).take j ++ List.replicate (n - j) Sp.Item.zero) ∧ Blk H' bx (S.it xk).cells ∧
      Fr (fun b => T b ∨ some go = some b) H H' ∧ j ≤ n ∧ m = n - j) n ⟨0, e17, hM, by simpa using ho, hx, .refl _ _, Nat.zero_le _, rfl⟩ ?_
  rintro m e1 H1 ⟨j, i17, hM1, ho1, hx1, hf1, hj, rfl⟩ hoff
  have i10 := (hoff 10 rfl).trans e10
  have i11 := (hoff 11 rfl).trans e11
  have i14 := (hoff 14 rfl).trans e14
  have i15 := (hoff 15 rfl).trans e15
  have i16 := (hoff 16 rfl).trans e16
  have keep : e1 2 = e 2 ∧ e1 9 = e 9 ∧ e1 10 = e 10 ∧ e1 11 = e 11 ∧ e1 12 = e 12 ∧ e1 13 = e 13 ∧ e1 15 = e 15 ∧ e1 16 = e 16 := ⟨hoff 2 rfl, hoff 9 rfl, hoff 10 rfl, hoff 11 rfl, hoff 12 rfl, hoff 13 rfl, hoff 15 rfl, hoff 16 rfl⟩
  clear hoff e10 e11 e14 e15 e16 e17
  by_cases hlt : j < n
  · obtain ⟨w, hw⟩ : ∃ w, all[j]? = some w := ⟨_, List.getElem?_eq_getElem (by omega)⟩
    have cw := hM1.cell hw
    have ew : IntKind.i64.wrap ((j : Int) + 1) = ((j + 1 : Nat) : Int) := by rw [wrap_i64] <;> omega
    obtain ⟨x, hxw⟩ : ∃ x, x = S.it w := ⟨_, rfl⟩
    repeat' (first
      | (with_reducible first | refine seq_normal ?_ | (refine hK _ _ ?_; clear hK K) | refine x_seq (fun K hK => ?_) | refine x_nil ?_ | refine x_block ?_ | refine x_skip ?_ | refine x_exit ?_ | refine x_ret ?_ | refine x_label ?_ | refine x_scope ?_ | (refine seq_ret ?_; clear hK K) | (refine seq_exit ?_; clear hK K) | refine block_normal ?_ | refine block_ret ?_ | refine block_exit ?_ | refine loop_exit ?_ | refine loop_ret ?_)
      | ((with_reducible refine x_reg_lit ?hq ?_); case hq => rfl)
      | ((first | (with_reducible first | refine x_op (fun K hK => ?_) | refine end_ret ?_ | refine end_normal ?_) | ((with_reducible refine x_guard_yes ?hy (fun K hK => ?_)); case hy => rfl)); simp only [go_sem, Int.cast_ofNat_Int, Nat.reduceEqDiff, Nat.reduceAdd, Nat.reduceMul, Nat.reduceLeDiff, Nat.reduceLT, Int.reduceLT, Int.reduceLE, Int.reduceEq, Int.reduceNeg, Int.reduceToNat, Nat.reducePow, reduceIte, reduceCtorEq, i10, i11, i17, hlt, cw])
      | ((with_reducible first | refine x_guard_no ?hy ?_ | refine x_cond_true ?hy ?_); case hy => rfl)
      | ((with_reducible first | refine x_guard_none ?hy ?_ | refine x_cond_false ?hy ?_); case hy => rfl)
      | ((with_reducible refine block_exit_ne ?hy ?_); case hy => decide))
    refine m_get hM1.fo (hxf w (List.mem_of_getElem? hw)) ?_
    intro H2 hF2 hf2
    rw [← hxw]
    have hM2 := hM1.op hF2 hf2
    have ho2 := ho1.frame hf2 fun b hb => (hgo b hb).2.1
    have hx2 := hx1.frame hf2 hbx.2.1
    have hf02 : Fr (fun b => T b ∨ some go = some b) H H2 := hf1.trans (hf2.mono fun b _ h => .inl h)
    have hs2 := ho2.lt rfl
    have hbx2 := hx2.lt
    have a0 := hx2.cellOf (i := 0) rfl
    have a1 := hx2.cellOf (i := 1) rfl
    have a2 := hx2.cellOf (i := 2) rfl
    have hneb : ¬ bx = H2.size := by omega
    have hneb' : ¬ H2.size = bx := by omega
    by_cases hjk : j = k
    case' pos =>
      have hwx : w = xk := by rw [hjk, hk] at hw; exact (Option.some.inj hw).symm
      rw [hwx] at hxw
      rw [← hxw] at a0 a1 a2
      have z1 : ((j : Int) == (k : Int)) = true := by simp [hjk]
      repeat' (first
        | (with_reducible first | refine seq_normal ?_ | (refine hK _ _ ?_; clear hK K) | refine x_seq (fun K hK => ?_) | refine x_nil ?_ | refine x_block ?_ | refine x_skip ?_ | refine x_exit ?_ | refine x_ret ?_ | refine x_label ?_ | refine x_scope ?_ | (refine seq_ret ?_; clear hK K) | (refine seq_exit ?_; clear hK K) | refine block_normal ?_ | refine block_ret ?_ | refine block_exit ?_ | refine loop_exit ?_ | refine loop_ret ?_)
        | ((with_reducible refine x_reg_lit ?hq ?_); case hq => rfl)
        | ((first | (with_reducible first | refine x_op (fun K hK => ?_) | refine end_ret ?_ | refine end_normal ?_) | ((with_reducible refine x_guard_yes ?hy (fun K hK => ?_)); case hy => rfl)); simp only [go_sem, Int.cast_ofNat_Int, Nat.reduceEqDiff, Nat.reduceAdd, Nat.reduceMul, Nat.reduceLeDiff, Nat.reduceLT, Int.reduceLT, Int.reduceLE, Int.reduceEq, Int.reduceNeg, Int.reduceToNat, Nat.reducePow, reduceIte, reduceCtorEq, Sp.Item.val, i10, i11, i14, i15, i16, i17, z1, a0, a1, a2, hneb, hneb', hbx2, hcell_push, hcell_top, okW_push, okW_top, hcell_hset_ne, hcell_hset_off, hcell_hset_eq, okW_hset, hset_size, Array.size_push, Nat.lt_add_one, ne_add_one, add_one_ne, Nat.add_assoc, add_same, add_lt_same, Nat.reduceEqDiff, lt_add_k, add_k_ne, ne_add_k])
        | ((with_reducible first | refine x_guard_no ?hy ?_ | refine x_cond_true ?hy ?_); case hy => rfl)
        | ((with_reducible first | refine x_guard_none ?hy ?_ | refine x_cond_false ?hy ?_); case hy => rfl)
        | ((with_reducible refine block_exit_ne ?hy ?_); case hy => decide))
      refine item_eq (op := .neq) (a := x) (b := x) ?_
      simp only [decide_true, Bool.not_true]
      repeat' (first
        | (with_reducible first | refine seq_normal ?_ | (refine hK _ _ ?_; clear hK K) | refine x_seq (fun K hK => ?_) | refine x_nil ?_ | refine x_block ?_ | refine x_skip ?_ | refine x_exit ?_ | refine x_ret ?_ | refine x_label ?_ | refine x_scope ?_ | (refine seq_ret ?_; clear hK K) | (refine seq_exit ?_; clear hK K) | refine block_normal ?_ | refine block_ret ?_ | refine block_exit ?_ | refine loop_exit ?_ | refine loop_ret ?_)
        | ((with_reducible refine x_reg_lit ?hq ?_); case hq => rfl)
        | ((first | (with_reducible first | refine x_op (fun K hK => ?_) | refine end_ret ?_ | refine end_normal ?_) | ((with_reducible refine x_guard_yes ?hy (fun K hK => ?_)); case hy => rfl)); simp only [go_sem, Int.cast_ofNat_Int, Nat.reduceEqDiff, Nat.reduceAdd, Nat.reduceMul, Nat.reduceLeDiff, Nat.reduceLT, Int.reduceLT, Int.reduceLE, Int.reduceEq, Int.reduceNeg, Int.reduceToNat, Nat.reducePow, reduceIte, reduceCtorEq, Sp.Item.val, i10, i11, i14, i15, i16, i17, z1, hlt, hcell_push, hcell_top, okW_push, okW_top, hcell_hset_ne, hcell_hset_off, hcell_hset_eq, okW_hset, hset_size, Array.size_push, Nat.lt_add_one, ne_add_one, add_one_ne, Nat.add_assoc, add_same, add_lt_same, Nat.reduceEqDiff, lt_add_k, add_k_ne, ne_add_k])
        | ((with_reducible first | refine x_guard_no ?hy ?_ | refine x_cond_true ?hy ?_); case hy => rfl)
        | ((with_reducible first | refine x_guard_none ?hy ?_ | refine x_cond_false ?hy ?_); case hy => rfl)
        | ((with_reducible refine block_exit_ne ?hy ?_); case hy => decide))
      rw [← hwx] at hxw
    case' neg =>
      have z1 : ((j : Int) == (k : Int)) = false := by simp; omega
      repeat' (first
        | (with_reducible first | refine seq_normal ?_ | (refine hK _ _ ?_; clear hK K) | refine x_seq (fun K hK => ?_) | refine x_nil ?_ | refine x_block ?_ | refine x_skip ?_ | refine x_exit ?_ | refine x_ret ?_ | refine x_label ?_ | refine x_scope ?_ | (refine seq_ret ?_; clear hK K) | (refine seq_exit ?_; clear hK K) | refine block_normal ?_ | refine block_ret ?_ | refine block_exit ?_ | refine loop_exit ?_ | refine loop_ret ?_)
        | ((with_reducible refine x_reg_lit ?hq ?_); case hq => rfl)
        | ((first | (with_reducible first | refine x_op (fun K hK => ?_) | refine end_ret ?_ | refine end_normal ?_) | ((with_reducible refine x_guard_yes ?hy (fun K hK => ?_)); case hy => rfl)); simp only [go_sem, Int.cast_ofNat_Int, Nat.reduceEqDiff, Nat.reduceAdd, Nat.reduceMul, Nat.reduceLeDiff, Nat.reduceLT, Int.reduceLT, Int.reduceLE, Int.reduceEq, Int.reduceNeg, Int.reduceToNat, Nat.reducePow, reduceIte, reduceCtorEq, Sp.Item.val, i10, i11, i14, i15, i16, i17, z1, hlt, a0, a1, a2, hneb, hneb', hbx2, hcell_push, hcell_top, okW_push, okW_top, hcell_hset_ne, hcell_hset_off, hcell_hset_eq, okW_hset, hset_size, Array.size_push, Nat.lt_add_one, ne_add_one, add_one_ne, Nat.add_assoc, add_same, add_lt_same, Nat.reduceEqDiff, lt_add_k, add_k_ne, ne_add_k])
        | ((with_reducible first | refine x_guard_no ?hy ?_ | refine x_cond_true ?hy ?_); case hy => rfl)
        | ((with_reducible first | refine x_guard_none ?hy ?_ | refine x_cond_false ?hy ?_); case hy => rfl)
        | ((with_reducible refine block_exit_ne ?hy ?_); case hy => decide))
    all_goals
      have hp := ho2.frame (S := fun _ => False) (H' := H2.push (.cells #[.int .i64 0, .bool false, .int .i64 0] 31)) ((Fr.refl _ _).push _) (fun _ _ h => h)
      have hjl : j < ((all.map S.it).take j ++ List.replicate (n - j) Sp.Item.zero).length := by simp; omega
      obtain ⟨⟨w0, w1, w2⟩, _, _⟩ := hp.write hjl x
      refine ⟨w0, w1, w2, ?_⟩
      generalize hH3 : hset (hset (hset (H2.push _) ⟨H2.size, 0, none⟩ (.int .i64 x.value)) ⟨H2.size, 1, none⟩ (.bool x.counts)) ⟨H2.size, 2, none⟩ (.int .i64 x.flags) = H3
      have hf3 : Fr (fun _ => False) H2 H3 := by rw [← hH3]; exact (by ((repeat (first | refine Fr.set ?_ (by simp) _ | refine Fr.push ?_ _)); exact Fr.refl _ _))
      clear hH3
      have ho3 := ho2.frame hf3 fun _ _ h => h
      obtain ⟨_, ho4, hf4⟩ := ho3.write hjl x
      rw [set_step (by simp [hn]) (by rw [List.getElem?_map, hw, hxw]; rfl)] at ho4
      repeat' (first
        | (with_reducible first | refine seq_normal ?_ | (refine hK _ _ ?_; clear hK K) | refine x_seq (fun K hK => ?_) | refine x_nil ?_ | refine x_block ?_ | refine x_skip ?_ | refine x_exit ?_ | refine x_ret ?_ | refine x_label ?_ | refine x_scope ?_ | (refine seq_ret ?_; clear hK K) | (refine seq_exit ?_; clear hK K) | refine block_normal ?_ | refine block_ret ?_ | refine block_exit ?_ | refine loop_exit ?_ | refine loop_ret ?_)
        | ((with_reducible refine x_reg_lit ?hq ?_); case hq => rfl)
        | ((first | (with_reducible first | refine x_op (fun K hK => ?_) | refine end_ret ?_ | refine end_normal ?_) | ((with_reducible refine x_guard_yes ?hy (fun K hK => ?_)); case hy => rfl)); simp only [go_sem, Int.cast_ofNat_Int, Nat.reduceEqDiff, Nat.reduceAdd, Nat.reduceMul, Nat.reduceLeDiff, Nat.reduceLT, Int.reduceLT, Int.reduceLE, Int.reduceEq, Int.reduceNeg, Int.reduceToNat, Nat.reducePow, reduceIte, reduceCtorEq, i17, ew])
        | ((with_reducible first | refine x_guard_no ?hy ?_ | refine x_cond_true ?hy ?_); case hy => rfl)
        | ((with_reducible first | refine x_guard_none ?hy ?_ | refine x_cond_false ?hy ?_); case hy => rfl)
        | ((with_reducible refine block_exit_ne ?hy ?_); case hy => decide))
      exact loop_normal (m' := n - (j + 1)) (by omega) ⟨j + 1, rfl, (hM2.grow hf3).other hf4 hgo, ho4, (hx2.frame hf3 fun h => h).frame hf4 (fun e => hbx.2.2 (Option.some.inj e)), (hf02.trans (hf3.mono fun _ _ h => h.elim)).trans (hf4.mono fun b _ h => .inr h), by omega, rfl⟩
  · have t1 : (j < n) = False := by simp; omega
    have hj' : j = n := by omega
    subst hj'
    repeat' (first
      | (with_reducible first | refine seq_normal ?_ | (refine hK _ _ ?_; clear hK K) | refine x_seq (fun K hK => ?_) | refine x_nil ?_ | refine x_block ?_ | refine x_skip ?_ | refine x_exit ?_ | refine x_ret ?_ | refine x_label ?_ | refine x_scope ?_ | (refine seq_ret ?_; clear hK K) | (refine seq_exit ?_; clear hK K) | refine block_normal ?_ | refine block_ret ?_ | refine block_exit ?_ | refine loop_exit ?_ | refine loop_ret ?_)
      | ((with_reducible refine x_reg_lit ?hq ?_); case hq => rfl)
      | ((first | (with_reducible first | refine x_op (fun K hK => ?_) | refine end_ret ?_ | refine end_normal ?_) | ((with_reducible refine x_guard_yes ?hy (fun K hK => ?_)); case hy => rfl)); simp only [go_sem, Int.cast_ofNat_Int, Nat.reduceEqDiff, Nat.reduceAdd, Nat.reduceMul, Nat.reduceLeDiff, Nat.reduceLT, Int.reduceLT, Int.reduceLE, Int.reduceEq, Int.reduceNeg, Int.reduceToNat, Nat.reducePow, reduceIte, reduceCtorEq, i11, i17, t1])
      | ((with_reducible first | refine x_guard_no ?hy ?_ | refine x_cond_true ?hy ?_); case hy => rfl)
      | ((with_reducible first | refine x_guard_none ?hy ?_ | refine x_cond_false ?hy ?_); case hy => rfl)
      | ((with_reducible refine block_exit_ne ?hy ?_); case hy => decide))
    rw [List.take_of_length_le (by simp; omega), Nat.sub_self, List.replicate_zero, List.append_nil] at ho1
    exact hQ _ _ keep hM1 ho1 hf1
theorem item_new (H : Heap) (x : Sp.Item) (T : TypeId) :
    Blk (hset (hset (hset (H.push (.cells #[.int .i64 0, .bool false, .int .i64 0] T)) ⟨H.size, 0, none⟩ (.int .i64 x.value)) ⟨H.size, 1, none⟩ (.bool x.counts)) ⟨H.size, 2, none⟩ (.int .i64 x.flags)) H.size x.cells :=
  (((Blk.new H [.int .i64 0, .bool false, .int .i64 0] T).set_same 0 _).set_same 1 _).set_same 2 _
theorem setsLoop {a : Option Addr} {len cap : Nat} {zs : Nat → Int} {By : Option Nat} {vy : Value} {ys : List Sp.Item} (hin : InInts H0 a len zs) (hl : len ≤ 9223372036854775807) (hM : RM H0 H f T S B v all) (hr : S.rows = [all]) (hne : all ≠ [])
    (hy : Its H By vy ys) (hy1 : 1 ≤ ys.length) (hy2 : ys.length ≤ 60) (hym : ∀ y ∈ ys, May y) (hBy : ∀ b, By = some b → H0.size ≤ b ∧ ¬ T b ∧ B ≠ some b)
    (e2 : e 2 = .slice a len cap) (e10 : e 10 = .pointer (some ⟨f, 0, none⟩)) (e11 : e 11 = v) (e12 : e 12 = vy) (e13 : e 13 = .int .i64 0)
    (hQ : ∀ e' H', Fr (fun _ => False) H0 H' → Q .normal e' H') :
    codeX Try.prog [11] (loopAt Try.f3.body 0) (blockQ 0 Q) e H := by
  obtain ⟨g, c, rfl, rfl, hc⟩ := hM.open hne
  have hpos := List.length_pos_iff.2 hne
  have hlen : all.length ≤ 4096 := by have := hM.fo.len; rw [hr] at this; simpa using this
  obtain ⟨n, hn⟩ : ∃ n, n = all.length := ⟨_, rfl⟩
  rw [← hn] at hpos hlen hM hc e11
  refine x_loop (fun m e' H' => ∃ (i : Nat) (S' : Sq), e' 13 = .int .i64 (i : Nat) ∧ RM H0 H' f T S' (some g) (.slice (some ⟨g, 0, none⟩) n c) all ∧ S'.rows = [all] ∧ Its H' By vy ys ∧ i ≤ 60 ∧ i ≤ len ∧ m = 60 - i) 60 ⟨0, S, e13, hM, hr, hy, by omega, by omega, rfl⟩ ?_
  rintro m e1 H1 ⟨i, S1, i13, hM1, hr1, hyi, hi60, hil, rfl⟩ hoff
  have i2 := (hoff 2 rfl).trans e2
  have i10 := (hoff 10 rfl).trans e10
  have i11 := (hoff 11 rfl).trans e11
  have i12 := (hoff 12 rfl).trans e12
  clear hoff e2 e10 e11 e12 e13
  by_cases hgo : i < len ∧ i < 60
  · have t1 : (i < len) = True := by simp [hgo.1]
    have t2 : ((i : Int) < 60) = True := by simp; omega
    have hx : all ∈ S1.rows := by rw [hr1]; exact .head _
    have hxf : ∀ x ∈ all, x ∈ S1.rows.flatten := fun x h => by rw [hr1]; simpa using h
    obtain ⟨p, rfl, cz, hz1, hz2⟩ := (hin.frame hM1.fr) i hgo.1
    obtain ⟨r0, r1⟩ := pickN_range (zs i) (n := (n : Int)) (by omega)
    obtain ⟨k, ek⟩ := Int.eq_ofNat_of_zero_le r0
    have hk : k < n := by omega
    obtain ⟨xk, hxk⟩ : ∃ x, all[k]? = some x := ⟨_, List.getElem?_eq_getElem (by omega)⟩
    have hxka := List.mem_of_getElem? hxk
    have ew : IntKind.i64.wrap ((i : Int) + 1) = ((i + 1 : Nat) : Int) := by rw [wrap_i64] <;> omega
    obtain ⟨r, hrr⟩ : ∃ r, r = i % ys.length := ⟨_, rfl⟩
    have hrl : r < ys.length := by rw [hrr]; exact Nat.mod_lt _ (by omega)
    have er : (i : Int).tmod (ys.length : Int) = (r : Int) := by rw [Int.tmod_eq_emod_of_nonneg (by omega), hrr]; rfl
    have hy0 : ((ys.length : Int) = 0) = False := by simp only [eq_iff_iff, iff_false]; omega
    obtain ⟨x, hxr⟩ : ∃ x, ys[r]? = some x := ⟨_, List.getElem?_eq_getElem hrl⟩
    have hxm := hym x (List.mem_of_getElem? hxr)
    obtain ⟨gy, cy, hBy', hvy, q0, q1, q2⟩ := hyi.read hxr
    have i12' := i12.trans hvy
    repeat' (first
      | (with_reducible first | refine seq_normal ?_ | (refine hK _ _ ?_; clear hK K) | refine x_seq (fun K hK => ?_) | refine x_nil ?_ | refine x_block ?_ | refine x_skip ?_ | refine x_exit ?_ | refine x_ret ?_ | refine x_label ?_ | refine x_scope ?_ | (refine seq_ret ?_; clear hK K) | (refine seq_exit ?_; clear hK K) | refine block_normal ?_ | refine block_ret ?_ | refine block_exit ?_ | refine loop_exit ?_ | refine loop_ret ?_)
      | ((with_reducible refine x_reg_lit ?hq ?_); case hq => rfl)
      | ((first | (with_reducible first | refine x_op (fun K hK => ?_) | refine end_ret ?_ | refine end_normal ?_) | ((with_reducible refine x_guard_yes ?hy (fun K hK => ?_)); case hy => rfl)); simp only [go_sem, Int.cast_ofNat_Int, Nat.reduceEqDiff, Nat.reduceAdd, Nat.reduceMul, Nat.reduceLeDiff, Nat.reduceLT, Int.reduceLT, Int.reduceLE, Int.reduceEq, Int.reduceNeg, Int.reduceToNat, Nat.reducePow, reduceIte, reduceCtorEq, i2, i10, i11, i13, t1, t2, cz])
      | ((with_reducible first | refine x_guard_no ?hy ?_ | refine x_cond_true ?hy ?_); case hy => rfl)
      | ((with_reducible first | refine x_guard_none ?hy ?_ | refine x_cond_false ?hy ?_); case hy => rfl)
      | ((with_reducible refine block_exit_ne ?hy ?_); case hy => decide))
    refine Pkisthmuslaw03.pick_ok hz1 hz2 (by omega) ?_
    rw [ek]
    repeat' (first
      | (with_reducible first | refine seq_normal ?_ | (refine hK _ _ ?_; clear hK K) | refine x_seq (fun K hK => ?_) | refine x_nil ?_ | refine x_block ?_ | refine x_skip ?_ | refine x_exit ?_ | refine x_ret ?_ | refine x_label ?_ | refine x_scope ?_ | (refine seq_ret ?_; clear hK K) | (refine seq_exit ?_; clear hK K) | refine block_normal ?_ | refine block_ret ?_ | refine block_exit ?_ | refine loop_exit ?_ | refine loop_ret ?_)
      | ((with_reducible refine x_reg_lit ?hq ?_); case hq => rfl)
      | ((first | (with_reducible first | refine x_op (fun K hK => ?_) | refine end_ret ?_ | refine end_normal ?_) | ((with_reducible refine x_guard_yes ?hy (fun K hK => ?_)); case hy => rfl)); simp only [go_sem, Int.cast_ofNat_Int, Nat.reduceEqDiff, Nat.reduceAdd, Nat.reduceMul, Nat.reduceLeDiff, Nat.reduceLT, Int.reduceLT, Int.reduceLE, Int.reduceEq, Int.reduceNeg, Int.reduceToNat, Nat.reducePow, reduceIte, reduceCtorEq, i2, i10, i11, i12', i13, er, hy0, hrl, q0, q1, q2, hk, hcell_push, hcell_top, okW_push, okW_top, hcell_hset_ne, hcell_hset_off, hcell_hset_eq, okW_hset, hset_size, Array.size_push, Nat.lt_add_one, ne_add_one, add_one_ne, Nat.add_assoc, add_same, add_lt_same, Nat.reduceEqDiff, lt_add_k, add_k_ne, ne_add_k])
      | ((with_reducible first | refine x_guard_no ?hy ?_ | refine x_cond_true ?hy ?_); case hy => rfl)
      | ((with_reducible first | refine x_guard_none ?hy ?_ | refine x_cond_false ?hy ?_); case hy => rfl)
      | ((with_reducible refine block_exit_ne ?hy ?_); case hy => decide))
    generalize hH2 : hset _ _ _ = H2
    have hb2 : Blk H2 H1.size x.cells := by rw [← hH2]; exact item_new H1 x _
    have hf2 : Fr (fun _ => False) H1 H2 := by rw [← hH2]; exact (by ((repeat (first | refine Fr.set ?_ (by simp) _ | refine Fr.push ?_ _)); exact Fr.refl _ _))
    clear hH2
    have hM2 := hM1.grow hf2
    have hy2' := hyi.frame hf2 fun _ _ h => h
    have cx := hM2.cell hxk
    have a0 := hb2.cellOf (i := 0) rfl
    have a1 := hb2.cellOf (i := 1) rfl
    have a2 := hb2.cellOf (i := 2) rfl
    simp only [go_sem, Int.cast_ofNat_Int, Nat.reduceEqDiff, Nat.reduceAdd, Nat.reduceMul, Nat.reduceLeDiff, Nat.reduceLT, Int.reduceLT, Int.reduceLE, Int.reduceEq, Int.reduceNeg, Int.reduceToNat, Nat.reducePow, reduceIte, reduceCtorEq, cx]
    repeat' (first
      | (with_reducible first | refine seq_normal ?_ | (refine hK _ _ ?_; clear hK K) | refine x_seq (fun K hK => ?_) | refine x_nil ?_ | refine x_block ?_ | refine x_skip ?_ | refine x_exit ?_ | refine x_ret ?_ | refine x_label ?_ | refine x_scope ?_ | (refine seq_ret ?_; clear hK K) | (refine seq_exit ?_; clear hK K) | refine block_normal ?_ | refine block_ret ?_ | refine block_exit ?_ | refine loop_exit ?_ | refine loop_ret ?_)
      | ((with_reducible refine x_reg_lit ?hq ?_); case hq => rfl)
      | ((first | (with_reducible first | refine x_op (fun K hK => ?_) | refine end_ret ?_ | refine end_normal ?_) | ((with_reducible refine x_guard_yes ?hy (fun K hK => ?_)); case hy => rfl)); simp only [go_sem, Int.cast_ofNat_Int, Nat.reduceEqDiff, Nat.reduceAdd, Nat.reduceMul, Nat.reduceLeDiff, Nat.reduceLT, Int.reduceLT, Int.reduceLE, Int.reduceEq, Int.reduceNeg, Int.reduceToNat, Nat.reducePow, reduceIte, reduceCtorEq, i2, i10, i11, i12', i13, hk, cx, a0, a1, a2])
      | ((with_reducible first | refine x_guard_no ?hy ?_ | refine x_cond_true ?hy ?_); case hy => rfl)
      | ((with_reducible first | refine x_guard_none ?hy ?_ | refine x_cond_false ?hy ?_); case hy => rfl)
      | ((with_reducible refine block_exit_ne ?hy ?_); case hy => decide))
    refine m_set (k := xk) (x := x) hM2.fo (hxf xk hxka) (May.fits hxm) hxm ?_
    intro H3 hF3 hf3
    have hM3 := hM2.op hF3 hf3
    have hnT1 : ¬ T H1.size := fun h => by have := hM1.fo.lt h; omega
    have hb3 := hb2.frame hf3 hnT1
    have hy3 := hy2'.frame hf3 fun b hb => (hBy b hb).2.1
    have tb : (n * 24 ≤ 281474976710656) = True := by simp; omega
    repeat' (first
      | (with_reducible first | refine seq_normal ?_ | (refine hK _ _ ?_; clear hK K) | refine x_seq (fun K hK => ?_) | refine x_nil ?_ | refine x_block ?_ | refine x_skip ?_ | refine x_exit ?_ | refine x_ret ?_ | refine x_label ?_ | refine x_scope ?_ | (refine seq_ret ?_; clear hK K) | (refine seq_exit ?_; clear hK K) | refine block_normal ?_ | refine block_ret ?_ | refine block_exit ?_ | refine loop_exit ?_ | refine loop_ret ?_)
      | ((with_reducible refine x_reg_lit ?hq ?_); case hq => rfl)
      | ((first | (with_reducible first | refine x_op (fun K hK => ?_) | refine end_ret ?_ | refine end_normal ?_) | ((with_reducible refine x_guard_yes ?hy (fun K hK => ?_)); case hy => rfl)); simp only [go_sem, Int.cast_ofNat_Int, Nat.reduceEqDiff, Nat.reduceAdd, Nat.reduceMul, Nat.reduceLeDiff, Nat.reduceLT, Int.reduceLT, Int.reduceLE, Int.reduceEq, Int.reduceNeg, Int.reduceToNat, Nat.reducePow, reduceIte, reduceCtorEq, i2, i10, i11, i12', i13, tb, Nat.le_refl])
      | ((with_reducible first | refine x_guard_no ?hy ?_ | refine x_cond_true ?hy ?_); case hy => rfl)
      | ((with_reducible first | refine x_guard_none ?hy ?_ | refine x_cond_false ?hy ?_); case hy => rfl)
      | ((with_reducible refine block_exit_ne ?hy ?_); case hy => decide))
    have ho4 := its_new H3 n 31
    generalize hH4 : H3.push _ = H4 at ho4 ⊢
    have hf4 : Fr (fun _ => False) H3 H4 := by rw [← hH4]; exact (Fr.refl _ _).push _
    clear hH4
    have hM4 := hM3.grow hf4
    have hb4 := hb3.frame hf4 fun h => h
    have hy4 := hy3.frame hf4 fun _ _ h => h
    have hs1 := hM1.fr.size
    have hs3 := hM3.fr.size
    have hb3l := hb3.lt
    have hir3 := hM3.ir.lt rfl
    have hir1 := hM1.ir.lt rfl
    have hxit : (if xk = xk then x else S1.it xk) = x := if_pos rfl
    have hgo4 : ∀ b, some H3.size = some b → H0.size ≤ b ∧ ¬ T b ∧ some g ≠ some b := fun b hb => by
      obtain rfl := Option.some.inj hb
      exact ⟨hs3, fun h => by have := hM3.fo.lt h; omega, fun h => by have := Option.some.inj h; omega⟩
    rw [hn] at ho4 hM4
    refine setsInner (k := k) (xk := xk) (bx := H1.size) (go := H3.size) hM4 hr1 hne hxk (by show Blk H4 H1.size (if xk = xk then x else S1.it xk).cells; rw [hxit]; exact hb4) ⟨hs1, hnT1, by omega⟩ ho4 hgo4 (by exact i10) (by rw [← hn]; exact i11) rfl rfl (by rw [← hn]; rfl) rfl ?_
    rintro e5 H5 ⟨j2, j9, j10, j11, j12, j13, j15, j16⟩ hM5 ho5 hf5
    rw [← hn] at ho5 hM5
    have j2' := j2.trans (by exact i2)
    have j10' := j10.trans (by exact i10)
    have j11' := j11.trans (by exact i11)
    have j13' : e5 13 = .int .i64 (i : Nat) := j13.trans (by exact i13)
    have j15' : e5 15 = .pointer (some ⟨H1.size, 0, none⟩) := j15
    have j16' : e5 16 = .slice (some ⟨H3.size, 0, none⟩) n n := j16
    have hb5 := hb4.frame hf5 fun h => h.elim hnT1 fun e => by have := Option.some.inj e; omega
    have a2' := hb5.cellOf (i := 2) rfl
    have hxf0 := hxm.f0
    have hxf1 := hxm.f1
    obtain ⟨fl, hfl⟩ := Int.eq_ofNat_of_zero_le hxf0
    rw [hfl] at a2'
    repeat' (first
      | (with_reducible first | refine seq_normal ?_ | (refine hK _ _ ?_; clear hK K) | refine x_seq (fun K hK => ?_) | refine x_nil ?_ | refine x_block ?_ | refine x_skip ?_ | refine x_exit ?_ | refine x_ret ?_ | refine x_label ?_ | refine x_scope ?_ | (refine seq_ret ?_; clear hK K) | (refine seq_exit ?_; clear hK K) | refine block_normal ?_ | refine block_ret ?_ | refine block_exit ?_ | refine loop_exit ?_ | refine loop_ret ?_)
      | ((with_reducible refine x_reg_lit ?hq ?_); case hq => rfl)
      | ((first | (with_reducible first | refine x_op (fun K hK => ?_) | refine end_ret ?_ | refine end_normal ?_) | ((with_reducible refine x_guard_yes ?hy (fun K hK => ?_)); case hy => rfl)); simp only [go_sem, Int.cast_ofNat_Int, Nat.reduceEqDiff, Nat.reduceAdd, Nat.reduceMul, Nat.reduceLeDiff, Nat.reduceLT, Int.reduceLT, Int.reduceLE, Int.reduceEq, Int.reduceNeg, Int.reduceToNat, Nat.reducePow, reduceIte, reduceCtorEq, j10', j11', j15', j16', a2'])
      | ((with_reducible first | refine x_guard_no ?hy ?_ | refine x_cond_true ?hy ?_); case hy => rfl)
      | ((with_reducible first | refine x_guard_none ?hy ?_ | refine x_cond_false ?hy ?_); case hy => rfl)
      | ((with_reducible refine block_exit_ne ?hy ?_); case hy => decide))
    refine piece_ok hM5.fo hx hne hM5.ir.rds ho5.rds (by omega) (fun b hb => (hM5.bb b hb).2) (fun b hb => (hgo4 b hb).2.1) ?_
    intro H6 hF6 hf6
    have hM6 := hM5.op hF6 hf6
    have hy6 : Its H6 By vy ys := (hy4.frame hf5 fun b hb e => by
      rcases e with e | e
      · exact (hBy b hb).2.1 e
      · have h1 := hy3.lt hb
        have := Option.some.inj e
        omega).frame hf6 fun b hb => (hBy b hb).2.1
    repeat' (first
      | (with_reducible first | refine seq_normal ?_ | (refine hK _ _ ?_; clear hK K) | refine x_seq (fun K hK => ?_) | refine x_nil ?_ | refine x_block ?_ | refine x_skip ?_ | refine x_exit ?_ | refine x_ret ?_ | refine x_label ?_ | refine x_scope ?_ | (refine seq_ret ?_; clear hK K) | (refine seq_exit ?_; clear hK K) | refine block_normal ?_ | refine block_ret ?_ | refine block_exit ?_ | refine loop_exit ?_ | refine loop_ret ?_)
      | ((with_reducible refine x_reg_lit ?hq ?_); case hq => rfl)
      | ((first | (with_reducible first | refine x_op (fun K hK => ?_) | refine end_ret ?_ | refine end_normal ?_) | ((with_reducible refine x_guard_yes ?hy (fun K hK => ?_)); case hy => rfl)); simp only [go_sem, Int.cast_ofNat_Int, Nat.reduceEqDiff, Nat.reduceAdd, Nat.reduceMul, Nat.reduceLeDiff, Nat.reduceLT, Int.reduceLT, Int.reduceLE, Int.reduceEq, Int.reduceNeg, Int.reduceToNat, Nat.reducePow, reduceIte, reduceCtorEq, j13', ew])
      | ((with_reducible first | refine x_guard_no ?hy ?_ | refine x_cond_true ?hy ?_); case hy => rfl)
      | ((with_reducible first | refine x_guard_none ?hy ?_ | refine x_cond_false ?hy ?_); case hy => rfl)
      | ((with_reducible refine block_exit_ne ?hy ?_); case hy => decide))
    exact loop_normal (m' := 60 - (i + 1)) (by omega) ⟨i + 1, _, rfl, hM6, hr1, hy6, by omega, by omega, rfl⟩
  · have hor : ¬ i < len ∨ (i < len ∧ ¬ i < 60) := by
      by_cases h : i < len
      · exact .inr ⟨h, fun h2 => hgo ⟨h, h2⟩⟩
      · exact .inl h
    rcases hor with h | ⟨h, h2⟩
    case' inl =>
      have t1 : (i < len) = False := by simp [h]
      repeat' (first
        | (with_reducible first | refine seq_normal ?_ | (refine hK _ _ ?_; clear hK K) | refine x_seq (fun K hK => ?_) | refine x_nil ?_ | refine x_block ?_ | refine x_skip ?_ | refine x_exit ?_ | refine x_ret ?_ | refine x_label ?_ | refine x_scope ?_ | (refine seq_ret ?_; clear hK K) | (refine seq_exit ?_; clear hK K) | refine block_normal ?_ | refine block_ret ?_ | refine block_exit ?_ | refine loop_exit ?_ | refine loop_ret ?_)
        | ((with_reducible refine x_reg_lit ?hq ?_); case hq => rfl)
        | ((first | (with_reducible first | refine x_op (fun K hK => ?_) | refine end_ret ?_ | refine end_normal ?_) | ((with_reducible refine x_guard_yes ?hy (fun K hK => ?_)); case hy => rfl)); simp only [go_sem, Int.cast_ofNat_Int, Nat.reduceEqDiff, Nat.reduceAdd, Nat.reduceMul, Nat.reduceLeDiff, Nat.reduceLT, Int.reduceLT, Int.reduceLE, Int.reduceEq, Int.reduceNeg, Int.reduceToNat, Nat.reducePow, reduceIte, reduceCtorEq, i2, i13, t1])
        | ((with_reducible first | refine x_guard_no ?hy ?_ | refine x_cond_true ?hy ?_); case hy => rfl)
        | ((with_reducible first | refine x_guard_none ?hy ?_ | refine x_cond_false ?hy ?_); case hy => rfl)
        | ((with_reducible refine block_exit_ne ?hy ?_); case hy => decide))
    case' inr =>
      have t1 : (i < len) = True := by simp [h]
      have t2 : ((i : Int) < 60) = False := by simp; omega
      repeat' (first
        | (with_reducible first | refine seq_normal ?_ | (refine hK _ _ ?_; clear hK K) | refine x_seq (fun K hK => ?_) | refine x_nil ?_ | refine x_block ?_ | refine x_skip ?_ | refine x_exit ?_ | refine x_ret ?_ | refine x_label ?_ | refine x_scope ?_ | (refine seq_ret ?_; clear hK K) | (refine seq_exit ?_; clear hK K) | refine block_normal ?_ | refine block_ret ?_ | refine block_exit ?_ | refine loop_exit ?_ | refine loop_ret ?_)
        | ((with_reducible refine x_reg_lit ?hq ?_); case hq => rfl)
        | ((first | (with_reducible first | refine x_op (fun K hK => ?_) | refine end_ret ?_ | refine end_normal ?_) | ((with_reducible refine x_guard_yes ?hy (fun K hK => ?_)); case hy => rfl)); simp only [go_sem, Int.cast_ofNat_Int, Nat.reduceEqDiff, Nat.reduceAdd, Nat.reduceMul, Nat.reduceLeDiff, Nat.reduceLT, Int.reduceLT, Int.reduceLE, Int.reduceEq, Int.reduceNeg, Int.reduceToNat, Nat.reducePow, reduceIte, reduceCtorEq, i2, i13, t1, t2])
        | ((with_reducible first | refine x_guard_no ?hy ?_ | refine x_cond_true ?hy ?_); case hy => rfl)
        | ((with_reducible first | refine x_guard_none ?hy ?_ | refine x_cond_false ?hy ?_); case hy => rfl)
        | ((with_reducible refine block_exit_ne ?hy ?_); case hy => decide))
    all_goals exact hQ _ _ hM1.fr
end
theorem splaySets {H : Heap} {a0 a1 a2 a3 : Option Addr} {n0 c0 n1 c1 n2 c2 n3 c3 : Nat} {z0 z3 : Nat → Sp.Item} {z1 z2 : Nat → Int} {K : Value → Heap → Prop} (h0 : InItems H a0 n0 z0) (l0 : n0 ≤ 9223372036854775807) (h1 : InInts H a1 n1 z1) (l1 : n1 ≤ 9223372036854775807)
    (h2 : InInts H a2 n2 z2) (l2 : n2 ≤ 9223372036854775807) (h3 : InItems H a3 n3 z3) (l3 : n3 ≤ 9223372036854775807) (fin : ∀ H', Fr (fun _ => False) H H' → K (.bool true) H') :
    CallsH Try.prog 3 #[.slice a0 n0 c0, .slice a1 n1 c1, .slice a2 n2 c2, .slice a3 n3 c3] H K := by
  refine call3 (by simp) ?_
  simp only [Try.f3, Option.getD_some]
  repeat' (first
    | (with_reducible first | refine seq_normal ?_ | (refine hK _ _ ?_; clear hK K) | refine x_seq (fun K hK => ?_) | refine x_nil ?_ | refine x_block ?_ | refine x_skip ?_ | refine x_exit ?_ | refine x_ret ?_ | refine x_label ?_ | refine x_scope ?_ | (refine seq_ret ?_; clear hK K) | (refine seq_exit ?_; clear hK K) | refine block_normal ?_ | refine block_ret ?_ | refine block_exit ?_ | refine loop_exit ?_ | refine loop_ret ?_)
    | ((with_reducible refine x_reg_lit ?hq ?_); case hq => rfl)
    | ((first | (with_reducible first | refine x_op (fun K hK => ?_) | refine end_ret ?_ | refine end_normal ?_) | ((with_reducible refine x_guard_yes ?hy (fun K hK => ?_)); case hy => rfl)); simp only [go_sem, Int.cast_ofNat_Int, Nat.reduceEqDiff, Nat.reduceAdd, Nat.reduceMul, Nat.reduceLeDiff, Nat.reduceLT, Int.reduceLT, Int.reduceLE, Int.reduceEq, Int.reduceNeg, Int.reduceToNat, Nat.reducePow, reduceIte, reduceCtorEq])
    | ((with_reducible first | refine x_guard_no ?hy ?_ | refine x_cond_true ?hy ?_); case hy => rfl)
    | ((with_reducible first | refine x_guard_none ?hy ?_ | refine x_cond_false ?hy ?_); case hy => rfl)
    | ((with_reducible refine block_exit_ne ?hy ?_); case hy => decide))
  refine awake_ok ?_
  intro H1 hf1
  repeat' (first
    | (with_reducible first | refine seq_normal ?_ | (refine hK _ _ ?_; clear hK K) | refine x_seq (fun K hK => ?_) | refine x_nil ?_ | refine x_block ?_ | refine x_skip ?_ | refine x_exit ?_ | refine x_ret ?_ | refine x_label ?_ | refine x_scope ?_ | (refine seq_ret ?_; clear hK K) | (refine seq_exit ?_; clear hK K) | refine block_normal ?_ | refine block_ret ?_ | refine block_exit ?_ | refine loop_exit ?_ | refine loop_ret ?_)
    | ((with_reducible refine x_reg_lit ?hq ?_); case hq => rfl)
    | ((first | (with_reducible first | refine x_op (fun K hK => ?_) | refine end_ret ?_ | refine end_normal ?_) | ((with_reducible refine x_guard_yes ?hy (fun K hK => ?_)); case hy => rfl)); simp only [go_sem, Int.cast_ofNat_Int, Nat.reduceEqDiff, Nat.reduceAdd, Nat.reduceMul, Nat.reduceLeDiff, Nat.reduceLT, Int.reduceLT, Int.reduceLE, Int.reduceEq, Int.reduceNeg, Int.reduceToNat, Nat.reducePow, reduceIte, reduceCtorEq])
    | ((with_reducible first | refine x_guard_no ?hy ?_ | refine x_cond_true ?hy ?_); case hy => rfl)
    | ((with_reducible first | refine x_guard_none ?hy ?_ | refine x_cond_false ?hy ?_); case hy => rfl)
    | ((with_reducible refine block_exit_ne ?hy ?_); case hy => decide))
  refine items_ok (most := 60) (h0.frame hf1) l0 (by omega) (by omega) ?_
  intro H2 B2 v2 xs hi2 hB2 hx1 hx2 hm hf2
  have hf02 := hf1.trans hf2
  repeat' (first
    | (with_reducible first | refine seq_normal ?_ | (refine hK _ _ ?_; clear hK K) | refine x_seq (fun K hK => ?_) | refine x_nil ?_ | refine x_block ?_ | refine x_skip ?_ | refine x_exit ?_ | refine x_ret ?_ | refine x_label ?_ | refine x_scope ?_ | (refine seq_ret ?_; clear hK K) | (refine seq_exit ?_; clear hK K) | refine block_normal ?_ | refine block_ret ?_ | refine block_exit ?_ | refine loop_exit ?_ | refine loop_ret ?_)
    | ((with_reducible refine x_reg_lit ?hq ?_); case hq => rfl)
    | ((first | (with_reducible first | refine x_op (fun K hK => ?_) | refine end_ret ?_ | refine end_normal ?_) | ((with_reducible refine x_guard_yes ?hy (fun K hK => ?_)); case hy => rfl)); simp only [go_sem, Int.cast_ofNat_Int, Nat.reduceEqDiff, Nat.reduceAdd, Nat.reduceMul, Nat.reduceLeDiff, Nat.reduceLT, Int.reduceLT, Int.reduceLE, Int.reduceEq, Int.reduceNeg, Int.reduceToNat, Nat.reducePow, reduceIte, reduceCtorEq])
    | ((with_reducible first | refine x_guard_no ?hy ?_ | refine x_cond_true ?hy ?_); case hy => rfl)
    | ((with_reducible first | refine x_guard_none ?hy ?_ | refine x_cond_false ?hy ?_); case hy => rfl)
    | ((with_reducible refine block_exit_ne ?hy ?_); case hy => decide))
  refine row_ok (h1.frame hf02) l1 hi2 hm (by omega) hx1 ?_
  intro H3 f T S B v all hM hr hall hfree htop hroom hperm
  have hM := hM.base hf02
  have hne : all ≠ [] := fun h => by rw [h] at hall; simp at hall; omega
  repeat' (first
    | (with_reducible first | refine seq_normal ?_ | (refine hK _ _ ?_; clear hK K) | refine x_seq (fun K hK => ?_) | refine x_nil ?_ | refine x_block ?_ | refine x_skip ?_ | refine x_exit ?_ | refine x_ret ?_ | refine x_label ?_ | refine x_scope ?_ | (refine seq_ret ?_; clear hK K) | (refine seq_exit ?_; clear hK K) | refine block_normal ?_ | refine block_ret ?_ | refine block_exit ?_ | refine loop_exit ?_ | refine loop_ret ?_)
    | ((with_reducible refine x_reg_lit ?hq ?_); case hq => rfl)
    | ((first | (with_reducible first | refine x_op (fun K hK => ?_) | refine end_ret ?_ | refine end_normal ?_) | ((with_reducible refine x_guard_yes ?hy (fun K hK => ?_)); case hy => rfl)); simp only [go_sem, Int.cast_ofNat_Int, Nat.reduceEqDiff, Nat.reduceAdd, Nat.reduceMul, Nat.reduceLeDiff, Nat.reduceLT, Int.reduceLT, Int.reduceLE, Int.reduceEq, Int.reduceNeg, Int.reduceToNat, Nat.reducePow, reduceIte, reduceCtorEq])
    | ((with_reducible first | refine x_guard_no ?hy ?_ | refine x_cond_true ?hy ?_); case hy => rfl)
    | ((with_reducible first | refine x_guard_none ?hy ?_ | refine x_cond_false ?hy ?_); case hy => rfl)
    | ((with_reducible refine block_exit_ne ?hy ?_); case hy => decide))
  refine items_ok (most := 60) (h3.frame hM.fr) l3 (by omega) (by omega) ?_
  intro H4 B4 v4 ys hi4 hB4 hy1 hy2 hym hf4
  have hM4 := hM.grow hf4
  have hs3 := hM.fr.size
  repeat' (first
    | (with_reducible first | refine seq_normal ?_ | (refine hK _ _ ?_; clear hK K) | refine x_seq (fun K hK => ?_) | refine x_nil ?_ | refine x_block ?_ | refine x_skip ?_ | refine x_exit ?_ | refine x_ret ?_ | refine x_label ?_ | refine x_scope ?_ | (refine seq_ret ?_; clear hK K) | (refine seq_exit ?_; clear hK K) | refine block_normal ?_ | refine block_ret ?_ | refine block_exit ?_ | refine loop_exit ?_ | refine loop_ret ?_)
    | ((with_reducible refine x_reg_lit ?hq ?_); case hq => rfl)
    | ((first | (with_reducible first | refine x_op (fun K hK => ?_) | refine end_ret ?_ | refine end_normal ?_) | ((with_reducible refine x_guard_yes ?hy (fun K hK => ?_)); case hy => rfl)); simp only [go_sem, Int.cast_ofNat_Int, Nat.reduceEqDiff, Nat.reduceAdd, Nat.reduceMul, Nat.reduceLeDiff, Nat.reduceLT, Int.reduceLT, Int.reduceLE, Int.reduceEq, Int.reduceNeg, Int.reduceToNat, Nat.reducePow, reduceIte, reduceCtorEq])
    | ((with_reducible first | refine x_guard_no ?hy ?_ | refine x_cond_true ?hy ?_); case hy => rfl)
    | ((with_reducible first | refine x_guard_none ?hy ?_ | refine x_cond_false ?hy ?_); case hy => rfl)
    | ((with_reducible refine block_exit_ne ?hy ?_); case hy => decide))
  refine setsLoop h2 l2 hM4 hr hne hi4 hy1 hy2 hym (fun b hb => ⟨by have := hB4 b hb; omega, fun h => by have := hM.fo.lt h; have := hB4 b hb; omega, fun h => by have := hM.ir.lt h; have := hB4 b hb; omega⟩) rfl rfl rfl rfl rfl ?_
  intro e5 H5 hf5
  repeat' (first
    | (with_reducible first | refine seq_normal ?_ | (refine hK _ _ ?_; clear hK K) | refine x_seq (fun K hK => ?_) | refine x_nil ?_ | refine x_block ?_ | refine x_skip ?_ | refine x_exit ?_ | refine x_ret ?_ | refine x_label ?_ | refine x_scope ?_ | (refine seq_ret ?_; clear hK K) | (refine seq_exit ?_; clear hK K) | refine block_normal ?_ | refine block_ret ?_ | refine block_exit ?_ | refine loop_exit ?_ | refine loop_ret ?_)
    | ((with_reducible refine x_reg_lit ?hq ?_); case hq => rfl)
    | ((first | (with_reducible first | refine x_op (fun K hK => ?_) | refine end_ret ?_ | refine end_normal ?_) | ((with_reducible refine x_guard_yes ?hy (fun K hK => ?_)); case hy => rfl)); simp only [go_sem, Int.cast_ofNat_Int, Nat.reduceEqDiff, Nat.reduceAdd, Nat.reduceMul, Nat.reduceLeDiff, Nat.reduceLT, Int.reduceLT, Int.reduceLE, Int.reduceEq, Int.reduceNeg, Int.reduceToNat, Nat.reducePow, reduceIte, reduceCtorEq])
    | ((with_reducible first | refine x_guard_no ?hy ?_ | refine x_cond_true ?hy ?_); case hy => rfl)
    | ((with_reducible first | refine x_guard_none ?hy ?_ | refine x_cond_false ?hy ?_); case hy => rfl)
    | ((with_reducible refine block_exit_ne ?hy ?_); case hy => decide))
  exact fin _ hf5
end Go.Proofs.Ytndkbhlfbeiniaa
