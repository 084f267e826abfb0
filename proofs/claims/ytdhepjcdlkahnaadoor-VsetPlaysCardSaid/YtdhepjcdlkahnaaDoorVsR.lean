/-
  The book of four sets: the program's (a number each), the document's (64 bools each), two lists; lays.
-/
import Derived.Test.YtdhepjcdlkahnaaDoorVsQ
import Derived.Test.YtdhepjcdlkahnaaDoorVsC
namespace Go.Proofs.YtdhepjcdlkahnaaDoor
open Go Go.Hp Go.Vs
set_option linter.all false
set_option maxRecDepth 100000
set_option maxHeartbeats 1600000

def u64s (xs : List B64) : List Value := xs.map fun x => .int .u64 (x.toNat : Int)
def bookL (xs ys : List B64) (va vw : Value) : List Value := u64s xs ++ (ys.flatMap bools ++ [va, vw])
theorem flat_len (ys : List B64) : (ys.flatMap bools).length = ys.length * 64 := by
  induction ys with
  | nil => rfl
  | cons y ys ih => rw [List.flatMap_cons, List.length_append, bools_len, ih, List.length_cons]; omega
theorem flat_at : ∀ {ys : List B64} {i : Nat} {y : B64} {j : Nat} (rest : List Value), ys[i]? = some y → j < 64 → (ys.flatMap bools ++ rest)[i * 64 + j]? = (bools y)[j]?
  | [], i, y, j, rest, h, _ => by cases h
  | a :: ys, 0, y, j, rest, h, hj => by
    obtain rfl : a = y := by simpa using h
    rw [List.flatMap_cons, List.append_assoc, List.getElem?_append_left (by rw [bools_len]; omega), Nat.zero_mul, Nat.zero_add]
  | a :: ys, i + 1, y, j, rest, h, hj => by
    rw [List.flatMap_cons, List.append_assoc, List.getElem?_append_right (by rw [bools_len]; omega), bools_len, show (i + 1) * 64 + j - 64 = i * 64 + j by omega]
    exact flat_at rest (by simpa using h) hj
theorem flat_put : ∀ {ys : List B64} {i : Nat} (v : B64) (rest : List Value), i < ys.length → (ys.flatMap bools ++ rest).take (i * 64) ++ bools v ++ (ys.flatMap bools ++ rest).drop (i * 64 + 64) = (ys.set i v).flatMap bools ++ rest
  | [], i, v, rest, h => by simp at h
  | a :: ys, 0, v, rest, h => by
    rw [Nat.zero_mul, List.take_zero, List.nil_append, Nat.zero_add, List.flatMap_cons, List.append_assoc, List.drop_append, bools_len, Nat.sub_self, List.drop_zero, List.drop_eq_nil_of_le (by rw [bools_len]; exact Nat.le_refl _), List.nil_append, List.set_cons_zero, List.flatMap_cons, List.append_assoc]
  | a :: ys, i + 1, v, rest, h => by
    have ih := flat_put (ys := ys) (i := i) v rest (by simpa using h)
    have e : ((a :: ys).flatMap bools ++ rest) = bools a ++ (ys.flatMap bools ++ rest) := by rw [List.flatMap_cons, List.append_assoc]
    rw [e, List.take_append, List.drop_append, bools_len, List.take_of_length_le (by rw [bools_len]; omega), List.drop_eq_nil_of_le (by rw [bools_len]; omega), List.nil_append, show (i + 1) * 64 - 64 = i * 64 by omega, show (i + 1) * 64 + 64 - 64 = i * 64 + 64 by omega, List.set_cons_succ, List.flatMap_cons, List.append_assoc (bools a) _ rest, ← ih]
    simp only [List.append_assoc]
structure BK (H : Heap) (bk : Nat) (xs ys : List B64) (va vw : Value) : Prop where
  b : Blk H bk (bookL xs ys va vw)
  lx : xs.length = 4
  ly : ys.length = 4
section
variable {H : Heap} {bk : Nat} {xs ys : List B64} {va vw : Value}
theorem u64s_len : (u64s xs).length = xs.length := by unfold u64s; rw [List.length_map]
theorem BK.s (h : BK H bk xs ys va vw) {i : Nat} {x : B64} (hx : xs[i]? = some x) : hcell H ⟨bk, i, none⟩ = some (.int .u64 (x.toNat : Int)) := by
  refine h.b.cellOf ?_
  have hi := (List.getElem?_eq_some_iff.1 hx).1
  unfold bookL
  rw [List.getElem?_append_left (by rw [u64s_len]; exact hi)]
  unfold u64s
  rw [List.getElem?_map, hx]; rfl
theorem BK.x (h : BK H bk xs ys va vw) {i : Nat} {y : B64} (hy : ys[i]? = some y) {j : Nat} (hj : j < 64) : hcell H ⟨bk, 4 + i * 64 + j, none⟩ = (bools y)[j]? := by
  rw [h.b.cell]
  unfold bookL
  rw [List.getElem?_append_right (by rw [u64s_len, h.lx]; omega), u64s_len, h.lx, show 4 + i * 64 + j - 4 = i * 64 + j by omega]
  exact flat_at _ hy hj
theorem BK.cva (h : BK H bk xs ys va vw) : hcell H ⟨bk, 260, none⟩ = some va := by
  refine h.b.cellOf ?_
  unfold bookL
  rw [List.getElem?_append_right (by rw [u64s_len, h.lx]; omega), u64s_len, h.lx, List.getElem?_append_right (by rw [flat_len, h.ly]; omega), flat_len, h.ly]
  rfl
theorem BK.cvw (h : BK H bk xs ys va vw) : hcell H ⟨bk, 261, none⟩ = some vw := by
  refine h.b.cellOf ?_
  unfold bookL
  rw [List.getElem?_append_right (by rw [u64s_len, h.lx]; omega), u64s_len, h.lx, List.getElem?_append_right (by rw [flat_len, h.ly]; omega), flat_len, h.ly]
  rfl
theorem BK.len (h : BK H bk xs ys va vw) : (bookL xs ys va vw).length = 262 := by
  unfold bookL; rw [List.length_append, u64s_len, List.length_append, flat_len, h.lx, h.ly]; rfl
theorem BK.okW (h : BK H bk xs ys va vw) {i : Nat} (hi : i < 262) : okW H ⟨bk, i, none⟩ := h.b.okW (by rw [h.len]; exact hi)
theorem BK.frame {S : Nat → Prop} {H' : Heap} (h : BK H bk xs ys va vw) (hf : Fr S H H') (hb : ¬ S bk) : BK H' bk xs ys va vw := ⟨h.b.frame hf hb, h.lx, h.ly⟩
theorem BK.setS (h : BK H bk xs ys va vw) {i : Nat} (hi : i < 4) (v : B64) : BK (hset H ⟨bk, i, none⟩ (.int .u64 (v.toNat : Int))) bk (xs.set i v) ys va vw := by
  refine ⟨?_, by rw [List.length_set]; exact h.lx, h.ly⟩
  have := h.b.set_same i (.int .u64 (v.toNat : Int))
  unfold bookL at this ⊢
  rw [List.set_append_left _ _ (by rw [u64s_len, h.lx]; exact hi)] at this
  unfold u64s at this ⊢
  rw [List.map_set]
  exact this
theorem BK.setVa (h : BK H bk xs ys va vw) (v : Value) : BK (hset H ⟨bk, 260, none⟩ v) bk xs ys v vw := by
  refine ⟨?_, h.lx, h.ly⟩
  have := h.b.set_same 260 v
  unfold bookL at this ⊢
  rw [List.set_append_right _ _ (by rw [u64s_len, h.lx]; omega), u64s_len, h.lx, List.set_append_right _ _ (by rw [flat_len, h.ly]; omega), flat_len, h.ly] at this
  exact this
theorem BK.setVw (h : BK H bk xs ys va vw) (v : Value) : BK (hset H ⟨bk, 261, none⟩ v) bk xs ys va v := by
  refine ⟨?_, h.lx, h.ly⟩
  have := h.b.set_same 261 v
  unfold bookL at this ⊢
  rw [List.set_append_right _ _ (by rw [u64s_len, h.lx]; omega), u64s_len, h.lx, List.set_append_right _ _ (by rw [flat_len, h.ly]; omega), flat_len, h.ly] at this
  exact this
theorem BK.putX {K : Heap → Prop} (h : BK H bk xs ys va vw) {i : Nat} (hi : i < 4) {v : B64} (hk : ∀ H', BK H' bk xs (ys.set i v) va vw → Fr (· = bk) H H' → H'.size = H.size → K H') : storesX ⟨bk, 4 + i * 64, none⟩ 0 (bools v) H K := by
  refine store64 h.b (by rw [h.len]; omega) fun H' h1 h2 h3 => hk H' ⟨?_, h.lx, by rw [List.length_set]; exact h.ly⟩ h2 h3
  have e : (bookL xs ys va vw).take (4 + i * 64) ++ bools v ++ (bookL xs ys va vw).drop (4 + i * 64 + 64) = bookL xs (ys.set i v) va vw := by
    unfold bookL
    rw [List.take_append, List.drop_append, u64s_len, h.lx, List.take_of_length_le (by rw [u64s_len, h.lx]; omega), List.drop_eq_nil_of_le (by rw [u64s_len, h.lx]; omega), List.nil_append, show 4 + i * 64 - 4 = i * 64 by omega, show 4 + i * 64 + 64 - 4 = i * 64 + 64 by omega, List.append_assoc, List.append_assoc, ← List.append_assoc _ (bools v), flat_put v _ (by rw [h.ly]; exact hi)]
  rw [e] at h1
  exact h1
theorem BK.loadX {K : List Value → Prop} (h : BK H bk xs ys va vw) {i : Nat} {y : B64} (hy : ys[i]? = some y) (hk : K (bools y)) : ∃ vs : List Value, vs.length = 64 ∧ (∀ j, j < 64 → hcell H ⟨bk, 4 + i * 64 + j, none⟩ = vs[j]?) ∧ K vs :=
  ⟨bools y, bools_len y, fun j hj => h.x hy hj, hk⟩
end
theorem lays_ok {H : Heap} {bk i : Nat} {xs ys : List B64} {va vw : Value} {s x : B64} {E : Int} {K : Value → Heap → Prop} (hB : BK H bk xs ys va vw) (hi : i < 4) (he : E = 0 ∨ (E = 1 ∧ s = 0#64))
    (hk : ∀ H', BK H' bk (if E = 0 then xs.set i s else xs) (if E = 0 then ys.set i x else ys) va vw → Fr (· = bk) H H' → K (.bool true) H') :
    CallsH Tryd.prog 38 #[.pointer (some ⟨bk, 0, none⟩), .int .i64 (i : Int), sv s, .int .i64 E, dv x, .int .i64 E] H K := by
  have hs0 : ∀ y : B64, sv y = .agg #[.int .u64 (y.toNat : Int)] := fun _ => rfl
  have hlt := hB.b.lt
  rw [hs0 s]
  have f0 : Fr (fun _ => False) H ((H.push (.cells #[.int .u64 (s.toNat : Int)] 26)).push (.cells (bools x).toArray 42)) := (by ((repeat (first | refine Fr.set ?_ (by simp) _ | refine Fr.push ?_ _)); exact Fr.refl _ _))
  have b8 : Blk ((H.push (.cells #[.int .u64 (s.toNat : Int)] 26)).push (.cells (bools x).toArray 42)) H.size [.int .u64 (s.toNat : Int)] := (Blk.new H [.int .u64 (s.toNat : Int)] _).push _
  have b10 : Blk ((H.push (.cells #[.int .u64 (s.toNat : Int)] 26)).push (.cells (bools x).toArray 42)) (H.size + 1) (bools x) := by
    have := Blk.new (H.push (.cells #[.int .u64 (s.toNat : Int)] 26)) (bools x) 42
    rw [Array.size_push] at this; exact this
  have hB1 := hB.frame f0 (fun h => h)
  rcases he with rfl | ⟨rfl, rfl⟩
  · rw [if_pos rfl, if_pos rfl] at hk
    refine call38 (by simp) ?_
    simp only [Tryd.f38, Option.getD_some]
    repeat' (first
      | (with_reducible first | refine seq_normal ?_ | (refine hK _ _ ?_; clear hK K) | refine x_seq (fun K hK => ?_) | refine x_nil ?_ | refine x_block ?_ | refine x_skip ?_ | refine x_exit ?_ | refine x_ret ?_ | refine x_label ?_ | refine x_scope ?_ | (refine seq_ret ?_; clear hK K) | (refine seq_exit ?_; clear hK K) | refine block_normal ?_ | refine block_ret ?_ | refine block_exit ?_ | refine loop_exit ?_ | refine loop_ret ?_)
      | ((with_reducible refine x_reg_lit ?hq ?_); case hq => rfl)
      | ((first | (with_reducible first | refine x_op (fun K hK => ?_) | refine end_ret ?_ | refine end_normal ?_) | ((with_reducible refine x_guard_yes ?hy (fun K hK => ?_)); case hy => rfl)); simp only [go_sem, Int.cast_ofNat_Int, Nat.reduceEqDiff, Nat.reduceAdd, Nat.reduceMul, Nat.reduceLeDiff, Nat.reduceLT, Int.reduceLT, Int.reduceLE, Int.reduceEq, Int.reduceNeg, Int.reduceToNat, Nat.reducePow, reduceIte, reduceCtorEq, hcell_push, hcell_top, okW_push, okW_top, hcell_hset_ne, hcell_hset_off, hcell_hset_eq, okW_hset, hset_size, Array.size_push, Nat.lt_add_one, ne_add_one, add_one_ne, Nat.add_assoc, add_same, add_lt_same, Nat.reduceEqDiff, lt_add_k, add_k_ne, ne_add_k])
      | ((with_reducible first | refine x_guard_no ?hy ?_ | refine x_cond_true ?hy ?_); case hy => rfl)
      | ((with_reducible first | refine x_guard_none ?hy ?_ | refine x_cond_false ?hy ?_); case hy => rfl)
      | ((with_reducible refine block_exit_ne ?hy ?_); case hy => decide))
    generalize (H.push (.cells #[.int .u64 (s.toNat : Int)] 26)).push (.cells (bools x).toArray 42) = H1 at f0 b8 b10 hB1 ⊢
    have c8 := b8.cellOf (i := 0) rfl
    have t4 : ((i : Int) < 4) = True := eq_true (by omega)
    have w := hB1.okW (i := i) (by omega)
    have w' : okW H1 ⟨bk, 0 + i, none⟩ := by rw [Nat.zero_add]; exact w
    simp only [go_sem, Int.cast_ofNat_Int, Nat.reduceEqDiff, Nat.reduceAdd, Nat.reduceMul, Nat.reduceLeDiff, Nat.reduceLT, Int.reduceLT, Int.reduceLE, Int.reduceEq, Int.reduceNeg, Int.reduceToNat, Nat.reducePow, reduceIte, reduceCtorEq, t4]
    repeat' (first
      | (with_reducible first | refine seq_normal ?_ | (refine hK _ _ ?_; clear hK K) | refine x_seq (fun K hK => ?_) | refine x_nil ?_ | refine x_block ?_ | refine x_skip ?_ | refine x_exit ?_ | refine x_ret ?_ | refine x_label ?_ | refine x_scope ?_ | (refine seq_ret ?_; clear hK K) | (refine seq_exit ?_; clear hK K) | refine block_normal ?_ | refine block_ret ?_ | refine block_exit ?_ | refine loop_exit ?_ | refine loop_ret ?_)
      | ((with_reducible refine x_reg_lit ?hq ?_); case hq => rfl)
      | ((first | (with_reducible first | refine x_op (fun K hK => ?_) | refine end_ret ?_ | refine end_normal ?_) | ((with_reducible refine x_guard_yes ?hy (fun K hK => ?_)); case hy => rfl)); simp only [go_sem, Int.cast_ofNat_Int, Nat.reduceEqDiff, Nat.reduceAdd, Nat.reduceMul, Nat.reduceLeDiff, Nat.reduceLT, Int.reduceLT, Int.reduceLE, Int.reduceEq, Int.reduceNeg, Int.reduceToNat, Nat.reducePow, reduceIte, reduceCtorEq, t4, w, w', c8])
      | ((with_reducible first | refine x_guard_no ?hy ?_ | refine x_cond_true ?hy ?_); case hy => rfl)
      | ((with_reducible first | refine x_guard_none ?hy ?_ | refine x_cond_false ?hy ?_); case hy => rfl)
      | ((with_reducible refine block_exit_ne ?hy ?_); case hy => decide))
    have hB2 := hB1.setS hi s
    have b10' := b10.set_ne (a := ⟨bk, i, none⟩) (by show H.size + 1 ≠ bk; omega) (.int .u64 (s.toNat : Int))
    have f2 : Fr (· = bk) H (hset H1 ⟨bk, i, none⟩ (.int .u64 (s.toNat : Int))) := Fr.set (S := fun b => b = bk) (f0.mono fun _ _ h => h.elim) (.inl rfl) _
    generalize hset H1 ⟨bk, i, none⟩ (.int .u64 (s.toNat : Int)) = H2 at hB2 b10' f2 ⊢
    refine load64z b10' ?_
    simp only [dv_fold]
    repeat' (first
      | (with_reducible first | refine seq_normal ?_ | (refine hK _ _ ?_; clear hK K) | refine x_seq (fun K hK => ?_) | refine x_nil ?_ | refine x_block ?_ | refine x_skip ?_ | refine x_exit ?_ | refine x_ret ?_ | refine x_label ?_ | refine x_scope ?_ | (refine seq_ret ?_; clear hK K) | (refine seq_exit ?_; clear hK K) | refine block_normal ?_ | refine block_ret ?_ | refine block_exit ?_ | refine loop_exit ?_ | refine loop_ret ?_)
      | ((with_reducible refine x_reg_lit ?hq ?_); case hq => rfl)
      | ((first | (with_reducible first | refine x_op (fun K hK => ?_) | refine end_ret ?_ | refine end_normal ?_) | ((with_reducible refine x_guard_yes ?hy (fun K hK => ?_)); case hy => rfl)); simp only [go_sem, Int.cast_ofNat_Int, Nat.reduceEqDiff, Nat.reduceAdd, Nat.reduceMul, Nat.reduceLeDiff, Nat.reduceLT, Int.reduceLT, Int.reduceLE, Int.reduceEq, Int.reduceNeg, Int.reduceToNat, Nat.reducePow, reduceIte, reduceCtorEq, t4])
      | ((with_reducible first | refine x_guard_no ?hy ?_ | refine x_cond_true ?hy ?_); case hy => rfl)
      | ((with_reducible first | refine x_guard_none ?hy ?_ | refine x_cond_false ?hy ?_); case hy => rfl)
      | ((with_reducible refine block_exit_ne ?hy ?_); case hy => decide))
    refine ⟨bools_len _, hB2.putX hi fun H3 hB3 f3 s3 => ?_⟩
    repeat' (first
      | (with_reducible first | refine seq_normal ?_ | (refine hK _ _ ?_; clear hK K) | refine x_seq (fun K hK => ?_) | refine x_nil ?_ | refine x_block ?_ | refine x_skip ?_ | refine x_exit ?_ | refine x_ret ?_ | refine x_label ?_ | refine x_scope ?_ | (refine seq_ret ?_; clear hK K) | (refine seq_exit ?_; clear hK K) | refine block_normal ?_ | refine block_ret ?_ | refine block_exit ?_ | refine loop_exit ?_ | refine loop_ret ?_)
      | ((with_reducible refine x_reg_lit ?hq ?_); case hq => rfl)
      | ((first | (with_reducible first | refine x_op (fun K hK => ?_) | refine end_ret ?_ | refine end_normal ?_) | ((with_reducible refine x_guard_yes ?hy (fun K hK => ?_)); case hy => rfl)); simp only [go_sem, Int.cast_ofNat_Int, Nat.reduceEqDiff, Nat.reduceAdd, Nat.reduceMul, Nat.reduceLeDiff, Nat.reduceLT, Int.reduceLT, Int.reduceLE, Int.reduceEq, Int.reduceNeg, Int.reduceToNat, Nat.reducePow, reduceIte, reduceCtorEq])
      | ((with_reducible first | refine x_guard_no ?hy ?_ | refine x_cond_true ?hy ?_); case hy => rfl)
      | ((with_reducible first | refine x_guard_none ?hy ?_ | refine x_cond_false ?hy ?_); case hy => rfl)
      | ((with_reducible refine block_exit_ne ?hy ?_); case hy => decide))
    exact hk _ hB3 (f2.trans f3)
  · have e1 : ((1 : Int) = 0) = False := by simp
    simp only [e1, if_false] at hk
    refine call38 (by simp) ?_
    simp only [Tryd.f38, Option.getD_some]
    repeat' (first
      | (with_reducible first | refine seq_normal ?_ | (refine hK _ _ ?_; clear hK K) | refine x_seq (fun K hK => ?_) | refine x_nil ?_ | refine x_block ?_ | refine x_skip ?_ | refine x_exit ?_ | refine x_ret ?_ | refine x_label ?_ | refine x_scope ?_ | (refine seq_ret ?_; clear hK K) | (refine seq_exit ?_; clear hK K) | refine block_normal ?_ | refine block_ret ?_ | refine block_exit ?_ | refine loop_exit ?_ | refine loop_ret ?_)
      | ((with_reducible refine x_reg_lit ?hq ?_); case hq => rfl)
      | ((first | (with_reducible first | refine x_op (fun K hK => ?_) | refine end_ret ?_ | refine end_normal ?_) | ((with_reducible refine x_guard_yes ?hy (fun K hK => ?_)); case hy => rfl)); simp only [go_sem, Int.cast_ofNat_Int, Nat.reduceEqDiff, Nat.reduceAdd, Nat.reduceMul, Nat.reduceLeDiff, Nat.reduceLT, Int.reduceLT, Int.reduceLE, Int.reduceEq, Int.reduceNeg, Int.reduceToNat, Nat.reducePow, reduceIte, reduceCtorEq, hcell_push, hcell_top, okW_push, okW_top, hcell_hset_ne, hcell_hset_off, hcell_hset_eq, okW_hset, hset_size, Array.size_push, Nat.lt_add_one, ne_add_one, add_one_ne, Nat.add_assoc, add_same, add_lt_same, Nat.reduceEqDiff, lt_add_k, add_k_ne, ne_add_k])
      | ((with_reducible first | refine x_guard_no ?hy ?_ | refine x_cond_true ?hy ?_); case hy => rfl)
      | ((with_reducible first | refine x_guard_none ?hy ?_ | refine x_cond_false ?hy ?_); case hy => rfl)
      | ((with_reducible refine block_exit_ne ?hy ?_); case hy => decide))
    generalize (H.push (.cells #[.int .u64 ((0#64).toNat : Int)] 26)).push (.cells (bools x).toArray 42) = H1 at f0 b8 b10 hB1 ⊢
    have c8 := b8.cellOf (i := 0) rfl
    repeat' (first
      | (with_reducible first | refine seq_normal ?_ | (refine hK _ _ ?_; clear hK K) | refine x_seq (fun K hK => ?_) | refine x_nil ?_ | refine x_block ?_ | refine x_skip ?_ | refine x_exit ?_ | refine x_ret ?_ | refine x_label ?_ | refine x_scope ?_ | (refine seq_ret ?_; clear hK K) | (refine seq_exit ?_; clear hK K) | refine block_normal ?_ | refine block_ret ?_ | refine block_exit ?_ | refine loop_exit ?_ | refine loop_ret ?_)
      | ((with_reducible refine x_reg_lit ?hq ?_); case hq => rfl)
      | ((first | (with_reducible first | refine x_op (fun K hK => ?_) | refine end_ret ?_ | refine end_normal ?_) | ((with_reducible refine x_guard_yes ?hy (fun K hK => ?_)); case hy => rfl)); simp only [go_sem, Int.cast_ofNat_Int, Nat.reduceEqDiff, Nat.reduceAdd, Nat.reduceMul, Nat.reduceLeDiff, Nat.reduceLT, Int.reduceLT, Int.reduceLE, Int.reduceEq, Int.reduceNeg, Int.reduceToNat, Nat.reducePow, reduceIte, reduceCtorEq, c8])
      | ((with_reducible first | refine x_guard_no ?hy ?_ | refine x_cond_true ?hy ?_); case hy => rfl)
      | ((with_reducible first | refine x_guard_none ?hy ?_ | refine x_cond_false ?hy ?_); case hy => rfl)
      | ((with_reducible refine block_exit_ne ?hy ?_); case hy => decide))
    refine set_eq (op := .neq) (a := 0#64) (b := 0#64) ?_
    repeat' (first
      | (with_reducible first | refine seq_normal ?_ | (refine hK _ _ ?_; clear hK K) | refine x_seq (fun K hK => ?_) | refine x_nil ?_ | refine x_block ?_ | refine x_skip ?_ | refine x_exit ?_ | refine x_ret ?_ | refine x_label ?_ | refine x_scope ?_ | (refine seq_ret ?_; clear hK K) | (refine seq_exit ?_; clear hK K) | refine block_normal ?_ | refine block_ret ?_ | refine block_exit ?_ | refine loop_exit ?_ | refine loop_ret ?_)
      | ((with_reducible refine x_reg_lit ?hq ?_); case hq => rfl)
      | ((first | (with_reducible first | refine x_op (fun K hK => ?_) | refine end_ret ?_ | refine end_normal ?_) | ((with_reducible refine x_guard_yes ?hy (fun K hK => ?_)); case hy => rfl)); simp only [go_sem, Int.cast_ofNat_Int, Nat.reduceEqDiff, Nat.reduceAdd, Nat.reduceMul, Nat.reduceLeDiff, Nat.reduceLT, Int.reduceLT, Int.reduceLE, Int.reduceEq, Int.reduceNeg, Int.reduceToNat, Nat.reducePow, reduceIte, reduceCtorEq])
      | ((with_reducible first | refine x_guard_no ?hy ?_ | refine x_cond_true ?hy ?_); case hy => rfl)
      | ((with_reducible first | refine x_guard_none ?hy ?_ | refine x_cond_false ?hy ?_); case hy => rfl)
      | ((with_reducible refine block_exit_ne ?hy ?_); case hy => decide))
    exact hk _ hB1 (f0.mono fun _ _ h => h.elim)
end Go.Proofs.YtdhepjcdlkahnaaDoor
