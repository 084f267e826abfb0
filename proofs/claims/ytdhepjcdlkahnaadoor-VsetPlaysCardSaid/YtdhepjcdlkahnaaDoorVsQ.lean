/-
  The document's sets, further: All, Next, Two.
-/
import Derived.Test.YtdhepjcdlkahnaaDoorVsP
namespace Go.Proofs.YtdhepjcdlkahnaaDoor
open Go Go.Hp Go.Vs
set_option linter.all false
set_option maxRecDepth 100000
set_option maxHeartbeats 800000

theorem elsF_step (x i : Nat) (h : i < 64) : elsF x i = if x.testBit i then i :: elsF x (i + 1) else elsF x (i + 1) := by
  unfold elsF
  rw [show 64 - i = (64 - (i + 1)) + 1 by omega, List.range'_succ, List.filter_cons]
def elsTo (x : B64) (i : Nat) : List Int := ((List.range i).filter (x.toNat.testBit ·)).map fun n : Nat => (n : Int)
theorem elsTo_succ (x : B64) (i : Nat) : elsTo x (i + 1) = elsTo x i ++ (if x.toNat.testBit i then [(i : Int)] else []) := by
  unfold elsTo
  rw [List.range_succ, List.filter_append, List.map_append]
  congr 1
  cases h : x.toNat.testBit i <;> simp [h]
theorem elsTo_all (x : B64) : elsTo x 64 = elsI x := by
  unfold elsTo elsI els elsF; rw [List.range_eq_range']
theorem elsTo_len (x : B64) (i : Nat) : (elsTo x i).length ≤ i := by
  unfold elsTo
  rw [List.length_map]
  exact Nat.le_trans (List.length_filter_le _ _) (by simp)
theorem dall_ok {H : Heap} {x : B64} {K : Value → Heap → Prop} (hk : ∀ H' B v, IR H' B v (elsI x) → (∀ g, B = some g → H.size ≤ g) → Fr (fun _ => False) H H' → K v H') :
    CallsH Tryd.prog 42 #[dv x] H K := by
  refine call42 (by simp) ?_
  simp only [Tryd.f42, Option.getD_some]
  repeat' (first
    | (with_reducible first | refine seq_normal ?_ | (refine hK _ _ ?_; clear hK K) | refine x_seq (fun K hK => ?_) | refine x_nil ?_ | refine x_block ?_ | refine x_skip ?_ | refine x_exit ?_ | refine x_ret ?_ | refine x_label ?_ | refine x_scope ?_ | (refine seq_ret ?_; clear hK K) | (refine seq_exit ?_; clear hK K) | refine block_normal ?_ | refine block_ret ?_ | refine block_exit ?_ | refine loop_exit ?_ | refine loop_ret ?_)
    | ((with_reducible refine x_reg_lit ?hq ?_); case hq => rfl)
    | ((first | (with_reducible first | refine x_op (fun K hK => ?_) | refine end_ret ?_ | refine end_normal ?_) | ((with_reducible refine x_guard_yes ?hy (fun K hK => ?_)); case hy => rfl)); simp only [go_sem, Int.cast_ofNat_Int, Nat.reduceEqDiff, Nat.reduceAdd, Nat.reduceMul, Nat.reduceLeDiff, Nat.reduceLT, Int.reduceLT, Int.reduceLE, Int.reduceEq, Int.reduceNeg, Int.reduceToNat, Nat.reducePow, reduceIte, reduceCtorEq, hcell_push, hcell_top, okW_push, okW_top, hcell_hset_ne, hcell_hset_off, hcell_hset_eq, okW_hset, hset_size, Array.size_push, Nat.lt_add_one, ne_add_one, add_one_ne, Nat.add_assoc, add_same, add_lt_same, Nat.reduceEqDiff, lt_add_k, add_k_ne, ne_add_k])
    | ((with_reducible first | refine x_guard_no ?hy ?_ | refine x_cond_true ?hy ?_); case hy => rfl)
    | ((with_reducible first | refine x_guard_none ?hy ?_ | refine x_cond_false ?hy ?_); case hy => rfl)
    | ((with_reducible refine block_exit_ne ?hy ?_); case hy => decide))
  have b1 : Blk (H.push (.cells (bools x).toArray 42)) H.size (bools x) := Blk.new H (bools x) _
  refine x_loop (fun m e' H' => ∃ (i : Nat) (B : Option Nat) (v : Value), e' 4 = .int .i64 (i : Int) ∧ e' 3 = v ∧ IR H' B v (elsTo x i) ∧ (∀ g, B = some g → H.size < g) ∧ Blk H' H.size (bools x) ∧ Fr (fun _ => False) H H' ∧ i ≤ 64 ∧ m = 64 - i) 64 ⟨0, none, _, rfl, rfl, IR.nil _, (fun g h => by cases h), b1, (by ((repeat (first | refine Fr.set ?_ (by simp) _ | refine Fr.push ?_ _)); exact Fr.refl _ _)), by omega, rfl⟩ ?_
  rintro m e1 H1 ⟨i, B, v, i4, i3, hr, hB, hb, hf, hi, rfl⟩ hoff
  have i1 : e1 1 = .pointer (some ⟨H.size, 0, none⟩) := (hoff 1 rfl).trans rfl
  clear hoff
  by_cases hlt : i < 64
  · have t1 : ((i : Int) < 64) = True := eq_true (by omega)
    have cb := hb.cellOf (bools_at x hlt)
    have ew : IntKind.i64.wrap ((i : Int) + 1) = ((i + 1 : Nat) : Int) := by rw [wrap_i64] <;> omega
    have hbit : x.toNat.testBit i = x.getLsbD i := rfl
    cases hx : x.getLsbD i
    · rw [hx] at cb
      repeat' (first
        | (with_reducible first | refine seq_normal ?_ | (refine hK _ _ ?_; clear hK K) | refine x_seq (fun K hK => ?_) | refine x_nil ?_ | refine x_block ?_ | refine x_skip ?_ | refine x_exit ?_ | refine x_ret ?_ | refine x_label ?_ | refine x_scope ?_ | (refine seq_ret ?_; clear hK K) | (refine seq_exit ?_; clear hK K) | refine block_normal ?_ | refine block_ret ?_ | refine block_exit ?_ | refine loop_exit ?_ | refine loop_ret ?_)
        | ((with_reducible refine x_reg_lit ?hq ?_); case hq => rfl)
        | ((first | (with_reducible first | refine x_op (fun K hK => ?_) | refine end_ret ?_ | refine end_normal ?_) | ((with_reducible refine x_guard_yes ?hy (fun K hK => ?_)); case hy => rfl)); simp only [go_sem, Int.cast_ofNat_Int, Nat.reduceEqDiff, Nat.reduceAdd, Nat.reduceMul, Nat.reduceLeDiff, Nat.reduceLT, Int.reduceLT, Int.reduceLE, Int.reduceEq, Int.reduceNeg, Int.reduceToNat, Nat.reducePow, reduceIte, reduceCtorEq, i4, i1, t1, cb, ew])
        | ((with_reducible first | refine x_guard_no ?hy ?_ | refine x_cond_true ?hy ?_); case hy => rfl)
        | ((with_reducible first | refine x_guard_none ?hy ?_ | refine x_cond_false ?hy ?_); case hy => rfl)
        | ((with_reducible refine block_exit_ne ?hy ?_); case hy => decide))
      refine loop_normal (m' := 64 - (i + 1)) (by omega) ⟨i + 1, B, v, rfl, i3, ?_, hB, hb, hf, by omega, rfl⟩
      rw [elsTo_succ, hbit, hx, if_neg (by simp), List.append_nil]; exact hr
    · rw [hx] at cb
      obtain ⟨a, c, hv⟩ := hr.slice
      rw [hv] at i3 hr
      have hl := elsTo_len x i
      repeat' (first
        | (with_reducible first | refine seq_normal ?_ | (refine hK _ _ ?_; clear hK K) | refine x_seq (fun K hK => ?_) | refine x_nil ?_ | refine x_block ?_ | refine x_skip ?_ | refine x_exit ?_ | refine x_ret ?_ | refine x_label ?_ | refine x_scope ?_ | (refine seq_ret ?_; clear hK K) | (refine seq_exit ?_; clear hK K) | refine block_normal ?_ | refine block_ret ?_ | refine block_exit ?_ | refine loop_exit ?_ | refine loop_ret ?_)
        | ((with_reducible refine x_reg_lit ?hq ?_); case hq => rfl)
        | ((first | (with_reducible first | refine x_op (fun K hK => ?_) | refine end_ret ?_ | refine end_normal ?_) | ((with_reducible refine x_guard_yes ?hy (fun K hK => ?_)); case hy => rfl)); simp only [go_sem, Int.cast_ofNat_Int, Nat.reduceEqDiff, Nat.reduceAdd, Nat.reduceMul, Nat.reduceLeDiff, Nat.reduceLT, Int.reduceLT, Int.reduceLE, Int.reduceEq, Int.reduceNeg, Int.reduceToNat, Nat.reducePow, reduceIte, reduceCtorEq, i4, i1, i3, t1, cb])
        | ((with_reducible first | refine x_guard_no ?hy ?_ | refine x_cond_true ?hy ?_); case hy => rfl)
        | ((with_reducible first | refine x_guard_none ?hy ?_ | refine x_cond_false ?hy ?_); case hy => rfl)
        | ((with_reducible refine block_exit_ne ?hy ?_); case hy => decide))
      refine append_ir elems22 tl3 hr rfl (by decide) (by simp; omega) rfl fun v' H5 B' hr' hf' hB' => ?_
      repeat' (first
        | (with_reducible first | refine seq_normal ?_ | (refine hK _ _ ?_; clear hK K) | refine x_seq (fun K hK => ?_) | refine x_nil ?_ | refine x_block ?_ | refine x_skip ?_ | refine x_exit ?_ | refine x_ret ?_ | refine x_label ?_ | refine x_scope ?_ | (refine seq_ret ?_; clear hK K) | (refine seq_exit ?_; clear hK K) | refine block_normal ?_ | refine block_ret ?_ | refine block_exit ?_ | refine loop_exit ?_ | refine loop_ret ?_)
        | ((with_reducible refine x_reg_lit ?hq ?_); case hq => rfl)
        | ((first | (with_reducible first | refine x_op (fun K hK => ?_) | refine end_ret ?_ | refine end_normal ?_) | ((with_reducible refine x_guard_yes ?hy (fun K hK => ?_)); case hy => rfl)); simp only [go_sem, Int.cast_ofNat_Int, Nat.reduceEqDiff, Nat.reduceAdd, Nat.reduceMul, Nat.reduceLeDiff, Nat.reduceLT, Int.reduceLT, Int.reduceLE, Int.reduceEq, Int.reduceNeg, Int.reduceToNat, Nat.reducePow, reduceIte, reduceCtorEq, i4, ew])
        | ((with_reducible first | refine x_guard_no ?hy ?_ | refine x_cond_true ?hy ?_); case hy => rfl)
        | ((with_reducible first | refine x_guard_none ?hy ?_ | refine x_cond_false ?hy ?_); case hy => rfl)
        | ((with_reducible refine block_exit_ne ?hy ?_); case hy => decide))
      refine loop_normal (m' := 64 - (i + 1)) (by omega) ⟨i + 1, B', v', rfl, rfl, ?_, ?_, hb.frame hf' (fun e => by have := hB _ e; omega), hf.trans' hf' (fun b hb e => by have := hB b e; omega), by omega, rfl⟩
      · rw [elsTo_succ, hbit, hx, if_pos rfl]; exact hr'
      · intro g hg
        have := hf.size
        have := hb.lt
        rcases hB' with rfl | ⟨g', rfl, hg'⟩
        · exact hB g hg
        · obtain rfl := Option.some.inj hg; omega
  · have t1 : ((i : Int) < 64) = False := eq_false (by omega)
    obtain rfl : i = 64 := by omega
    rw [elsTo_all] at hr
    repeat' (first
      | (with_reducible first | refine seq_normal ?_ | (refine hK _ _ ?_; clear hK K) | refine x_seq (fun K hK => ?_) | refine x_nil ?_ | refine x_block ?_ | refine x_skip ?_ | refine x_exit ?_ | refine x_ret ?_ | refine x_label ?_ | refine x_scope ?_ | (refine seq_ret ?_; clear hK K) | (refine seq_exit ?_; clear hK K) | refine block_normal ?_ | refine block_ret ?_ | refine block_exit ?_ | refine loop_exit ?_ | refine loop_ret ?_)
      | ((with_reducible refine x_reg_lit ?hq ?_); case hq => rfl)
      | ((first | (with_reducible first | refine x_op (fun K hK => ?_) | refine end_ret ?_ | refine end_normal ?_) | ((with_reducible refine x_guard_yes ?hy (fun K hK => ?_)); case hy => rfl)); simp only [go_sem, Int.cast_ofNat_Int, Nat.reduceEqDiff, Nat.reduceAdd, Nat.reduceMul, Nat.reduceLeDiff, Nat.reduceLT, Int.reduceLT, Int.reduceLE, Int.reduceEq, Int.reduceNeg, Int.reduceToNat, Nat.reducePow, reduceIte, reduceCtorEq, i4, i3, t1])
      | ((with_reducible first | refine x_guard_no ?hy ?_ | refine x_cond_true ?hy ?_); case hy => rfl)
      | ((with_reducible first | refine x_guard_none ?hy ?_ | refine x_cond_false ?hy ?_); case hy => rfl)
      | ((with_reducible refine block_exit_ne ?hy ?_); case hy => decide))
    exact hk _ B v hr (fun g hg => by have := hB g hg; omega) hf
theorem dnext_ok {H : Heap} {x : B64} {n : Int} {K : Value → Heap → Prop} (hk : ∀ H', Fr (fun _ => False) H H' → K (.int .i64 (nextQ x.toNat n)) H') :
    CallsH Tryd.prog 43 #[dv x, .int .i64 n] H K := by
  have em : (if n < 0 then 0 else n) = (n.toNat : Int) := by split <;> omega
  unfold nextQ at hk
  generalize n.toNat = n0 at em hk
  refine call43 (by simp) ?_
  simp only [Tryd.f43, Option.getD_some]
  repeat' (first
    | (with_reducible first | refine seq_normal ?_ | (refine hK _ _ ?_; clear hK K) | refine x_seq (fun K hK => ?_) | refine x_nil ?_ | refine x_block ?_ | refine x_skip ?_ | refine x_exit ?_ | refine x_ret ?_ | refine x_label ?_ | refine x_scope ?_ | (refine seq_ret ?_; clear hK K) | (refine seq_exit ?_; clear hK K) | refine block_normal ?_ | refine block_ret ?_ | refine block_exit ?_ | refine loop_exit ?_ | refine loop_ret ?_)
    | ((with_reducible refine x_reg_lit ?hq ?_); case hq => rfl)
    | ((first | (with_reducible first | refine x_op (fun K hK => ?_) | refine end_ret ?_ | refine end_normal ?_) | ((with_reducible refine x_guard_yes ?hy (fun K hK => ?_)); case hy => rfl)); simp only [go_sem, Int.cast_ofNat_Int, Nat.reduceEqDiff, Nat.reduceAdd, Nat.reduceMul, Nat.reduceLeDiff, Nat.reduceLT, Int.reduceLT, Int.reduceLE, Int.reduceEq, Int.reduceNeg, Int.reduceToNat, Nat.reducePow, reduceIte, reduceCtorEq, hcell_push, hcell_top, okW_push, okW_top, hcell_hset_ne, hcell_hset_off, hcell_hset_eq, okW_hset, hset_size, Array.size_push, Nat.lt_add_one, ne_add_one, add_one_ne, Nat.add_assoc, add_same, add_lt_same, Nat.reduceEqDiff, lt_add_k, add_k_ne, ne_add_k, em])
    | ((with_reducible first | refine x_guard_no ?hy ?_ | refine x_cond_true ?hy ?_); case hy => rfl)
    | ((with_reducible first | refine x_guard_none ?hy ?_ | refine x_cond_false ?hy ?_); case hy => rfl)
    | ((with_reducible refine block_exit_ne ?hy ?_); case hy => decide))
  have b1 : Blk (H.push (.cells (bools x).toArray 42)) H.size (bools x) := Blk.new H (bools x) _
  have f1 : Fr (fun _ => False) H (H.push (.cells (bools x).toArray 42)) := (by ((repeat (first | refine Fr.set ?_ (by simp) _ | refine Fr.push ?_ _)); exact Fr.refl _ _))
  generalize H.push (.cells (bools x).toArray 42) = H1 at b1 f1 ⊢
  refine x_loop (fun m e' H' => ∃ (i : Nat), H' = H1 ∧ e' 5 = .int .i64 (i : Int) ∧ elsF x.toNat i = elsF x.toNat n0 ∧ m = 64 - i) (64 - n0) ⟨n0, rfl, rfl, rfl, rfl⟩ ?_
  rintro m e1 H2 ⟨i, rfl, i5, he, rfl⟩ hoff
  have i2 : e1 2 = .pointer (some ⟨H.size, 0, none⟩) := (hoff 2 rfl).trans rfl
  clear hoff
  by_cases hlt : i < 64
  · have t1 : ((i : Int) < 64) = True := eq_true (by omega)
    have cb := b1.cellOf (bools_at x hlt)
    have ew : IntKind.i64.wrap ((i : Int) + 1) = ((i + 1 : Nat) : Int) := by rw [wrap_i64] <;> omega
    have hbit : x.toNat.testBit i = x.getLsbD i := rfl
    rw [elsF_step _ _ hlt, hbit] at he
    cases hx : x.getLsbD i
    · rw [hx] at cb he
      rw [if_neg (by simp)] at he
      repeat' (first
        | (with_reducible first | refine seq_normal ?_ | (refine hK _ _ ?_; clear hK K) | refine x_seq (fun K hK => ?_) | refine x_nil ?_ | refine x_block ?_ | refine x_skip ?_ | refine x_exit ?_ | refine x_ret ?_ | refine x_label ?_ | refine x_scope ?_ | (refine seq_ret ?_; clear hK K) | (refine seq_exit ?_; clear hK K) | refine block_normal ?_ | refine block_ret ?_ | refine block_exit ?_ | refine loop_exit ?_ | refine loop_ret ?_)
        | ((with_reducible refine x_reg_lit ?hq ?_); case hq => rfl)
        | ((first | (with_reducible first | refine x_op (fun K hK => ?_) | refine end_ret ?_ | refine end_normal ?_) | ((with_reducible refine x_guard_yes ?hy (fun K hK => ?_)); case hy => rfl)); simp only [go_sem, Int.cast_ofNat_Int, Nat.reduceEqDiff, Nat.reduceAdd, Nat.reduceMul, Nat.reduceLeDiff, Nat.reduceLT, Int.reduceLT, Int.reduceLE, Int.reduceEq, Int.reduceNeg, Int.reduceToNat, Nat.reducePow, reduceIte, reduceCtorEq, i5, i2, t1, cb, ew])
        | ((with_reducible first | refine x_guard_no ?hy ?_ | refine x_cond_true ?hy ?_); case hy => rfl)
        | ((with_reducible first | refine x_guard_none ?hy ?_ | refine x_cond_false ?hy ?_); case hy => rfl)
        | ((with_reducible refine block_exit_ne ?hy ?_); case hy => decide))
      exact loop_normal (m' := 64 - (i + 1)) (by omega) ⟨i + 1, rfl, rfl, he, rfl⟩
    · rw [hx] at cb he
      rw [if_pos rfl] at he
      rw [← he] at hk
      repeat' (first
        | (with_reducible first | refine seq_normal ?_ | (refine hK _ _ ?_; clear hK K) | refine x_seq (fun K hK => ?_) | refine x_nil ?_ | refine x_block ?_ | refine x_skip ?_ | refine x_exit ?_ | refine x_ret ?_ | refine x_label ?_ | refine x_scope ?_ | (refine seq_ret ?_; clear hK K) | (refine seq_exit ?_; clear hK K) | refine block_normal ?_ | refine block_ret ?_ | refine block_exit ?_ | refine loop_exit ?_ | refine loop_ret ?_)
        | ((with_reducible refine x_reg_lit ?hq ?_); case hq => rfl)
        | ((first | (with_reducible first | refine x_op (fun K hK => ?_) | refine end_ret ?_ | refine end_normal ?_) | ((with_reducible refine x_guard_yes ?hy (fun K hK => ?_)); case hy => rfl)); simp only [go_sem, Int.cast_ofNat_Int, Nat.reduceEqDiff, Nat.reduceAdd, Nat.reduceMul, Nat.reduceLeDiff, Nat.reduceLT, Int.reduceLT, Int.reduceLE, Int.reduceEq, Int.reduceNeg, Int.reduceToNat, Nat.reducePow, reduceIte, reduceCtorEq, i5, i2, t1, cb])
        | ((with_reducible first | refine x_guard_no ?hy ?_ | refine x_cond_true ?hy ?_); case hy => rfl)
        | ((with_reducible first | refine x_guard_none ?hy ?_ | refine x_cond_false ?hy ?_); case hy => rfl)
        | ((with_reducible refine block_exit_ne ?hy ?_); case hy => decide))
      exact hk _ f1
  · have t1 : ((i : Int) < 64) = False := eq_false (by omega)
    rw [elsF_end _ _ (by omega)] at he
    rw [← he] at hk
    repeat' (first
      | (with_reducible first | refine seq_normal ?_ | (refine hK _ _ ?_; clear hK K) | refine x_seq (fun K hK => ?_) | refine x_nil ?_ | refine x_block ?_ | refine x_skip ?_ | refine x_exit ?_ | refine x_ret ?_ | refine x_label ?_ | refine x_scope ?_ | (refine seq_ret ?_; clear hK K) | (refine seq_exit ?_; clear hK K) | refine block_normal ?_ | refine block_ret ?_ | refine block_exit ?_ | refine loop_exit ?_ | refine loop_ret ?_)
      | ((with_reducible refine x_reg_lit ?hq ?_); case hq => rfl)
      | ((first | (with_reducible first | refine x_op (fun K hK => ?_) | refine end_ret ?_ | refine end_normal ?_) | ((with_reducible refine x_guard_yes ?hy (fun K hK => ?_)); case hy => rfl)); simp only [go_sem, Int.cast_ofNat_Int, Nat.reduceEqDiff, Nat.reduceAdd, Nat.reduceMul, Nat.reduceLeDiff, Nat.reduceLT, Int.reduceLT, Int.reduceLE, Int.reduceEq, Int.reduceNeg, Int.reduceToNat, Nat.reducePow, reduceIte, reduceCtorEq, i5, t1])
      | ((with_reducible first | refine x_guard_no ?hy ?_ | refine x_cond_true ?hy ?_); case hy => rfl)
      | ((with_reducible first | refine x_guard_none ?hy ?_ | refine x_cond_false ?hy ?_); case hy => rfl)
      | ((with_reducible refine block_exit_ne ?hy ?_); case hy => decide))
    exact hk _ f1
def twoQ (x y : B64) (how : Int) : B64 := if how = 1 then x ||| y else if how = 2 then x &&& y else x &&& ~~~y
theorem two_ok {H : Heap} {x y : B64} {how : Int} {K : Value → Heap → Prop} (hk : ∀ H', Fr (fun _ => False) H H' → K (dv (twoQ x y how)) H') :
    CallsH Tryd.prog 40 #[dv x, dv y, .int .i64 how] H K := by
  refine call40 (by simp) ?_
  simp only [Tryd.f40, Option.getD_some]
  repeat' (first
    | (with_reducible first | refine seq_normal ?_ | (refine hK _ _ ?_; clear hK K) | refine x_seq (fun K hK => ?_) | refine x_nil ?_ | refine x_block ?_ | refine x_skip ?_ | refine x_exit ?_ | refine x_ret ?_ | refine x_label ?_ | refine x_scope ?_ | (refine seq_ret ?_; clear hK K) | (refine seq_exit ?_; clear hK K) | refine block_normal ?_ | refine block_ret ?_ | refine block_exit ?_ | refine loop_exit ?_ | refine loop_ret ?_)
    | ((with_reducible refine x_reg_lit ?hq ?_); case hq => rfl)
    | ((first | (with_reducible first | refine x_op (fun K hK => ?_) | refine end_ret ?_ | refine end_normal ?_) | ((with_reducible refine x_guard_yes ?hy (fun K hK => ?_)); case hy => rfl)); simp only [go_sem, Int.cast_ofNat_Int, Nat.reduceEqDiff, Nat.reduceAdd, Nat.reduceMul, Nat.reduceLeDiff, Nat.reduceLT, Int.reduceLT, Int.reduceLE, Int.reduceEq, Int.reduceNeg, Int.reduceToNat, Nat.reducePow, reduceIte, reduceCtorEq, hcell_push, hcell_top, okW_push, okW_top, hcell_hset_ne, hcell_hset_off, hcell_hset_eq, okW_hset, hset_size, Array.size_push, Nat.lt_add_one, ne_add_one, add_one_ne, Nat.add_assoc, add_same, add_lt_same, Nat.reduceEqDiff, lt_add_k, add_k_ne, ne_add_k])
    | ((with_reducible first | refine x_guard_no ?hy ?_ | refine x_cond_true ?hy ?_); case hy => rfl)
    | ((with_reducible first | refine x_guard_none ?hy ?_ | refine x_cond_false ?hy ?_); case hy => rfl)
    | ((with_reducible refine block_exit_ne ?hy ?_); case hy => decide))
  have f0 : Fr (fun _ => False) H ((((H.push (.cells (bools x).toArray 42)).push (.cells (bools y).toArray 42)).push (.cells (bools 0#64).toArray 42)).push (.cells (bools 0#64).toArray 42)) := (by ((repeat (first | refine Fr.set ?_ (by simp) _ | refine Fr.push ?_ _)); exact Fr.refl _ _))
  have b3 : Blk ((((H.push (.cells (bools x).toArray 42)).push (.cells (bools y).toArray 42)).push (.cells (bools 0#64).toArray 42)).push (.cells (bools 0#64).toArray 42)) H.size (bools x) := (((Blk.new H (bools x) _).push _).push _).push _
  have b4 : Blk ((((H.push (.cells (bools x).toArray 42)).push (.cells (bools y).toArray 42)).push (.cells (bools 0#64).toArray 42)).push (.cells (bools 0#64).toArray 42)) (H.size + 1) (bools y) := by
    have := Blk.new (H.push (.cells (bools x).toArray 42)) (bools y) 42
    rw [Array.size_push] at this; exact (this.push _).push _
  have b6 : Blk ((((H.push (.cells (bools x).toArray 42)).push (.cells (bools y).toArray 42)).push (.cells (bools 0#64).toArray 42)).push (.cells (bools 0#64).toArray 42)) (H.size + 2) (bools 0#64) := by
    have := Blk.new ((H.push (.cells (bools x).toArray 42)).push (.cells (bools y).toArray 42)) (bools 0#64) 42
    rw [Array.size_push, Array.size_push] at this; exact this.push _
  have b7 : Blk ((((H.push (.cells (bools x).toArray 42)).push (.cells (bools y).toArray 42)).push (.cells (bools 0#64).toArray 42)).push (.cells (bools 0#64).toArray 42)) (H.size + 3) (bools 0#64) := by
    have := Blk.new (((H.push (.cells (bools x).toArray 42)).push (.cells (bools y).toArray 42)).push (.cells (bools 0#64).toArray 42)) (bools 0#64) 42
    rw [Array.size_push, Array.size_push, Array.size_push] at this; exact this
  generalize (((H.push (.cells (bools x).toArray 42)).push (.cells (bools y).toArray 42)).push (.cells (bools 0#64).toArray 42)).push (.cells (bools 0#64).toArray 42) = H1 at f0 b3 b4 b6 b7 ⊢
  refine ⟨bools_len _, store64 (o := 0) b7 (by rw [bools_len]; decide) fun H2 h2 f2 s2 => ?_⟩
  rw [over64] at h2
  have f2' : Fr (fun _ => False) H H2 := f0.trans' f2 fun b hb e => by subst e; omega
  have b3' := b3.frame f2 (by omega)
  have b4' := b4.frame f2 (by omega)
  have b6' := b6.frame f2 (by omega)
  repeat' (first
    | (with_reducible first | refine seq_normal ?_ | (refine hK _ _ ?_; clear hK K) | refine x_seq (fun K hK => ?_) | refine x_nil ?_ | refine x_block ?_ | refine x_skip ?_ | refine x_exit ?_ | refine x_ret ?_ | refine x_label ?_ | refine x_scope ?_ | (refine seq_ret ?_; clear hK K) | (refine seq_exit ?_; clear hK K) | refine block_normal ?_ | refine block_ret ?_ | refine block_exit ?_ | refine loop_exit ?_ | refine loop_ret ?_)
    | ((with_reducible refine x_reg_lit ?hq ?_); case hq => rfl)
    | ((first | (with_reducible first | refine x_op (fun K hK => ?_) | refine end_ret ?_ | refine end_normal ?_) | ((with_reducible refine x_guard_yes ?hy (fun K hK => ?_)); case hy => rfl)); simp only [go_sem, Int.cast_ofNat_Int, Nat.reduceEqDiff, Nat.reduceAdd, Nat.reduceMul, Nat.reduceLeDiff, Nat.reduceLT, Int.reduceLT, Int.reduceLE, Int.reduceEq, Int.reduceNeg, Int.reduceToNat, Nat.reducePow, reduceIte, reduceCtorEq])
    | ((with_reducible first | refine x_guard_no ?hy ?_ | refine x_cond_true ?hy ?_); case hy => rfl)
    | ((with_reducible first | refine x_guard_none ?hy ?_ | refine x_cond_false ?hy ?_); case hy => rfl)
    | ((with_reducible refine block_exit_ne ?hy ?_); case hy => decide))
  refine x_loop (fun m e' H' => ∃ (i : Nat) (z : B64), e' 8 = .int .i64 (i : Int) ∧ Blk H' H.size (bools x) ∧ Blk H' (H.size + 1) (bools y) ∧ Blk H' (H.size + 2) (bools 0#64) ∧ Blk H' (H.size + 3) (bools z) ∧ (∀ j, j < 64 → z.getLsbD j = (decide (j < i) && (twoQ x y how).getLsbD j)) ∧ Fr (fun _ => False) H H' ∧ i ≤ 64 ∧ m = 64 - i) 64 ⟨0, 0#64, rfl, b3', b4', b6', h2, (fun j _ => by simp), f2', by omega, rfl⟩ ?_
  clear f0 b3 b4 b6 b7 h2 f2 s2 f2' b3' b4' b6'
  rintro m e1 H1 ⟨i, z, i8, b3, b4, b6, b7, hz, hf, hi, rfl⟩ hoff
  have i2 : e1 2 = .int .i64 how := (hoff 2 rfl).trans rfl
  have i3 : e1 3 = .pointer (some ⟨H.size, 0, none⟩) := (hoff 3 rfl).trans rfl
  have i4 : e1 4 = .pointer (some ⟨H.size + 1, 0, none⟩) := (hoff 4 rfl).trans rfl
  have i6 : e1 6 = .pointer (some ⟨H.size + 2, 0, none⟩) := (hoff 6 rfl).trans rfl
  have i7 : e1 7 = .pointer (some ⟨H.size + 3, 0, none⟩) := (hoff 7 rfl).trans rfl
  clear hoff
  by_cases hlt : i < 64
  · have t1 : ((i : Int) < 64) = True := eq_true (by omega)
    have c3 := b3.cellOf (bools_at x hlt)
    have c4 := b4.cellOf (bools_at y hlt)
    have w7 := b7.okW (i := i) (by rw [bools_len]; exact hlt)
    have ew : IntKind.i64.wrap ((i : Int) + 1) = ((i + 1 : Nat) : Int) := by rw [wrap_i64] <;> omega
    have next : ∀ v, v = (twoQ x y how).getLsbD i → (∃ m', m' < 64 - i ∧ ∃ (i' : Nat) (z' : B64), Value.int .i64 ((i + 1 : Nat) : Int) = .int .i64 (i' : Int) ∧ Blk (hset H1 ⟨H.size + 3, i, none⟩ (.bool v)) H.size (bools x) ∧ Blk (hset H1 ⟨H.size + 3, i, none⟩ (.bool v)) (H.size + 1) (bools y) ∧ Blk (hset H1 ⟨H.size + 3, i, none⟩ (.bool v)) (H.size + 2) (bools 0#64) ∧ Blk (hset H1 ⟨H.size + 3, i, none⟩ (.bool v)) (H.size + 3) (bools z') ∧ (∀ j, j < 64 → z'.getLsbD j = (decide (j < i') && (twoQ x y how).getLsbD j)) ∧ Fr (fun _ => False) H (hset H1 ⟨H.size + 3, i, none⟩ (.bool v)) ∧ i' ≤ 64 ∧ m' = 64 - i') := by
      intro v hv
      have b7' := b7.set_same i (.bool v)
      rw [bools_set z i hlt v] at b7'
      refine ⟨64 - (i + 1), by omega, i + 1, _, rfl, b3.set_ne (by simp) _, b4.set_ne (by simp) _, b6.set_ne (by simp) _, b7', ?_, hf.set (.inr (by simp)) _, by omega, rfl⟩
      intro j hj
      have hzj := hz j hj
      by_cases hji : j = i
      · subst hji
        have : decide (j < j + 1) = true := by simp
        rw [this, Bool.true_and, ← hv]
        cases v <;> simp [BitVec.getLsbD_twoPow, hj]
      · have hij : ¬ i = j := fun e => hji e.symm
        have : decide (j < i + 1) = decide (j < i) := by simp; omega
        rw [this, ← hzj]
        cases v <;> simp [BitVec.getLsbD_twoPow, hij, hji, hj]
    by_cases h1 : how = 1
    · have s1 : (how == 1) = true := by simp [h1]
      have r : (twoQ x y how).getLsbD i = (x.getLsbD i || y.getLsbD i) := by unfold twoQ; rw [if_pos h1, BitVec.getLsbD_or]
      cases hx : x.getLsbD i <;> cases hy : y.getLsbD i <;> rw [hx] at c3 r <;> rw [hy] at c4 r
      all_goals (
        repeat' (first
          | (with_reducible first | refine seq_normal ?_ | (refine hK _ _ ?_; clear hK K) | refine x_seq (fun K hK => ?_) | refine x_nil ?_ | refine x_block ?_ | refine x_skip ?_ | refine x_exit ?_ | refine x_ret ?_ | refine x_label ?_ | refine x_scope ?_ | (refine seq_ret ?_; clear hK K) | (refine seq_exit ?_; clear hK K) | refine block_normal ?_ | refine block_ret ?_ | refine block_exit ?_ | refine loop_exit ?_ | refine loop_ret ?_)
          | ((with_reducible refine x_reg_lit ?hq ?_); case hq => rfl)
          | ((first | (with_reducible first | refine x_op (fun K hK => ?_) | refine end_ret ?_ | refine end_normal ?_) | ((with_reducible refine x_guard_yes ?hy (fun K hK => ?_)); case hy => rfl)); simp only [go_sem, Int.cast_ofNat_Int, Nat.reduceEqDiff, Nat.reduceAdd, Nat.reduceMul, Nat.reduceLeDiff, Nat.reduceLT, Int.reduceLT, Int.reduceLE, Int.reduceEq, Int.reduceNeg, Int.reduceToNat, Nat.reducePow, reduceIte, reduceCtorEq, i8, i2, i3, i4, i7, t1, s1, c3, c4, w7, ew])
          | ((with_reducible first | refine x_guard_no ?hy ?_ | refine x_cond_true ?hy ?_); case hy => rfl)
          | ((with_reducible first | refine x_guard_none ?hy ?_ | refine x_cond_false ?hy ?_); case hy => rfl)
          | ((with_reducible refine block_exit_ne ?hy ?_); case hy => decide))
        exact next _ r.symm)
    · have s1 : (how == 1) = false := by simp [h1]
      by_cases h2 : how = 2
      · have s2 : (how == 2) = true := by simp [h2]
        have r : (twoQ x y how).getLsbD i = (x.getLsbD i && y.getLsbD i) := by unfold twoQ; rw [if_neg h1, if_pos h2, BitVec.getLsbD_and]
        cases hx : x.getLsbD i <;> cases hy : y.getLsbD i <;> rw [hx] at c3 r <;> rw [hy] at c4 r
        all_goals (
          repeat' (first
            | (with_reducible first | refine seq_normal ?_ | (refine hK _ _ ?_; clear hK K) | refine x_seq (fun K hK => ?_) | refine x_nil ?_ | refine x_block ?_ | refine x_skip ?_ | refine x_exit ?_ | refine x_ret ?_ | refine x_label ?_ | refine x_scope ?_ | (refine seq_ret ?_; clear hK K) | (refine seq_exit ?_; clear hK K) | refine block_normal ?_ | refine block_ret ?_ | refine block_exit ?_ | refine loop_exit ?_ | refine loop_ret ?_)
            | ((with_reducible refine x_reg_lit ?hq ?_); case hq => rfl)
            | ((first | (with_reducible first | refine x_op (fun K hK => ?_) | refine end_ret ?_ | refine end_normal ?_) | ((with_reducible refine x_guard_yes ?hy (fun K hK => ?_)); case hy => rfl)); simp only [go_sem, Int.cast_ofNat_Int, Nat.reduceEqDiff, Nat.reduceAdd, Nat.reduceMul, Nat.reduceLeDiff, Nat.reduceLT, Int.reduceLT, Int.reduceLE, Int.reduceEq, Int.reduceNeg, Int.reduceToNat, Nat.reducePow, reduceIte, reduceCtorEq, i8, i2, i3, i4, i7, t1, s1, s2, c3, c4, w7, ew])
            | ((with_reducible first | refine x_guard_no ?hy ?_ | refine x_cond_true ?hy ?_); case hy => rfl)
            | ((with_reducible first | refine x_guard_none ?hy ?_ | refine x_cond_false ?hy ?_); case hy => rfl)
            | ((with_reducible refine block_exit_ne ?hy ?_); case hy => decide))
          exact next _ r.symm)
      · have s2 : (how == 2) = false := by simp [h2]
        have r : (twoQ x y how).getLsbD i = (x.getLsbD i && !y.getLsbD i) := by unfold twoQ; rw [if_neg h1, if_neg h2, BitVec.getLsbD_and, BitVec.getLsbD_not]; simp [hlt]
        cases hx : x.getLsbD i <;> cases hy : y.getLsbD i <;> rw [hx] at c3 r <;> rw [hy] at c4 r
        all_goals (
          repeat' (first
            | (with_reducible first | refine seq_normal ?_ | (refine hK _ _ ?_; clear hK K) | refine x_seq (fun K hK => ?_) | refine x_nil ?_ | refine x_block ?_ | refine x_skip ?_ | refine x_exit ?_ | refine x_ret ?_ | refine x_label ?_ | refine x_scope ?_ | (refine seq_ret ?_; clear hK K) | (refine seq_exit ?_; clear hK K) | refine block_normal ?_ | refine block_ret ?_ | refine block_exit ?_ | refine loop_exit ?_ | refine loop_ret ?_)
            | ((with_reducible refine x_reg_lit ?hq ?_); case hq => rfl)
            | ((first | (with_reducible first | refine x_op (fun K hK => ?_) | refine end_ret ?_ | refine end_normal ?_) | ((with_reducible refine x_guard_yes ?hy (fun K hK => ?_)); case hy => rfl)); simp only [go_sem, Int.cast_ofNat_Int, Nat.reduceEqDiff, Nat.reduceAdd, Nat.reduceMul, Nat.reduceLeDiff, Nat.reduceLT, Int.reduceLT, Int.reduceLE, Int.reduceEq, Int.reduceNeg, Int.reduceToNat, Nat.reducePow, reduceIte, reduceCtorEq, i8, i2, i3, i4, i7, t1, s1, s2, c3, c4, w7, ew])
            | ((with_reducible first | refine x_guard_no ?hy ?_ | refine x_cond_true ?hy ?_); case hy => rfl)
            | ((with_reducible first | refine x_guard_none ?hy ?_ | refine x_cond_false ?hy ?_); case hy => rfl)
            | ((with_reducible refine block_exit_ne ?hy ?_); case hy => decide))
          exact next _ r.symm)
  · have t1 : ((i : Int) < 64) = False := eq_false (by omega)
    obtain rfl : i = 64 := by omega
    have ez : z = twoQ x y how := by
      apply BitVec.eq_of_getLsbD_eq
      intro j hj
      rw [hz j hj]; simp [hj]
    rw [ez] at b7
    repeat' (first
      | (with_reducible first | refine seq_normal ?_ | (refine hK _ _ ?_; clear hK K) | refine x_seq (fun K hK => ?_) | refine x_nil ?_ | refine x_block ?_ | refine x_skip ?_ | refine x_exit ?_ | refine x_ret ?_ | refine x_label ?_ | refine x_scope ?_ | (refine seq_ret ?_; clear hK K) | (refine seq_exit ?_; clear hK K) | refine block_normal ?_ | refine block_ret ?_ | refine block_exit ?_ | refine loop_exit ?_ | refine loop_ret ?_)
      | ((with_reducible refine x_reg_lit ?hq ?_); case hq => rfl)
      | ((first | (with_reducible first | refine x_op (fun K hK => ?_) | refine end_ret ?_ | refine end_normal ?_) | ((with_reducible refine x_guard_yes ?hy (fun K hK => ?_)); case hy => rfl)); simp only [go_sem, Int.cast_ofNat_Int, Nat.reduceEqDiff, Nat.reduceAdd, Nat.reduceMul, Nat.reduceLeDiff, Nat.reduceLT, Int.reduceLT, Int.reduceLE, Int.reduceEq, Int.reduceNeg, Int.reduceToNat, Nat.reducePow, reduceIte, reduceCtorEq, i8, i7, i6, t1])
      | ((with_reducible first | refine x_guard_no ?hy ?_ | refine x_cond_true ?hy ?_); case hy => rfl)
      | ((with_reducible first | refine x_guard_none ?hy ?_ | refine x_cond_false ?hy ?_); case hy => rfl)
      | ((with_reducible refine block_exit_ne ?hy ?_); case hy => decide))
    refine load64z b7 ?_
    simp only [dv_fold]
    repeat' (first
      | (with_reducible first | refine seq_normal ?_ | (refine hK _ _ ?_; clear hK K) | refine x_seq (fun K hK => ?_) | refine x_nil ?_ | refine x_block ?_ | refine x_skip ?_ | refine x_exit ?_ | refine x_ret ?_ | refine x_label ?_ | refine x_scope ?_ | (refine seq_ret ?_; clear hK K) | (refine seq_exit ?_; clear hK K) | refine block_normal ?_ | refine block_ret ?_ | refine block_exit ?_ | refine loop_exit ?_ | refine loop_ret ?_)
      | ((with_reducible refine x_reg_lit ?hq ?_); case hq => rfl)
      | ((first | (with_reducible first | refine x_op (fun K hK => ?_) | refine end_ret ?_ | refine end_normal ?_) | ((with_reducible refine x_guard_yes ?hy (fun K hK => ?_)); case hy => rfl)); simp only [go_sem, Int.cast_ofNat_Int, Nat.reduceEqDiff, Nat.reduceAdd, Nat.reduceMul, Nat.reduceLeDiff, Nat.reduceLT, Int.reduceLT, Int.reduceLE, Int.reduceEq, Int.reduceNeg, Int.reduceToNat, Nat.reducePow, reduceIte, reduceCtorEq, i6])
      | ((with_reducible first | refine x_guard_no ?hy ?_ | refine x_cond_true ?hy ?_); case hy => rfl)
      | ((with_reducible first | refine x_guard_none ?hy ?_ | refine x_cond_false ?hy ?_); case hy => rfl)
      | ((with_reducible refine block_exit_ne ?hy ?_); case hy => decide))
    refine ⟨bools_len _, store64 (o := 0) b6 (by rw [bools_len]; decide) fun H5 h5 f5 s5 => ?_⟩
    rw [over64] at h5
    repeat' (first
      | (with_reducible first | refine seq_normal ?_ | (refine hK _ _ ?_; clear hK K) | refine x_seq (fun K hK => ?_) | refine x_nil ?_ | refine x_block ?_ | refine x_skip ?_ | refine x_exit ?_ | refine x_ret ?_ | refine x_label ?_ | refine x_scope ?_ | (refine seq_ret ?_; clear hK K) | (refine seq_exit ?_; clear hK K) | refine block_normal ?_ | refine block_ret ?_ | refine block_exit ?_ | refine loop_exit ?_ | refine loop_ret ?_)
      | ((with_reducible refine x_reg_lit ?hq ?_); case hq => rfl)
      | ((first | (with_reducible first | refine x_op (fun K hK => ?_) | refine end_ret ?_ | refine end_normal ?_) | ((with_reducible refine x_guard_yes ?hy (fun K hK => ?_)); case hy => rfl)); simp only [go_sem, Int.cast_ofNat_Int, Nat.reduceEqDiff, Nat.reduceAdd, Nat.reduceMul, Nat.reduceLeDiff, Nat.reduceLT, Int.reduceLT, Int.reduceLE, Int.reduceEq, Int.reduceNeg, Int.reduceToNat, Nat.reducePow, reduceIte, reduceCtorEq, i6])
      | ((with_reducible first | refine x_guard_no ?hy ?_ | refine x_cond_true ?hy ?_); case hy => rfl)
      | ((with_reducible first | refine x_guard_none ?hy ?_ | refine x_cond_false ?hy ?_); case hy => rfl)
      | ((with_reducible refine block_exit_ne ?hy ?_); case hy => decide))
    refine load64z h5 ?_
    simp only [dv_fold]
    repeat' (first
      | (with_reducible first | refine seq_normal ?_ | (refine hK _ _ ?_; clear hK K) | refine x_seq (fun K hK => ?_) | refine x_nil ?_ | refine x_block ?_ | refine x_skip ?_ | refine x_exit ?_ | refine x_ret ?_ | refine x_label ?_ | refine x_scope ?_ | (refine seq_ret ?_; clear hK K) | (refine seq_exit ?_; clear hK K) | refine block_normal ?_ | refine block_ret ?_ | refine block_exit ?_ | refine loop_exit ?_ | refine loop_ret ?_)
      | ((with_reducible refine x_reg_lit ?hq ?_); case hq => rfl)
      | ((first | (with_reducible first | refine x_op (fun K hK => ?_) | refine end_ret ?_ | refine end_normal ?_) | ((with_reducible refine x_guard_yes ?hy (fun K hK => ?_)); case hy => rfl)); simp only [go_sem, Int.cast_ofNat_Int, Nat.reduceEqDiff, Nat.reduceAdd, Nat.reduceMul, Nat.reduceLeDiff, Nat.reduceLT, Int.reduceLT, Int.reduceLE, Int.reduceEq, Int.reduceNeg, Int.reduceToNat, Nat.reducePow, reduceIte, reduceCtorEq])
      | ((with_reducible first | refine x_guard_no ?hy ?_ | refine x_cond_true ?hy ?_); case hy => rfl)
      | ((with_reducible first | refine x_guard_none ?hy ?_ | refine x_cond_false ?hy ?_); case hy => rfl)
      | ((with_reducible refine block_exit_ne ?hy ?_); case hy => decide))
    exact hk _ (hf.trans' f5 fun b hb e => by subst e; omega)
end Go.Proofs.YtdhepjcdlkahnaaDoor
