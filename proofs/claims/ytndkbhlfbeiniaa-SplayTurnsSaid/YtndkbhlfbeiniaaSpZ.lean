/-
  Splay forests for whoever uses them: what each public call answers and does.
-/
import Derived.Test.YtndkbhlfbeiniaaSpY
namespace Go.Proofs.Ytndkbhlfbeiniaa
open Go Go.Hp Go.Sp
set_option linter.all false
set_option maxRecDepth 100000
set_option maxHeartbeats 1600000

section
variable {H H' : Heap} {f : Nat} {T : Nat → Prop} {S : Sq} {K : Value → Heap → Prop} {k j : Nat} {R : List (List Nat)} {xs ys : List Nat}
theorem get_none {p g : Nat} {A : Ar} {nb : Nat → Nat} {N : Nodes} {S : Fo} {i : Int} (hF : FoAt H f p g A nb N S) (hi : ¬ ∃ k : Nat, i = (k : Int) ∧ k ∈ S.rows.flatten) (fin : ∀ H', Fr (fun _ => False) H H' → K (.tuple #[Sp.Item.zero.val, .int .i64 31]) H') :
    CallsH Try.prog 16 #[.pointer (some ⟨f, 0, none⟩), .int .i64 i] H K := by
  refine call16 (by simp) ?_
  simp only [Try.f16, Option.getD_some]
  repeat' (first
    | (with_reducible first | refine seq_normal ?_ | (refine hK _ _ ?_; clear hK K) | refine x_seq (fun K hK => ?_) | refine x_nil ?_ | refine x_block ?_ | refine x_skip ?_ | refine x_exit ?_ | refine x_ret ?_ | refine x_label ?_ | refine x_scope ?_ | (refine seq_ret ?_; clear hK K) | (refine seq_exit ?_; clear hK K) | refine block_normal ?_ | refine block_ret ?_ | refine block_exit ?_ | refine loop_exit ?_ | refine loop_ret ?_)
    | ((with_reducible refine x_reg_lit ?hq ?_); case hq => rfl)
    | ((first | (with_reducible first | refine x_op (fun K hK => ?_) | refine end_ret ?_ | refine end_normal ?_) | ((with_reducible refine x_guard_yes ?hy (fun K hK => ?_)); case hy => rfl)); simp only [go_sem, Int.cast_ofNat_Int, Nat.reduceEqDiff, Nat.reduceAdd, Nat.reduceMul, Nat.reduceLeDiff, Nat.reduceLT, Int.reduceLT, Int.reduceLE, Int.reduceEq, Int.reduceNeg, Int.reduceToNat, Nat.reducePow, reduceIte, reduceCtorEq, hcell_push, hcell_top, okW_push, okW_top, hcell_hset_ne, hcell_hset_off, hcell_hset_eq, okW_hset, hset_size, Array.size_push, Nat.lt_add_one, ne_add_one, add_one_ne, Nat.add_assoc, add_same, add_lt_same, Nat.reduceEqDiff, lt_add_k, add_k_ne, ne_add_k])
    | ((with_reducible first | refine x_guard_no ?hy ?_ | refine x_cond_true ?hy ?_); case hy => rfl)
    | ((with_reducible first | refine x_guard_none ?hy ?_ | refine x_cond_false ?hy ?_); case hy => rfl)
    | ((with_reducible refine block_exit_ne ?hy ?_); case hy => decide))
  refine node_no (hF.grow ((Fr.refl _ _).push _)).mem (hF.none hi) ?_
  repeat' (first
    | (with_reducible first | refine seq_normal ?_ | (refine hK _ _ ?_; clear hK K) | refine x_seq (fun K hK => ?_) | refine x_nil ?_ | refine x_block ?_ | refine x_skip ?_ | refine x_exit ?_ | refine x_ret ?_ | refine x_label ?_ | refine x_scope ?_ | (refine seq_ret ?_; clear hK K) | (refine seq_exit ?_; clear hK K) | refine block_normal ?_ | refine block_ret ?_ | refine block_exit ?_ | refine loop_exit ?_ | refine loop_ret ?_)
    | ((with_reducible refine x_reg_lit ?hq ?_); case hq => rfl)
    | ((first | (with_reducible first | refine x_op (fun K hK => ?_) | refine end_ret ?_ | refine end_normal ?_) | ((with_reducible refine x_guard_yes ?hy (fun K hK => ?_)); case hy => rfl)); simp only [go_sem, Int.cast_ofNat_Int, Nat.reduceEqDiff, Nat.reduceAdd, Nat.reduceMul, Nat.reduceLeDiff, Nat.reduceLT, Int.reduceLT, Int.reduceLE, Int.reduceEq, Int.reduceNeg, Int.reduceToNat, Nat.reducePow, reduceIte, reduceCtorEq, hcell_push, hcell_top, okW_push, okW_top, hcell_hset_ne, hcell_hset_off, hcell_hset_eq, okW_hset, hset_size, Array.size_push, Nat.lt_add_one, ne_add_one, add_one_ne, Nat.add_assoc, add_same, add_lt_same, Nat.reduceEqDiff, lt_add_k, add_k_ne, ne_add_k])
    | ((with_reducible first | refine x_guard_no ?hy ?_ | refine x_cond_true ?hy ?_); case hy => rfl)
    | ((with_reducible first | refine x_guard_none ?hy ?_ | refine x_cond_false ?hy ?_); case hy => rfl)
    | ((with_reducible refine block_exit_ne ?hy ?_); case hy => decide))
  exact fin _ (by ((repeat (first | refine Fr.set ?_ (by simp) _ | refine Fr.push ?_ _)); exact Fr.refl _ _))
theorem rank_none {p g : Nat} {A : Ar} {nb : Nat → Nat} {N : Nodes} {S : Fo} {i : Int} (hF : FoAt H f p g A nb N S) (hi : ¬ ∃ k : Nat, i = (k : Int) ∧ k ∈ S.rows.flatten) (fin : K (.tuple #[.int .i64 0, .int .i64 31]) H) :
    CallsH Try.prog 18 #[.pointer (some ⟨f, 0, none⟩), .int .i64 i] H K := by
  refine call18 (by simp) ?_
  simp only [Try.f18, Option.getD_some]
  repeat' (first
    | (with_reducible first | refine seq_normal ?_ | (refine hK _ _ ?_; clear hK K) | refine x_seq (fun K hK => ?_) | refine x_nil ?_ | refine x_block ?_ | refine x_skip ?_ | refine x_exit ?_ | refine x_ret ?_ | refine x_label ?_ | refine x_scope ?_ | (refine seq_ret ?_; clear hK K) | (refine seq_exit ?_; clear hK K) | refine block_normal ?_ | refine block_ret ?_ | refine block_exit ?_ | refine loop_exit ?_ | refine loop_ret ?_)
    | ((with_reducible refine x_reg_lit ?hq ?_); case hq => rfl)
    | ((first | (with_reducible first | refine x_op (fun K hK => ?_) | refine end_ret ?_ | refine end_normal ?_) | ((with_reducible refine x_guard_yes ?hy (fun K hK => ?_)); case hy => rfl)); simp only [go_sem, Int.cast_ofNat_Int, Nat.reduceEqDiff, Nat.reduceAdd, Nat.reduceMul, Nat.reduceLeDiff, Nat.reduceLT, Int.reduceLT, Int.reduceLE, Int.reduceEq, Int.reduceNeg, Int.reduceToNat, Nat.reducePow, reduceIte, reduceCtorEq])
    | ((with_reducible first | refine x_guard_no ?hy ?_ | refine x_cond_true ?hy ?_); case hy => rfl)
    | ((with_reducible first | refine x_guard_none ?hy ?_ | refine x_cond_false ?hy ?_); case hy => rfl)
    | ((with_reducible refine block_exit_ne ?hy ?_); case hy => decide))
  refine node_no hF.mem (hF.none hi) ?_
  repeat' (first
    | (with_reducible first | refine seq_normal ?_ | (refine hK _ _ ?_; clear hK K) | refine x_seq (fun K hK => ?_) | refine x_nil ?_ | refine x_block ?_ | refine x_skip ?_ | refine x_exit ?_ | refine x_ret ?_ | refine x_label ?_ | refine x_scope ?_ | (refine seq_ret ?_; clear hK K) | (refine seq_exit ?_; clear hK K) | refine block_normal ?_ | refine block_ret ?_ | refine block_exit ?_ | refine loop_exit ?_ | refine loop_ret ?_)
    | ((with_reducible refine x_reg_lit ?hq ?_); case hq => rfl)
    | ((first | (with_reducible first | refine x_op (fun K hK => ?_) | refine end_ret ?_ | refine end_normal ?_) | ((with_reducible refine x_guard_yes ?hy (fun K hK => ?_)); case hy => rfl)); simp only [go_sem, Int.cast_ofNat_Int, Nat.reduceEqDiff, Nat.reduceAdd, Nat.reduceMul, Nat.reduceLeDiff, Nat.reduceLT, Int.reduceLT, Int.reduceLE, Int.reduceEq, Int.reduceNeg, Int.reduceToNat, Nat.reducePow, reduceIte, reduceCtorEq])
    | ((with_reducible first | refine x_guard_no ?hy ?_ | refine x_cond_true ?hy ?_); case hy => rfl)
    | ((with_reducible first | refine x_guard_none ?hy ?_ | refine x_cond_false ?hy ?_); case hy => rfl)
    | ((with_reducible refine block_exit_ne ?hy ?_); case hy => decide))
  exact fin
theorem sum_none {p g : Nat} {A : Ar} {nb : Nat → Nat} {N : Nodes} {S : Fo} {i : Int} (hF : FoAt H f p g A nb N S) (hi : ¬ ∃ k : Nat, i = (k : Int) ∧ k ∈ S.rows.flatten) (fin : ∀ H', Fr (fun _ => False) H H' → K (.tuple #[Agg.zero.val, .int .i64 31]) H') :
    CallsH Try.prog 20 #[.pointer (some ⟨f, 0, none⟩), .int .i64 i] H K := by
  refine call20 (by simp) ?_
  simp only [Try.f20, Option.getD_some]
  repeat' (first
    | (with_reducible first | refine seq_normal ?_ | (refine hK _ _ ?_; clear hK K) | refine x_seq (fun K hK => ?_) | refine x_nil ?_ | refine x_block ?_ | refine x_skip ?_ | refine x_exit ?_ | refine x_ret ?_ | refine x_label ?_ | refine x_scope ?_ | (refine seq_ret ?_; clear hK K) | (refine seq_exit ?_; clear hK K) | refine block_normal ?_ | refine block_ret ?_ | refine block_exit ?_ | refine loop_exit ?_ | refine loop_ret ?_)
    | ((with_reducible refine x_reg_lit ?hq ?_); case hq => rfl)
    | ((first | (with_reducible first | refine x_op (fun K hK => ?_) | refine end_ret ?_ | refine end_normal ?_) | ((with_reducible refine x_guard_yes ?hy (fun K hK => ?_)); case hy => rfl)); simp only [go_sem, Int.cast_ofNat_Int, Nat.reduceEqDiff, Nat.reduceAdd, Nat.reduceMul, Nat.reduceLeDiff, Nat.reduceLT, Int.reduceLT, Int.reduceLE, Int.reduceEq, Int.reduceNeg, Int.reduceToNat, Nat.reducePow, reduceIte, reduceCtorEq, hcell_push, hcell_top, okW_push, okW_top, hcell_hset_ne, hcell_hset_off, hcell_hset_eq, okW_hset, hset_size, Array.size_push, Nat.lt_add_one, ne_add_one, add_one_ne, Nat.add_assoc, add_same, add_lt_same, Nat.reduceEqDiff, lt_add_k, add_k_ne, ne_add_k])
    | ((with_reducible first | refine x_guard_no ?hy ?_ | refine x_cond_true ?hy ?_); case hy => rfl)
    | ((with_reducible first | refine x_guard_none ?hy ?_ | refine x_cond_false ?hy ?_); case hy => rfl)
    | ((with_reducible refine block_exit_ne ?hy ?_); case hy => decide))
  refine node_no (hF.grow ((Fr.refl _ _).push _)).mem (hF.none hi) ?_
  repeat' (first
    | (with_reducible first | refine seq_normal ?_ | (refine hK _ _ ?_; clear hK K) | refine x_seq (fun K hK => ?_) | refine x_nil ?_ | refine x_block ?_ | refine x_skip ?_ | refine x_exit ?_ | refine x_ret ?_ | refine x_label ?_ | refine x_scope ?_ | (refine seq_ret ?_; clear hK K) | (refine seq_exit ?_; clear hK K) | refine block_normal ?_ | refine block_ret ?_ | refine block_exit ?_ | refine loop_exit ?_ | refine loop_ret ?_)
    | ((with_reducible refine x_reg_lit ?hq ?_); case hq => rfl)
    | ((first | (with_reducible first | refine x_op (fun K hK => ?_) | refine end_ret ?_ | refine end_normal ?_) | ((with_reducible refine x_guard_yes ?hy (fun K hK => ?_)); case hy => rfl)); simp only [go_sem, Int.cast_ofNat_Int, Nat.reduceEqDiff, Nat.reduceAdd, Nat.reduceMul, Nat.reduceLeDiff, Nat.reduceLT, Int.reduceLT, Int.reduceLE, Int.reduceEq, Int.reduceNeg, Int.reduceToNat, Nat.reducePow, reduceIte, reduceCtorEq, hcell_push, hcell_top, okW_push, okW_top, hcell_hset_ne, hcell_hset_off, hcell_hset_eq, okW_hset, hset_size, Array.size_push, Nat.lt_add_one, ne_add_one, add_one_ne, Nat.add_assoc, add_same, add_lt_same, Nat.reduceEqDiff, lt_add_k, add_k_ne, ne_add_k])
    | ((with_reducible first | refine x_guard_no ?hy ?_ | refine x_cond_true ?hy ?_); case hy => rfl)
    | ((with_reducible first | refine x_guard_none ?hy ?_ | refine x_cond_false ?hy ?_); case hy => rfl)
    | ((with_reducible refine block_exit_ne ?hy ?_); case hy => decide))
  exact fin _ (by ((repeat (first | refine Fr.set ?_ (by simp) _ | refine Fr.push ?_ _)); exact Fr.refl _ _))
theorem split_none {p g : Nat} {A : Ar} {nb : Nat → Nat} {N : Nodes} {S : Fo} {i : Int} (hF : FoAt H f p g A nb N S) (hi : ¬ ∃ k : Nat, i = (k : Int) ∧ k ∈ S.rows.flatten) (fin : K (.int .i64 31) H) :
    CallsH Try.prog 23 #[.pointer (some ⟨f, 0, none⟩), .int .i64 i] H K := by
  refine call23 (by simp) ?_
  simp only [Try.f23, Option.getD_some]
  repeat' (first
    | (with_reducible first | refine seq_normal ?_ | (refine hK _ _ ?_; clear hK K) | refine x_seq (fun K hK => ?_) | refine x_nil ?_ | refine x_block ?_ | refine x_skip ?_ | refine x_exit ?_ | refine x_ret ?_ | refine x_label ?_ | refine x_scope ?_ | (refine seq_ret ?_; clear hK K) | (refine seq_exit ?_; clear hK K) | refine block_normal ?_ | refine block_ret ?_ | refine block_exit ?_ | refine loop_exit ?_ | refine loop_ret ?_)
    | ((with_reducible refine x_reg_lit ?hq ?_); case hq => rfl)
    | ((first | (with_reducible first | refine x_op (fun K hK => ?_) | refine end_ret ?_ | refine end_normal ?_) | ((with_reducible refine x_guard_yes ?hy (fun K hK => ?_)); case hy => rfl)); simp only [go_sem, Int.cast_ofNat_Int, Nat.reduceEqDiff, Nat.reduceAdd, Nat.reduceMul, Nat.reduceLeDiff, Nat.reduceLT, Int.reduceLT, Int.reduceLE, Int.reduceEq, Int.reduceNeg, Int.reduceToNat, Nat.reducePow, reduceIte, reduceCtorEq])
    | ((with_reducible first | refine x_guard_no ?hy ?_ | refine x_cond_true ?hy ?_); case hy => rfl)
    | ((with_reducible first | refine x_guard_none ?hy ?_ | refine x_cond_false ?hy ?_); case hy => rfl)
    | ((with_reducible refine block_exit_ne ?hy ?_); case hy => decide))
  refine node_no hF.mem (hF.none hi) ?_
  repeat' (first
    | (with_reducible first | refine seq_normal ?_ | (refine hK _ _ ?_; clear hK K) | refine x_seq (fun K hK => ?_) | refine x_nil ?_ | refine x_block ?_ | refine x_skip ?_ | refine x_exit ?_ | refine x_ret ?_ | refine x_label ?_ | refine x_scope ?_ | (refine seq_ret ?_; clear hK K) | (refine seq_exit ?_; clear hK K) | refine block_normal ?_ | refine block_ret ?_ | refine block_exit ?_ | refine loop_exit ?_ | refine loop_ret ?_)
    | ((with_reducible refine x_reg_lit ?hq ?_); case hq => rfl)
    | ((first | (with_reducible first | refine x_op (fun K hK => ?_) | refine end_ret ?_ | refine end_normal ?_) | ((with_reducible refine x_guard_yes ?hy (fun K hK => ?_)); case hy => rfl)); simp only [go_sem, Int.cast_ofNat_Int, Nat.reduceEqDiff, Nat.reduceAdd, Nat.reduceMul, Nat.reduceLeDiff, Nat.reduceLT, Int.reduceLT, Int.reduceLE, Int.reduceEq, Int.reduceNeg, Int.reduceToNat, Nat.reducePow, reduceIte, reduceCtorEq])
    | ((with_reducible first | refine x_guard_no ?hy ?_ | refine x_cond_true ?hy ?_); case hy => rfl)
    | ((with_reducible first | refine x_guard_none ?hy ?_ | refine x_cond_false ?hy ?_); case hy => rfl)
    | ((with_reducible refine block_exit_ne ?hy ?_); case hy => decide))
  exact fin
theorem psame_none {p g : Nat} {A : Ar} {nb : Nat → Nat} {N : Nodes} {S : Fo} {a b : Int} (hF : FoAt H f p g A nb N S) (hi : (¬ ∃ k : Nat, a = (k : Int) ∧ k ∈ S.rows.flatten) ∨ (¬ ∃ k : Nat, b = (k : Int) ∧ k ∈ S.rows.flatten)) (fin : K (.tuple #[.bool false, .int .i64 31]) H) :
    CallsH Try.prog 27 #[.pointer (some ⟨f, 0, none⟩), .int .i64 a, .int .i64 b] H K := by
  refine call27 (by simp) ?_
  simp only [Try.f27, Option.getD_some]
  repeat' (first
    | (with_reducible first | refine seq_normal ?_ | (refine hK _ _ ?_; clear hK K) | refine x_seq (fun K hK => ?_) | refine x_nil ?_ | refine x_block ?_ | refine x_skip ?_ | refine x_exit ?_ | refine x_ret ?_ | refine x_label ?_ | refine x_scope ?_ | (refine seq_ret ?_; clear hK K) | (refine seq_exit ?_; clear hK K) | refine block_normal ?_ | refine block_ret ?_ | refine block_exit ?_ | refine loop_exit ?_ | refine loop_ret ?_)
    | ((with_reducible refine x_reg_lit ?hq ?_); case hq => rfl)
    | ((first | (with_reducible first | refine x_op (fun K hK => ?_) | refine end_ret ?_ | refine end_normal ?_) | ((with_reducible refine x_guard_yes ?hy (fun K hK => ?_)); case hy => rfl)); simp only [go_sem, Int.cast_ofNat_Int, Nat.reduceEqDiff, Nat.reduceAdd, Nat.reduceMul, Nat.reduceLeDiff, Nat.reduceLT, Int.reduceLT, Int.reduceLE, Int.reduceEq, Int.reduceNeg, Int.reduceToNat, Nat.reducePow, reduceIte, reduceCtorEq])
    | ((with_reducible first | refine x_guard_no ?hy ?_ | refine x_cond_true ?hy ?_); case hy => rfl)
    | ((with_reducible first | refine x_guard_none ?hy ?_ | refine x_cond_false ?hy ?_); case hy => rfl)
    | ((with_reducible refine block_exit_ne ?hy ?_); case hy => decide))
  by_cases ha : ∃ k : Nat, a = (k : Int) ∧ k ∈ S.rows.flatten
  · obtain ⟨k, rfl, hk⟩ := ha
    have hi := hi.resolve_left (fun h => h ⟨k, rfl, hk⟩)
    refine node_ok hF.mem ((hF.use k).1 hk) ?_
    repeat' (first
      | (with_reducible first | refine seq_normal ?_ | (refine hK _ _ ?_; clear hK K) | refine x_seq (fun K hK => ?_) | refine x_nil ?_ | refine x_block ?_ | refine x_skip ?_ | refine x_exit ?_ | refine x_ret ?_ | refine x_label ?_ | refine x_scope ?_ | (refine seq_ret ?_; clear hK K) | (refine seq_exit ?_; clear hK K) | refine block_normal ?_ | refine block_ret ?_ | refine block_exit ?_ | refine loop_exit ?_ | refine loop_ret ?_)
      | ((with_reducible refine x_reg_lit ?hq ?_); case hq => rfl)
      | ((first | (with_reducible first | refine x_op (fun K hK => ?_) | refine end_ret ?_ | refine end_normal ?_) | ((with_reducible refine x_guard_yes ?hy (fun K hK => ?_)); case hy => rfl)); simp only [go_sem, Int.cast_ofNat_Int, Nat.reduceEqDiff, Nat.reduceAdd, Nat.reduceMul, Nat.reduceLeDiff, Nat.reduceLT, Int.reduceLT, Int.reduceLE, Int.reduceEq, Int.reduceNeg, Int.reduceToNat, Nat.reducePow, reduceIte, reduceCtorEq])
      | ((with_reducible first | refine x_guard_no ?hy ?_ | refine x_cond_true ?hy ?_); case hy => rfl)
      | ((with_reducible first | refine x_guard_none ?hy ?_ | refine x_cond_false ?hy ?_); case hy => rfl)
      | ((with_reducible refine block_exit_ne ?hy ?_); case hy => decide))
    refine node_no hF.mem (hF.none hi) ?_
    repeat' (first
      | (with_reducible first | refine seq_normal ?_ | (refine hK _ _ ?_; clear hK K) | refine x_seq (fun K hK => ?_) | refine x_nil ?_ | refine x_block ?_ | refine x_skip ?_ | refine x_exit ?_ | refine x_ret ?_ | refine x_label ?_ | refine x_scope ?_ | (refine seq_ret ?_; clear hK K) | (refine seq_exit ?_; clear hK K) | refine block_normal ?_ | refine block_ret ?_ | refine block_exit ?_ | refine loop_exit ?_ | refine loop_ret ?_)
      | ((with_reducible refine x_reg_lit ?hq ?_); case hq => rfl)
      | ((first | (with_reducible first | refine x_op (fun K hK => ?_) | refine end_ret ?_ | refine end_normal ?_) | ((with_reducible refine x_guard_yes ?hy (fun K hK => ?_)); case hy => rfl)); simp only [go_sem, Int.cast_ofNat_Int, Nat.reduceEqDiff, Nat.reduceAdd, Nat.reduceMul, Nat.reduceLeDiff, Nat.reduceLT, Int.reduceLT, Int.reduceLE, Int.reduceEq, Int.reduceNeg, Int.reduceToNat, Nat.reducePow, reduceIte, reduceCtorEq])
      | ((with_reducible first | refine x_guard_no ?hy ?_ | refine x_cond_true ?hy ?_); case hy => rfl)
      | ((with_reducible first | refine x_guard_none ?hy ?_ | refine x_cond_false ?hy ?_); case hy => rfl)
      | ((with_reducible refine block_exit_ne ?hy ?_); case hy => decide))
    exact fin
  · refine node_no hF.mem (hF.none ha) ?_
    repeat' (first
      | (with_reducible first | refine seq_normal ?_ | (refine hK _ _ ?_; clear hK K) | refine x_seq (fun K hK => ?_) | refine x_nil ?_ | refine x_block ?_ | refine x_skip ?_ | refine x_exit ?_ | refine x_ret ?_ | refine x_label ?_ | refine x_scope ?_ | (refine seq_ret ?_; clear hK K) | (refine seq_exit ?_; clear hK K) | refine block_normal ?_ | refine block_ret ?_ | refine block_exit ?_ | refine loop_exit ?_ | refine loop_ret ?_)
      | ((with_reducible refine x_reg_lit ?hq ?_); case hq => rfl)
      | ((first | (with_reducible first | refine x_op (fun K hK => ?_) | refine end_ret ?_ | refine end_normal ?_) | ((with_reducible refine x_guard_yes ?hy (fun K hK => ?_)); case hy => rfl)); simp only [go_sem, Int.cast_ofNat_Int, Nat.reduceEqDiff, Nat.reduceAdd, Nat.reduceMul, Nat.reduceLeDiff, Nat.reduceLT, Int.reduceLT, Int.reduceLE, Int.reduceEq, Int.reduceNeg, Int.reduceToNat, Nat.reducePow, reduceIte, reduceCtorEq])
      | ((with_reducible first | refine x_guard_no ?hy ?_ | refine x_cond_true ?hy ?_); case hy => rfl)
      | ((with_reducible first | refine x_guard_none ?hy ?_ | refine x_cond_false ?hy ?_); case hy => rfl)
      | ((with_reducible refine block_exit_ne ?hy ?_); case hy => decide))
    exact fin
theorem psame_ok {p g : Nat} {A : Ar} {nb : Nat → Nat} {N : Nodes} {S : Fo} (hF : FoAt H f p g A nb N S) (hx : xs ∈ S.rows) (hk : k ∈ xs) (hy : ys ∈ S.rows) (hj : j ∈ ys)
    (fin : ∀ H' N' (b : Bool), FoAt H' f p g A nb N' S → Fr (NB A nb) H H' → (b = true ↔ ys = xs) → K (.tuple #[.bool b, .int .i64 0]) H') :
    CallsH Try.prog 27 #[.pointer (some ⟨f, 0, none⟩), .int .i64 k, .int .i64 j] H K := by
  refine call27 (by simp) ?_
  simp only [Try.f27, Option.getD_some]
  repeat' (first
    | (with_reducible first | refine seq_normal ?_ | (refine hK _ _ ?_; clear hK K) | refine x_seq (fun K hK => ?_) | refine x_nil ?_ | refine x_block ?_ | refine x_skip ?_ | refine x_exit ?_ | refine x_ret ?_ | refine x_label ?_ | refine x_scope ?_ | (refine seq_ret ?_; clear hK K) | (refine seq_exit ?_; clear hK K) | refine block_normal ?_ | refine block_ret ?_ | refine block_exit ?_ | refine loop_exit ?_ | refine loop_ret ?_)
    | ((with_reducible refine x_reg_lit ?hq ?_); case hq => rfl)
    | ((first | (with_reducible first | refine x_op (fun K hK => ?_) | refine end_ret ?_ | refine end_normal ?_) | ((with_reducible refine x_guard_yes ?hy (fun K hK => ?_)); case hy => rfl)); simp only [go_sem, Int.cast_ofNat_Int, Nat.reduceEqDiff, Nat.reduceAdd, Nat.reduceMul, Nat.reduceLeDiff, Nat.reduceLT, Int.reduceLT, Int.reduceLE, Int.reduceEq, Int.reduceNeg, Int.reduceToNat, Nat.reducePow, reduceIte, reduceCtorEq])
    | ((with_reducible first | refine x_guard_no ?hy ?_ | refine x_cond_true ?hy ?_); case hy => rfl)
    | ((with_reducible first | refine x_guard_none ?hy ?_ | refine x_cond_false ?hy ?_); case hy => rfl)
    | ((with_reducible refine block_exit_ne ?hy ?_); case hy => decide))
  refine node_ok hF.mem (hF.u hx hk) ?_
  repeat' (first
    | (with_reducible first | refine seq_normal ?_ | (refine hK _ _ ?_; clear hK K) | refine x_seq (fun K hK => ?_) | refine x_nil ?_ | refine x_block ?_ | refine x_skip ?_ | refine x_exit ?_ | refine x_ret ?_ | refine x_label ?_ | refine x_scope ?_ | (refine seq_ret ?_; clear hK K) | (refine seq_exit ?_; clear hK K) | refine block_normal ?_ | refine block_ret ?_ | refine block_exit ?_ | refine loop_exit ?_ | refine loop_ret ?_)
    | ((with_reducible refine x_reg_lit ?hq ?_); case hq => rfl)
    | ((first | (with_reducible first | refine x_op (fun K hK => ?_) | refine end_ret ?_ | refine end_normal ?_) | ((with_reducible refine x_guard_yes ?hy (fun K hK => ?_)); case hy => rfl)); simp only [go_sem, Int.cast_ofNat_Int, Nat.reduceEqDiff, Nat.reduceAdd, Nat.reduceMul, Nat.reduceLeDiff, Nat.reduceLT, Int.reduceLT, Int.reduceLE, Int.reduceEq, Int.reduceNeg, Int.reduceToNat, Nat.reducePow, reduceIte, reduceCtorEq])
    | ((with_reducible first | refine x_guard_no ?hy ?_ | refine x_cond_true ?hy ?_); case hy => rfl)
    | ((with_reducible first | refine x_guard_none ?hy ?_ | refine x_cond_false ?hy ?_); case hy => rfl)
    | ((with_reducible refine block_exit_ne ?hy ?_); case hy => decide))
  refine node_ok hF.mem (hF.u hy hj) ?_
  repeat' (first
    | (with_reducible first | refine seq_normal ?_ | (refine hK _ _ ?_; clear hK K) | refine x_seq (fun K hK => ?_) | refine x_nil ?_ | refine x_block ?_ | refine x_skip ?_ | refine x_exit ?_ | refine x_ret ?_ | refine x_label ?_ | refine x_scope ?_ | (refine seq_ret ?_; clear hK K) | (refine seq_exit ?_; clear hK K) | refine block_normal ?_ | refine block_ret ?_ | refine block_exit ?_ | refine loop_exit ?_ | refine loop_ret ?_)
    | ((with_reducible refine x_reg_lit ?hq ?_); case hq => rfl)
    | ((first | (with_reducible first | refine x_op (fun K hK => ?_) | refine end_ret ?_ | refine end_normal ?_) | ((with_reducible refine x_guard_yes ?hy (fun K hK => ?_)); case hy => rfl)); simp only [go_sem, Int.cast_ofNat_Int, Nat.reduceEqDiff, Nat.reduceAdd, Nat.reduceMul, Nat.reduceLeDiff, Nat.reduceLT, Int.reduceLT, Int.reduceLE, Int.reduceEq, Int.reduceNeg, Int.reduceToNat, Nat.reducePow, reduceIte, reduceCtorEq])
    | ((with_reducible first | refine x_guard_no ?hy ?_ | refine x_cond_true ?hy ?_); case hy => rfl)
    | ((with_reducible first | refine x_guard_none ?hy ?_ | refine x_cond_false ?hy ?_); case hy => rfl)
    | ((with_reducible refine block_exit_ne ?hy ?_); case hy => decide))
  refine same_ok hF hx hk hy hj ?_
  intro H1 N1 b hF1 hf1 hb
  repeat' (first
    | (with_reducible first | refine seq_normal ?_ | (refine hK _ _ ?_; clear hK K) | refine x_seq (fun K hK => ?_) | refine x_nil ?_ | refine x_block ?_ | refine x_skip ?_ | refine x_exit ?_ | refine x_ret ?_ | refine x_label ?_ | refine x_scope ?_ | (refine seq_ret ?_; clear hK K) | (refine seq_exit ?_; clear hK K) | refine block_normal ?_ | refine block_ret ?_ | refine block_exit ?_ | refine loop_exit ?_ | refine loop_ret ?_)
    | ((with_reducible refine x_reg_lit ?hq ?_); case hq => rfl)
    | ((first | (with_reducible first | refine x_op (fun K hK => ?_) | refine end_ret ?_ | refine end_normal ?_) | ((with_reducible refine x_guard_yes ?hy (fun K hK => ?_)); case hy => rfl)); simp only [go_sem, Int.cast_ofNat_Int, Nat.reduceEqDiff, Nat.reduceAdd, Nat.reduceMul, Nat.reduceLeDiff, Nat.reduceLT, Int.reduceLT, Int.reduceLE, Int.reduceEq, Int.reduceNeg, Int.reduceToNat, Nat.reducePow, reduceIte, reduceCtorEq])
    | ((with_reducible first | refine x_guard_no ?hy ?_ | refine x_cond_true ?hy ?_); case hy => rfl)
    | ((with_reducible first | refine x_guard_none ?hy ?_ | refine x_cond_false ?hy ?_); case hy => rfl)
    | ((with_reducible refine block_exit_ne ?hy ?_); case hy => decide))
  exact fin _ _ _ hF1 hf1 hb
/-! ### calls for whoever uses them -/
theorem FoM.after {p g : Nat} {A : Ar} {nb : Nat → Nat} {N' : Nodes} {it' : Nat → Sp.Item} {R : List (List Nat)} (h2 : A.room = S.room) (h3 : A.vals.length = S.top) (h4 : A.free = S.free) (h5 : ∀ b, Foot f p g A nb b → T b) (h6 : ∀ b, T b → b < H.size)
    (hF : FoAt H' f p g A nb N' ⟨it', R⟩) (hf : Fr (NB A nb) H H') : FoM H' f T { S with it := it', rows := R } ∧ Fr T H H' :=
  ⟨⟨p, g, A, nb, N', hF, h2, h3, h4, h5, fun b hb => Nat.lt_of_lt_of_le (h6 b hb) hf.size⟩, hf.mono fun b _ hb => h5 b (.inr (.inr (.inr hb)))⟩
theorem m_get (hM : FoM H f T S) (hk : k ∈ S.rows.flatten) (fin : ∀ H', FoM H' f T S → Fr T H H' → K (.tuple #[(S.it k).val, .int .i64 0]) H') : CallsH Try.prog 16 #[.pointer (some ⟨f, 0, none⟩), .int .i64 k] H K := by
  have hM' := hM
  obtain ⟨p, g, A, nb, N, hF, h2, h3, h4, h5, h6⟩ := hM
  obtain ⟨xs, hx, hk⟩ := List.mem_flatten.1 hk
  exact get_ok hF hx hk fun H' hf => fin H' (hM'.grow hf) (hf.mono fun _ _ h => h.elim)
theorem m_get_none {i : Int} (hM : FoM H f T S) (hi : ¬ S.Has i) (fin : ∀ H', FoM H' f T S → Fr T H H' → K (.tuple #[Sp.Item.zero.val, .int .i64 31]) H') : CallsH Try.prog 16 #[.pointer (some ⟨f, 0, none⟩), .int .i64 i] H K := by
  have hM' := hM
  obtain ⟨p, g, A, nb, N, hF, h2, h3, h4, h5, h6⟩ := hM
  exact get_none hF hi fun H' hf => fin H' (hM'.grow hf) (hf.mono fun _ _ h => h.elim)
theorem m_rank {l r : List Nat} (hM : FoM H f T S) (hx : xs ∈ S.rows) (hxs : xs = l ++ k :: r) (fin : ∀ H', FoM H' f T S → Fr T H H' → K (.tuple #[.int .i64 (l.length : Nat), .int .i64 0]) H') : CallsH Try.prog 18 #[.pointer (some ⟨f, 0, none⟩), .int .i64 k] H K := by
  obtain ⟨p, g, A, nb, N, hF, h2, h3, h4, h5, h6⟩ := hM
  refine rank_ok hF hx hxs fun H' N' hF' hf => ?_
  obtain ⟨a, b⟩ := FoM.after h2 h3 h4 h5 h6 hF' hf
  exact fin H' a b
theorem m_rank_none {i : Int} (hM : FoM H f T S) (hi : ¬ S.Has i) (fin : K (.tuple #[.int .i64 0, .int .i64 31]) H) : CallsH Try.prog 18 #[.pointer (some ⟨f, 0, none⟩), .int .i64 i] H K := by
  obtain ⟨p, g, A, nb, N, hF, h2, h3, h4, h5, h6⟩ := hM
  exact rank_none hF hi fin
theorem m_sum (hM : FoM H f T S) (hx : xs ∈ S.rows) (hk : k ∈ xs) (fin : ∀ H', FoM H' f T S → Fr T H H' → K (.tuple #[(aggOf S.it xs).val, .int .i64 0]) H') : CallsH Try.prog 20 #[.pointer (some ⟨f, 0, none⟩), .int .i64 k] H K := by
  obtain ⟨p, g, A, nb, N, hF, h2, h3, h4, h5, h6⟩ := hM
  refine sum_ok hF hx hk fun H' N' hF' hf => ?_
  obtain ⟨a, b⟩ := FoM.after h2 h3 h4 h5 h6 hF' hf
  exact fin H' a b
theorem m_sum_none {i : Int} (hM : FoM H f T S) (hi : ¬ S.Has i) (fin : ∀ H', FoM H' f T S → Fr T H H' → K (.tuple #[Agg.zero.val, .int .i64 31]) H') : CallsH Try.prog 20 #[.pointer (some ⟨f, 0, none⟩), .int .i64 i] H K := by
  have hM' := hM
  obtain ⟨p, g, A, nb, N, hF, h2, h3, h4, h5, h6⟩ := hM
  exact sum_none hF hi fun H' hf => fin H' (hM'.grow hf) (hf.mono fun _ _ h => h.elim)
theorem m_split_first {r : List Nat} (hM : FoM H f T S) (hx : k :: r ∈ S.rows) (fin : ∀ H', FoM H' f T S → Fr T H H' → K (.int .i64 0) H') : CallsH Try.prog 23 #[.pointer (some ⟨f, 0, none⟩), .int .i64 k] H K := by
  obtain ⟨p, g, A, nb, N, hF, h2, h3, h4, h5, h6⟩ := hM
  refine split_first hF hx fun H' N' hF' hf => ?_
  obtain ⟨a, b⟩ := FoM.after h2 h3 h4 h5 h6 hF' hf
  exact fin H' a b
theorem m_split {l r : List Nat} (hM : FoM H f T S) (hr : S.rows.Perm ((l ++ k :: r) :: R)) (hl : l ≠ []) (fin : ∀ H', FoM H' f T { S with rows := l :: (k :: r) :: R } → Fr T H H' → K (.int .i64 0) H') : CallsH Try.prog 23 #[.pointer (some ⟨f, 0, none⟩), .int .i64 k] H K := by
  obtain ⟨p, g, A, nb, N, hF, h2, h3, h4, h5, h6⟩ := hM
  refine split_ok hF hr hl fun H' N' hF' hf => ?_
  obtain ⟨a, b⟩ := FoM.after h2 h3 h4 h5 h6 hF' hf
  exact fin H' a b
theorem m_split_none {i : Int} (hM : FoM H f T S) (hi : ¬ S.Has i) (fin : K (.int .i64 31) H) : CallsH Try.prog 23 #[.pointer (some ⟨f, 0, none⟩), .int .i64 i] H K := by
  obtain ⟨p, g, A, nb, N, hF, h2, h3, h4, h5, h6⟩ := hM
  exact split_none hF hi fin
theorem m_join (hM : FoM H f T S) (hr : S.rows.Perm (xs :: ys :: R)) (hk : k ∈ xs) (hj : j ∈ ys) (fin : ∀ H', FoM H' f T { S with rows := (xs ++ ys) :: R } → Fr T H H' → K (.int .i64 0) H') : CallsH Try.prog 24 #[.pointer (some ⟨f, 0, none⟩), .int .i64 k, .int .i64 j] H K := by
  obtain ⟨p, g, A, nb, N, hF, h2, h3, h4, h5, h6⟩ := hM
  refine join_ok hF hr hk hj fun H' N' hF' hf => ?_
  obtain ⟨a, b⟩ := FoM.after h2 h3 h4 h5 h6 hF' hf
  exact fin H' a b
theorem m_join_same (hM : FoM H f T S) (hx : xs ∈ S.rows) (hk : k ∈ xs) (hj : j ∈ xs) (fin : ∀ H', FoM H' f T S → Fr T H H' → K (.int .i64 33) H') : CallsH Try.prog 24 #[.pointer (some ⟨f, 0, none⟩), .int .i64 k, .int .i64 j] H K := by
  obtain ⟨p, g, A, nb, N, hF, h2, h3, h4, h5, h6⟩ := hM
  refine join_same hF hx hk hj fun H' N' hF' hf => ?_
  obtain ⟨a, b⟩ := FoM.after h2 h3 h4 h5 h6 hF' hf
  exact fin H' a b
theorem m_join_none {a b : Int} (hM : FoM H f T S) (hi : ¬ S.Has a ∨ ¬ S.Has b) (fin : K (.int .i64 31) H) : CallsH Try.prog 24 #[.pointer (some ⟨f, 0, none⟩), .int .i64 a, .int .i64 b] H K := by
  obtain ⟨p, g, A, nb, N, hF, h2, h3, h4, h5, h6⟩ := hM
  exact join_none hF hi fin
theorem m_same (hM : FoM H f T S) (hx : xs ∈ S.rows) (hk : k ∈ xs) (hy : ys ∈ S.rows) (hj : j ∈ ys) (fin : ∀ H' (b : Bool), FoM H' f T S → Fr T H H' → (b = true ↔ ys = xs) → K (.tuple #[.bool b, .int .i64 0]) H') :
    CallsH Try.prog 27 #[.pointer (some ⟨f, 0, none⟩), .int .i64 k, .int .i64 j] H K := by
  obtain ⟨p, g, A, nb, N, hF, h2, h3, h4, h5, h6⟩ := hM
  refine psame_ok hF hx hk hy hj fun H' N' b hF' hf hb => ?_
  obtain ⟨a, b'⟩ := FoM.after h2 h3 h4 h5 h6 hF' hf
  exact fin H' b a b' hb
theorem m_same_none {a b : Int} (hM : FoM H f T S) (hi : ¬ S.Has a ∨ ¬ S.Has b) (fin : K (.tuple #[.bool false, .int .i64 31]) H) : CallsH Try.prog 27 #[.pointer (some ⟨f, 0, none⟩), .int .i64 a, .int .i64 b] H K := by
  obtain ⟨p, g, A, nb, N, hF, h2, h3, h4, h5, h6⟩ := hM
  exact psame_none hF hi fin
theorem m_set {x : Sp.Item} (hM : FoM H f T S) (hk : k ∈ S.rows.flatten) (hx1 : Fits x) (hx2 : May x) (fin : ∀ H', FoM H' f T { S with it := fun i => if i = k then x else S.it i } → Fr T H H' → K (.int .i64 0) H') : CallsH Try.prog 15 #[.pointer (some ⟨f, 0, none⟩), .int .i64 k, x.val] H K := by
  obtain ⟨p, g, A, nb, N, hF, h2, h3, h4, h5, h6⟩ := hM
  obtain ⟨xs, hx, hk⟩ := List.mem_flatten.1 hk
  refine set_ok hF hx hk hx1 hx2 fun H' N' hF' hf => ?_
  obtain ⟨a, b⟩ := FoM.after h2 h3 h4 h5 h6 hF' hf
  exact fin H' a b
theorem m_set_none {i : Int} {x : Sp.Item} (hM : FoM H f T S) (hi : ¬ S.Has i) (fin : ∀ H', FoM H' f T S → Fr T H H' → K (.int .i64 31) H') : CallsH Try.prog 15 #[.pointer (some ⟨f, 0, none⟩), .int .i64 i, x.val] H K := by
  have hM' := hM
  obtain ⟨p, g, A, nb, N, hF, h2, h3, h4, h5, h6⟩ := hM
  exact set_none hF hi fun H' hf => fin H' (hM'.grow hf) (hf.mono fun _ _ h => h.elim)
theorem m_set_bad {x : Sp.Item} (hM : FoM H f T S) (hk : k ∈ S.rows.flatten) (hx1 : Fits x) (hx2 : ¬ May x) (fin : ∀ H', FoM H' f T S → Fr T H H' → K (.int .i64 1) H') : CallsH Try.prog 15 #[.pointer (some ⟨f, 0, none⟩), .int .i64 k, x.val] H K := by
  have hM' := hM
  obtain ⟨p, g, A, nb, N, hF, h2, h3, h4, h5, h6⟩ := hM
  exact set_bad hF hk hx1 hx2 fun H' hf => fin H' (hM'.grow hf) (hf.mono fun _ _ h => h.elim)
theorem m_at {n : Nat} (hM : FoM H f T S) (hx : xs ∈ S.rows) (hk : k ∈ xs) (hn : xs[n]? = some j) (fin : ∀ H', FoM H' f T S → Fr T H H' → K (.tuple #[.int .i64 j, .int .i64 0]) H') : CallsH Try.prog 19 #[.pointer (some ⟨f, 0, none⟩), .int .i64 k, .int .i64 (n : Nat)] H K := by
  obtain ⟨p, g, A, nb, N, hF, h2, h3, h4, h5, h6⟩ := hM
  refine at_ok hF hx hk hn fun H' N' hF' hf => ?_
  obtain ⟨a, b⟩ := FoM.after h2 h3 h4 h5 h6 hF' hf
  exact fin H' a b
theorem m_at_bad {n : Int} (hM : FoM H f T S) (hx : xs ∈ S.rows) (hk : k ∈ xs) (hn : n < 0 ∨ (xs.length : Int) ≤ n) (fin : ∀ H', FoM H' f T S → Fr T H H' → K (.tuple #[.int .i64 0, .int .i64 34]) H') : CallsH Try.prog 19 #[.pointer (some ⟨f, 0, none⟩), .int .i64 k, .int .i64 n] H K := by
  obtain ⟨p, g, A, nb, N, hF, h2, h3, h4, h5, h6⟩ := hM
  refine at_bad hF hx hk hn fun H' N' hF' hf => ?_
  obtain ⟨a, b⟩ := FoM.after h2 h3 h4 h5 h6 hF' hf
  exact fin H' a b
theorem m_at_none {i n : Int} (hM : FoM H f T S) (hi : ¬ S.Has i) (fin : K (.tuple #[.int .i64 0, .int .i64 31]) H) : CallsH Try.prog 19 #[.pointer (some ⟨f, 0, none⟩), .int .i64 i, .int .i64 n] H K := by
  obtain ⟨p, g, A, nb, N, hF, h2, h3, h4, h5, h6⟩ := hM
  exact at_none hF hi fin
/-- The first node with one of some flags: told, or not. -/
theorem m_flagged {fl : Nat} (hM : FoM H f T S) (hx : xs ∈ S.rows) (hk : k ∈ xs) (hfl : fl < 256) (fin : ∀ H', FoM H' f T S → Fr T H H' → K (.tuple #[.int .i64 ((firstF S.it fl xs).getD 0 : Nat), .int .i64 (if (firstF S.it fl xs).isSome then 0 else 35)]) H') :
    CallsH Try.prog 37 #[.pointer (some ⟨f, 0, none⟩), .int .i64 k, .int .i64 (fl : Nat)] H K := by
  obtain ⟨p, g, A, nb, N, hF, h2, h3, h4, h5, h6⟩ := hM
  cases hn : firstF S.it fl xs with
  | none =>
    rw [hn] at fin
    refine flagged_no hF hx hk hfl hn fun H' N' hF' hf => ?_
    obtain ⟨a, b⟩ := FoM.after h2 h3 h4 h5 h6 hF' hf
    exact fin H' a b
  | some j =>
    rw [hn] at fin
    refine flagged_ok hF hx hk hfl hn fun H' N' hF' hf => ?_
    obtain ⟨a, b⟩ := FoM.after h2 h3 h4 h5 h6 hF' hf
    exact fin H' a b
theorem m_flagged_none {i n : Int} (hM : FoM H f T S) (hi : ¬ S.Has i) (fin : K (.tuple #[.int .i64 0, .int .i64 31]) H) : CallsH Try.prog 37 #[.pointer (some ⟨f, 0, none⟩), .int .i64 i, .int .i64 n] H K := by
  obtain ⟨p, g, A, nb, N, hF, h2, h3, h4, h5, h6⟩ := hM
  exact flagged_none hF hi fin
theorem m_flagged_bad {n : Int} (hM : FoM H f T S) (hk : k ∈ S.rows.flatten) (h1 : -9223372036854775808 ≤ n) (h2' : n ≤ 9223372036854775807) (hn : ¬ (0 ≤ n ∧ n < 256)) (fin : K (.tuple #[.int .i64 0, .int .i64 1]) H) : CallsH Try.prog 37 #[.pointer (some ⟨f, 0, none⟩), .int .i64 k, .int .i64 n] H K := by
  obtain ⟨p, g, A, nb, N, hF, h2, h3, h4, h5, h6⟩ := hM
  exact flagged_bad hF hk h1 h2' hn fin
theorem m_all (hM : FoM H f T S) (hx : xs ∈ S.rows) (hk : k ∈ xs) (fin : ∀ H' B v, FoM H' f T S → IR H' B v (xs.map Int.ofNat) → (∀ b, B = some b → H.size ≤ b) → Fr T H H' → K (.tuple #[v, .int .i64 0]) H') : CallsH Try.prog 35 #[.pointer (some ⟨f, 0, none⟩), .int .i64 k] H K := by
  obtain ⟨p, g, A, nb, N, hF, h2, h3, h4, h5, h6⟩ := hM
  refine all_ok hF hx hk fun H' N' B v hF' hi hB hf => ?_
  obtain ⟨a, b⟩ := FoM.after h2 h3 h4 h5 h6 hF' hf
  exact fin H' B v a hi hB b
theorem m_all_none {i : Int} (hM : FoM H f T S) (hi : ¬ S.Has i) (fin : K (.tuple #[.slice none 0 0, .int .i64 31]) H) : CallsH Try.prog 35 #[.pointer (some ⟨f, 0, none⟩), .int .i64 i] H K := by
  obtain ⟨p, g, A, nb, N, hF, h2, h3, h4, h5, h6⟩ := hM
  exact all_none hF hi fin
end
end Go.Proofs.Ytndkbhlfbeiniaa
