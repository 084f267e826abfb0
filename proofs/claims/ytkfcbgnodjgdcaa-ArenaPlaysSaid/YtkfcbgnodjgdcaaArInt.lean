import Derived.Test.YtkfcbgnodjgdcaaTab
import Derived.Test.YtkfcbgnodjgdcaaArP
namespace Go.Proofs.Ytkfcbgnodjgdcaa.ArInt
open Go Go.Hp
set_option linter.all false
set_option maxRecDepth 100000

theorem many_le' {A : Ar} {k : Nat} (ok : A.Ok k) : A.many ≤ 4096 := Nat.le_trans ok.most ok.room
theorem at_some {H : Heap} {p g : Nat} {A : Ar} {h : Nat} {v z : List Value} {K : Value → Heap → Prop} (hA : ArAt H p g 1 z A) (hg : A.get h = some v)
    (hk : K (.pointer (some ⟨g, h * 3, none⟩)) H) : CallsH Try.prog 31 #[.pointer (some ⟨p, 0, none⟩), .int .i64 h] H K := by
  obtain ⟨c, rest, b1, b2, hl, hc⟩ := hA.at_
  have h2 := b1.cellOf (i := 2) rfl
  have hlt := Ar.get_some_lt hg
  have h1 := Ar.pos_of_get hA.ok hg
  have hu : hcell H ⟨g, h * 3 + 1, none⟩ = some (.bool true) := by
    have := b2.cellOf (slot_used hA.ok hA.zl hlt)
    rw [hg] at this
    exact this
  have e1 : ((h : Int) < 1) = False := by simp; omega
  have e2 : (A.vals.length ≤ h) = False := by simp; omega
  refine call31 (by simp) ?_
  simp only [Try.f31, Option.getD_some]
  repeat' (first
    | (with_reducible first | refine seq_normal ?_ | (refine hK _ _ ?_; clear hK K) | refine x_seq (fun K hK => ?_) | refine x_nil ?_ | refine x_block ?_ | refine x_skip ?_ | refine x_exit ?_ | refine x_ret ?_ | refine x_label ?_ | refine x_scope ?_ | (refine seq_ret ?_; clear hK K) | (refine seq_exit ?_; clear hK K) | refine block_normal ?_ | refine block_ret ?_ | refine block_exit ?_ | refine loop_exit ?_ | refine loop_ret ?_)
    | ((with_reducible refine x_reg_lit ?hq ?_); case hq => rfl)
    | ((first | (with_reducible first | refine x_op (fun K hK => ?_) | refine end_ret ?_ | refine end_normal ?_) | ((with_reducible refine x_guard_yes ?hy (fun K hK => ?_)); case hy => rfl)); simp only [go_sem, Int.cast_ofNat_Int, Nat.reduceEqDiff, Nat.reduceAdd, Nat.reduceMul, Nat.reduceLeDiff, Nat.reduceLT, Int.reduceLT, Int.reduceLE, Int.reduceEq, Int.reduceNeg, Int.reduceToNat, Nat.reducePow, reduceIte, reduceCtorEq, h2, hu, e1, e2, hlt])
    | ((with_reducible first | refine x_guard_no ?hy ?_ | refine x_cond_true ?hy ?_); case hy => rfl)
    | ((with_reducible first | refine x_guard_none ?hy ?_ | refine x_cond_false ?hy ?_); case hy => rfl)
    | ((with_reducible refine block_exit_ne ?hy ?_); case hy => decide))
  exact hk
theorem at_none {H : Heap} {p g : Nat} {A : Ar} {i : Int} {z : List Value} {K : Value → Heap → Prop} (hA : ArAt H p g 1 z A) (hg : i < 1 ∨ A.get i.toNat = none)
    (hk : K (.pointer none) H) : CallsH Try.prog 31 #[.pointer (some ⟨p, 0, none⟩), .int .i64 i] H K := by
  obtain ⟨c, rest, b1, b2, hl, hc⟩ := hA.at_
  have h2 := b1.cellOf (i := 2) rfl
  refine call31 (by simp) ?_
  simp only [Try.f31, Option.getD_some]
  by_cases h1 : i < 1
  · have e1 : (i < 1) = True := by simp [h1]
    repeat' (first
      | (with_reducible first | refine seq_normal ?_ | (refine hK _ _ ?_; clear hK K) | refine x_seq (fun K hK => ?_) | refine x_nil ?_ | refine x_block ?_ | refine x_skip ?_ | refine x_exit ?_ | refine x_ret ?_ | refine x_label ?_ | refine x_scope ?_ | (refine seq_ret ?_; clear hK K) | (refine seq_exit ?_; clear hK K) | refine block_normal ?_ | refine block_ret ?_ | refine block_exit ?_ | refine loop_exit ?_ | refine loop_ret ?_)
      | ((with_reducible refine x_reg_lit ?hq ?_); case hq => rfl)
      | ((first | (with_reducible first | refine x_op (fun K hK => ?_) | refine end_ret ?_ | refine end_normal ?_) | ((with_reducible refine x_guard_yes ?hy (fun K hK => ?_)); case hy => rfl)); simp only [go_sem, Int.cast_ofNat_Int, Nat.reduceEqDiff, Nat.reduceAdd, Nat.reduceMul, Nat.reduceLeDiff, Nat.reduceLT, Int.reduceLT, Int.reduceLE, Int.reduceEq, Int.reduceNeg, Int.reduceToNat, Nat.reducePow, reduceIte, reduceCtorEq, h2, e1])
      | ((with_reducible first | refine x_guard_no ?hy ?_ | refine x_cond_true ?hy ?_); case hy => rfl)
      | ((with_reducible first | refine x_guard_none ?hy ?_ | refine x_cond_false ?hy ?_); case hy => rfl)
      | ((with_reducible refine block_exit_ne ?hy ?_); case hy => decide))
    exact hk
  · have e1 : (i < 1) = False := by simp [h1]
    obtain ⟨h, rfl⟩ := Int.eq_ofNat_of_zero_le (show 0 ≤ i by omega)
    have hg' : A.get h = none := by simpa [h1] using hg
    by_cases hlt : h < A.vals.length
    · have hu : hcell H ⟨g, h * 3 + 1, none⟩ = some (.bool false) := by
        have := b2.cellOf (slot_used hA.ok hA.zl hlt)
        rw [hg'] at this
        exact this
      have e2 : (A.vals.length ≤ h) = False := by simp; omega
      repeat' (first
        | (with_reducible first | refine seq_normal ?_ | (refine hK _ _ ?_; clear hK K) | refine x_seq (fun K hK => ?_) | refine x_nil ?_ | refine x_block ?_ | refine x_skip ?_ | refine x_exit ?_ | refine x_ret ?_ | refine x_label ?_ | refine x_scope ?_ | (refine seq_ret ?_; clear hK K) | (refine seq_exit ?_; clear hK K) | refine block_normal ?_ | refine block_ret ?_ | refine block_exit ?_ | refine loop_exit ?_ | refine loop_ret ?_)
        | ((with_reducible refine x_reg_lit ?hq ?_); case hq => rfl)
        | ((first | (with_reducible first | refine x_op (fun K hK => ?_) | refine end_ret ?_ | refine end_normal ?_) | ((with_reducible refine x_guard_yes ?hy (fun K hK => ?_)); case hy => rfl)); simp only [go_sem, Int.cast_ofNat_Int, Nat.reduceEqDiff, Nat.reduceAdd, Nat.reduceMul, Nat.reduceLeDiff, Nat.reduceLT, Int.reduceLT, Int.reduceLE, Int.reduceEq, Int.reduceNeg, Int.reduceToNat, Nat.reducePow, reduceIte, reduceCtorEq, h2, hu, e1, e2, hlt])
        | ((with_reducible first | refine x_guard_no ?hy ?_ | refine x_cond_true ?hy ?_); case hy => rfl)
        | ((with_reducible first | refine x_guard_none ?hy ?_ | refine x_cond_false ?hy ?_); case hy => rfl)
        | ((with_reducible refine block_exit_ne ?hy ?_); case hy => decide))
      exact hk
    · have e2 : (A.vals.length ≤ h) = True := by simp; omega
      repeat' (first
        | (with_reducible first | refine seq_normal ?_ | (refine hK _ _ ?_; clear hK K) | refine x_seq (fun K hK => ?_) | refine x_nil ?_ | refine x_block ?_ | refine x_skip ?_ | refine x_exit ?_ | refine x_ret ?_ | refine x_label ?_ | refine x_scope ?_ | (refine seq_ret ?_; clear hK K) | (refine seq_exit ?_; clear hK K) | refine block_normal ?_ | refine block_ret ?_ | refine block_exit ?_ | refine loop_exit ?_ | refine loop_ret ?_)
        | ((with_reducible refine x_reg_lit ?hq ?_); case hq => rfl)
        | ((first | (with_reducible first | refine x_op (fun K hK => ?_) | refine end_ret ?_ | refine end_normal ?_) | ((with_reducible refine x_guard_yes ?hy (fun K hK => ?_)); case hy => rfl)); simp only [go_sem, Int.cast_ofNat_Int, Nat.reduceEqDiff, Nat.reduceAdd, Nat.reduceMul, Nat.reduceLeDiff, Nat.reduceLT, Int.reduceLT, Int.reduceLE, Int.reduceEq, Int.reduceNeg, Int.reduceToNat, Nat.reducePow, reduceIte, reduceCtorEq, h2, e1, e2])
        | ((with_reducible first | refine x_guard_no ?hy ?_ | refine x_cond_true ?hy ?_); case hy => rfl)
        | ((with_reducible first | refine x_guard_none ?hy ?_ | refine x_cond_false ?hy ?_); case hy => rfl)
        | ((with_reducible refine block_exit_ne ?hy ?_); case hy => decide))
      exact hk
theorem get_some {H : Heap} {p g : Nat} {A : Ar} {h : Nat} {v : Int} {z : List Value} {K : Value → Heap → Prop} (hA : ArAt H p g 1 z A) (hg : A.get h = some [.int .i64 v])
    (hk : K (.tuple #[.int .i64 v, .int .i64 0]) H) : CallsH Try.prog 11 #[.pointer (some ⟨p, 0, none⟩), .int .i64 h] H K := by
  obtain ⟨c, rest, b1, b2, hl, hc⟩ := hA.at_
  have hv : hcell H ⟨g, h * 3, none⟩ = some (.int .i64 v) := b2.cellOf (by
    have := slot_val hA.ok hA.zl (rest := rest) (j := 0) hg (by omega)
    simpa using this)
  refine call11 (by simp) ?_
  simp only [Try.f11, Option.getD_some]
  repeat' (first
    | (with_reducible first | refine seq_normal ?_ | (refine hK _ _ ?_; clear hK K) | refine x_seq (fun K hK => ?_) | refine x_nil ?_ | refine x_block ?_ | refine x_skip ?_ | refine x_exit ?_ | refine x_ret ?_ | refine x_label ?_ | refine x_scope ?_ | (refine seq_ret ?_; clear hK K) | (refine seq_exit ?_; clear hK K) | refine block_normal ?_ | refine block_ret ?_ | refine block_exit ?_ | refine loop_exit ?_ | refine loop_ret ?_)
    | ((with_reducible refine x_reg_lit ?hq ?_); case hq => rfl)
    | ((first | (with_reducible first | refine x_op (fun K hK => ?_) | refine end_ret ?_ | refine end_normal ?_) | ((with_reducible refine x_guard_yes ?hy (fun K hK => ?_)); case hy => rfl)); simp only [go_sem, Int.cast_ofNat_Int, Nat.reduceEqDiff, Nat.reduceAdd, Nat.reduceMul, Nat.reduceLeDiff, Nat.reduceLT, Int.reduceLT, Int.reduceLE, Int.reduceEq, Int.reduceNeg, Int.reduceToNat, Nat.reducePow, reduceIte, reduceCtorEq, hv])
    | ((with_reducible first | refine x_guard_no ?hy ?_ | refine x_cond_true ?hy ?_); case hy => rfl)
    | ((with_reducible first | refine x_guard_none ?hy ?_ | refine x_cond_false ?hy ?_); case hy => rfl)
    | ((with_reducible refine block_exit_ne ?hy ?_); case hy => decide))
  refine at_some hA hg ?_
  repeat' (first
    | (with_reducible first | refine seq_normal ?_ | (refine hK _ _ ?_; clear hK K) | refine x_seq (fun K hK => ?_) | refine x_nil ?_ | refine x_block ?_ | refine x_skip ?_ | refine x_exit ?_ | refine x_ret ?_ | refine x_label ?_ | refine x_scope ?_ | (refine seq_ret ?_; clear hK K) | (refine seq_exit ?_; clear hK K) | refine block_normal ?_ | refine block_ret ?_ | refine block_exit ?_ | refine loop_exit ?_ | refine loop_ret ?_)
    | ((with_reducible refine x_reg_lit ?hq ?_); case hq => rfl)
    | ((first | (with_reducible first | refine x_op (fun K hK => ?_) | refine end_ret ?_ | refine end_normal ?_) | ((with_reducible refine x_guard_yes ?hy (fun K hK => ?_)); case hy => rfl)); simp only [go_sem, Int.cast_ofNat_Int, Nat.reduceEqDiff, Nat.reduceAdd, Nat.reduceMul, Nat.reduceLeDiff, Nat.reduceLT, Int.reduceLT, Int.reduceLE, Int.reduceEq, Int.reduceNeg, Int.reduceToNat, Nat.reducePow, reduceIte, reduceCtorEq, hv])
    | ((with_reducible first | refine x_guard_no ?hy ?_ | refine x_cond_true ?hy ?_); case hy => rfl)
    | ((with_reducible first | refine x_guard_none ?hy ?_ | refine x_cond_false ?hy ?_); case hy => rfl)
    | ((with_reducible refine block_exit_ne ?hy ?_); case hy => decide))
  exact hk
theorem get_none {H : Heap} {p g : Nat} {A : Ar} {i : Int} {z : List Value} {K : Value → Heap → Prop} (hA : ArAt H p g 1 z A) (hg : i < 1 ∨ A.get i.toNat = none)
    (hk : K (.tuple #[.int .i64 0, .int .i64 21]) H) : CallsH Try.prog 11 #[.pointer (some ⟨p, 0, none⟩), .int .i64 i] H K := by
  refine call11 (by simp) ?_
  simp only [Try.f11, Option.getD_some]
  repeat' (first
    | (with_reducible first | refine seq_normal ?_ | (refine hK _ _ ?_; clear hK K) | refine x_seq (fun K hK => ?_) | refine x_nil ?_ | refine x_block ?_ | refine x_skip ?_ | refine x_exit ?_ | refine x_ret ?_ | refine x_label ?_ | refine x_scope ?_ | (refine seq_ret ?_; clear hK K) | (refine seq_exit ?_; clear hK K) | refine block_normal ?_ | refine block_ret ?_ | refine block_exit ?_ | refine loop_exit ?_ | refine loop_ret ?_)
    | ((with_reducible refine x_reg_lit ?hq ?_); case hq => rfl)
    | ((first | (with_reducible first | refine x_op (fun K hK => ?_) | refine end_ret ?_ | refine end_normal ?_) | ((with_reducible refine x_guard_yes ?hy (fun K hK => ?_)); case hy => rfl)); simp only [go_sem, Int.cast_ofNat_Int, Nat.reduceEqDiff, Nat.reduceAdd, Nat.reduceMul, Nat.reduceLeDiff, Nat.reduceLT, Int.reduceLT, Int.reduceLE, Int.reduceEq, Int.reduceNeg, Int.reduceToNat, Nat.reducePow, reduceIte, reduceCtorEq])
    | ((with_reducible first | refine x_guard_no ?hy ?_ | refine x_cond_true ?hy ?_); case hy => rfl)
    | ((with_reducible first | refine x_guard_none ?hy ?_ | refine x_cond_false ?hy ?_); case hy => rfl)
    | ((with_reducible refine block_exit_ne ?hy ?_); case hy => decide))
  refine at_none hA hg ?_
  repeat' (first
    | (with_reducible first | refine seq_normal ?_ | (refine hK _ _ ?_; clear hK K) | refine x_seq (fun K hK => ?_) | refine x_nil ?_ | refine x_block ?_ | refine x_skip ?_ | refine x_exit ?_ | refine x_ret ?_ | refine x_label ?_ | refine x_scope ?_ | (refine seq_ret ?_; clear hK K) | (refine seq_exit ?_; clear hK K) | refine block_normal ?_ | refine block_ret ?_ | refine block_exit ?_ | refine loop_exit ?_ | refine loop_ret ?_)
    | ((with_reducible refine x_reg_lit ?hq ?_); case hq => rfl)
    | ((first | (with_reducible first | refine x_op (fun K hK => ?_) | refine end_ret ?_ | refine end_normal ?_) | ((with_reducible refine x_guard_yes ?hy (fun K hK => ?_)); case hy => rfl)); simp only [go_sem, Int.cast_ofNat_Int, Nat.reduceEqDiff, Nat.reduceAdd, Nat.reduceMul, Nat.reduceLeDiff, Nat.reduceLT, Int.reduceLT, Int.reduceLE, Int.reduceEq, Int.reduceNeg, Int.reduceToNat, Nat.reducePow, reduceIte, reduceCtorEq])
    | ((with_reducible first | refine x_guard_no ?hy ?_ | refine x_cond_true ?hy ?_); case hy => rfl)
    | ((with_reducible first | refine x_guard_none ?hy ?_ | refine x_cond_false ?hy ?_); case hy => rfl)
    | ((with_reducible refine block_exit_ne ?hy ?_); case hy => decide))
  exact hk
theorem len_ok {H : Heap} {p g : Nat} {A : Ar} {z : List Value} {K : Value → Heap → Prop} (hA : ArAt H p g 1 z A)
    (hk : K (.int .i64 A.many) H) : CallsH Try.prog 12 #[.pointer (some ⟨p, 0, none⟩)] H K := by
  obtain ⟨c, rest, b1, b2, hl, hc⟩ := hA.at_
  have h1 := b1.cellOf (i := 1) rfl
  refine call12 (by simp) ?_
  simp only [Try.f12, Option.getD_some]
  repeat' (first
    | (with_reducible first | refine seq_normal ?_ | (refine hK _ _ ?_; clear hK K) | refine x_seq (fun K hK => ?_) | refine x_nil ?_ | refine x_block ?_ | refine x_skip ?_ | refine x_exit ?_ | refine x_ret ?_ | refine x_label ?_ | refine x_scope ?_ | (refine seq_ret ?_; clear hK K) | (refine seq_exit ?_; clear hK K) | refine block_normal ?_ | refine block_ret ?_ | refine block_exit ?_ | refine loop_exit ?_ | refine loop_ret ?_)
    | ((with_reducible refine x_reg_lit ?hq ?_); case hq => rfl)
    | ((first | (with_reducible first | refine x_op (fun K hK => ?_) | refine end_ret ?_ | refine end_normal ?_) | ((with_reducible refine x_guard_yes ?hy (fun K hK => ?_)); case hy => rfl)); simp only [go_sem, Int.cast_ofNat_Int, Nat.reduceEqDiff, Nat.reduceAdd, Nat.reduceMul, Nat.reduceLeDiff, Nat.reduceLT, Int.reduceLT, Int.reduceLE, Int.reduceEq, Int.reduceNeg, Int.reduceToNat, Nat.reducePow, reduceIte, reduceCtorEq, h1])
    | ((with_reducible first | refine x_guard_no ?hy ?_ | refine x_cond_true ?hy ?_); case hy => rfl)
    | ((with_reducible first | refine x_guard_none ?hy ?_ | refine x_cond_false ?hy ?_); case hy => rfl)
    | ((with_reducible refine block_exit_ne ?hy ?_); case hy => decide))
  exact hk
theorem new_bad {H : Heap} {n : Int} {K : Value → Heap → Prop} (hn : n < 0 ∨ 4096 < n) (hk : K (.tuple #[.pointer none, .int .i64 1]) H) : CallsH Try.prog 8 #[.int .i64 n] H K := by
  refine call8 (by simp) ?_
  simp only [Try.f8, Option.getD_some]
  by_cases h0 : n < 0
  · have e1 : (n < 0) = True := by simp [h0]
    repeat' (first
      | (with_reducible first | refine seq_normal ?_ | (refine hK _ _ ?_; clear hK K) | refine x_seq (fun K hK => ?_) | refine x_nil ?_ | refine x_block ?_ | refine x_skip ?_ | refine x_exit ?_ | refine x_ret ?_ | refine x_label ?_ | refine x_scope ?_ | (refine seq_ret ?_; clear hK K) | (refine seq_exit ?_; clear hK K) | refine block_normal ?_ | refine block_ret ?_ | refine block_exit ?_ | refine loop_exit ?_ | refine loop_ret ?_)
      | ((with_reducible refine x_reg_lit ?hq ?_); case hq => rfl)
      | ((first | (with_reducible first | refine x_op (fun K hK => ?_) | refine end_ret ?_ | refine end_normal ?_) | ((with_reducible refine x_guard_yes ?hy (fun K hK => ?_)); case hy => rfl)); simp only [go_sem, Int.cast_ofNat_Int, Nat.reduceEqDiff, Nat.reduceAdd, Nat.reduceMul, Nat.reduceLeDiff, Nat.reduceLT, Int.reduceLT, Int.reduceLE, Int.reduceEq, Int.reduceNeg, Int.reduceToNat, Nat.reducePow, reduceIte, reduceCtorEq, e1])
      | ((with_reducible first | refine x_guard_no ?hy ?_ | refine x_cond_true ?hy ?_); case hy => rfl)
      | ((with_reducible first | refine x_guard_none ?hy ?_ | refine x_cond_false ?hy ?_); case hy => rfl)
      | ((with_reducible refine block_exit_ne ?hy ?_); case hy => decide))
    exact hk
  · have e1 : (n < 0) = False := by simp [h0]
    have e2 : (4096 < n) = True := by simp; omega
    repeat' (first
      | (with_reducible first | refine seq_normal ?_ | (refine hK _ _ ?_; clear hK K) | refine x_seq (fun K hK => ?_) | refine x_nil ?_ | refine x_block ?_ | refine x_skip ?_ | refine x_exit ?_ | refine x_ret ?_ | refine x_label ?_ | refine x_scope ?_ | (refine seq_ret ?_; clear hK K) | (refine seq_exit ?_; clear hK K) | refine block_normal ?_ | refine block_ret ?_ | refine block_exit ?_ | refine loop_exit ?_ | refine loop_ret ?_)
      | ((with_reducible refine x_reg_lit ?hq ?_); case hq => rfl)
      | ((first | (with_reducible first | refine x_op (fun K hK => ?_) | refine end_ret ?_ | refine end_normal ?_) | ((with_reducible refine x_guard_yes ?hy (fun K hK => ?_)); case hy => rfl)); simp only [go_sem, Int.cast_ofNat_Int, Nat.reduceEqDiff, Nat.reduceAdd, Nat.reduceMul, Nat.reduceLeDiff, Nat.reduceLT, Int.reduceLT, Int.reduceLE, Int.reduceEq, Int.reduceNeg, Int.reduceToNat, Nat.reducePow, reduceIte, reduceCtorEq, e1, e2])
      | ((with_reducible first | refine x_guard_no ?hy ?_ | refine x_cond_true ?hy ?_); case hy => rfl)
      | ((with_reducible first | refine x_guard_none ?hy ?_ | refine x_cond_false ?hy ?_); case hy => rfl)
      | ((with_reducible refine block_exit_ne ?hy ?_); case hy => decide))
    exact hk
theorem new_ok {H : Heap} {n : Nat} {K : Value → Heap → Prop} (hn : n ≤ 4096) (hk : ∀ H' p g, ArAt H' p g 1 [.int .i64 0] (Ar.new n) → Fr (fun _ => False) H H' → H.size ≤ p → H.size ≤ g → K (.tuple #[.pointer (some ⟨p, 0, none⟩), .int .i64 0]) H') :
    CallsH Try.prog 8 #[.int .i64 n] H K := by
  refine call8 (by simp) ?_
  simp only [Try.f8, Option.getD_some]
  have e1 : ((n : Int) < 0) = False := by simp
  have e2 : (4096 < (n : Int)) = False := by simp; omega
  repeat' (first
    | (with_reducible first | refine seq_normal ?_ | (refine hK _ _ ?_; clear hK K) | refine x_seq (fun K hK => ?_) | refine x_nil ?_ | refine x_block ?_ | refine x_skip ?_ | refine x_exit ?_ | refine x_ret ?_ | refine x_label ?_ | refine x_scope ?_ | (refine seq_ret ?_; clear hK K) | (refine seq_exit ?_; clear hK K) | refine block_normal ?_ | refine block_ret ?_ | refine block_exit ?_ | refine loop_exit ?_ | refine loop_ret ?_)
    | ((with_reducible refine x_reg_lit ?hq ?_); case hq => rfl)
    | ((first | (with_reducible first | refine x_op (fun K hK => ?_) | refine end_ret ?_ | refine end_normal ?_) | ((with_reducible refine x_guard_yes ?hy (fun K hK => ?_)); case hy => rfl)); simp only [go_sem, Int.cast_ofNat_Int, Nat.reduceEqDiff, Nat.reduceAdd, Nat.reduceMul, Nat.reduceLeDiff, Nat.reduceLT, Int.reduceLT, Int.reduceLE, Int.reduceEq, Int.reduceNeg, Int.reduceToNat, Nat.reducePow, reduceIte, reduceCtorEq, e1, e2])
    | ((with_reducible first | refine x_guard_no ?hy ?_ | refine x_cond_true ?hy ?_); case hy => rfl)
    | ((with_reducible first | refine x_guard_none ?hy ?_ | refine x_cond_false ?hy ?_); case hy => rfl)
    | ((with_reducible refine block_exit_ne ?hy ?_); case hy => decide))
  refine hk _ _ H.size ⟨Ar.Ok.new hn, rfl, by simp, 1, [], Blk.new _ _ _, ?_, by simp [Ar.rows, Ar.new, slotC], by simp [Ar.new]⟩ (((Fr.refl _ _).push _).push _) (by simp) (Nat.le_refl _)
  exact (Blk.new H _ _).push _
theorem set_some {H : Heap} {p g : Nat} {A : Ar} {h : Nat} {v : Int} {u z : List Value} {K : Value → Heap → Prop} (hA : ArAt H p g 1 z A) (hg : A.get h = some u)
    (hk : ∀ H', ArAt H' p g 1 z (A.set h [.int .i64 v]) → Fr (· = g) H H' → K (.int .i64 0) H') : CallsH Try.prog 50 #[.pointer (some ⟨p, 0, none⟩), .int .i64 h, .int .i64 v] H K := by
  obtain ⟨c, rest, b1, b2, hl, hc⟩ := hA.at_
  have hh := Ar.get_some_lt hg
  have w0 := b2.okW (off_lt (j := 0) hA.zl hA.ok hh (by omega) rest)
  simp only [Nat.add_zero, Nat.reduceAdd] at w0
  refine call50 (by simp) ?_
  simp only [Try.f50, Option.getD_some]
  repeat' (first
    | (with_reducible first | refine seq_normal ?_ | (refine hK _ _ ?_; clear hK K) | refine x_seq (fun K hK => ?_) | refine x_nil ?_ | refine x_block ?_ | refine x_skip ?_ | refine x_exit ?_ | refine x_ret ?_ | refine x_label ?_ | refine x_scope ?_ | (refine seq_ret ?_; clear hK K) | (refine seq_exit ?_; clear hK K) | refine block_normal ?_ | refine block_ret ?_ | refine block_exit ?_ | refine loop_exit ?_ | refine loop_ret ?_)
    | ((with_reducible refine x_reg_lit ?hq ?_); case hq => rfl)
    | ((first | (with_reducible first | refine x_op (fun K hK => ?_) | refine end_ret ?_ | refine end_normal ?_) | ((with_reducible refine x_guard_yes ?hy (fun K hK => ?_)); case hy => rfl)); simp only [go_sem, Int.cast_ofNat_Int, Nat.reduceEqDiff, Nat.reduceAdd, Nat.reduceMul, Nat.reduceLeDiff, Nat.reduceLT, Int.reduceLT, Int.reduceLE, Int.reduceEq, Int.reduceNeg, Int.reduceToNat, Nat.reducePow, reduceIte, reduceCtorEq])
    | ((with_reducible first | refine x_guard_no ?hy ?_ | refine x_cond_true ?hy ?_); case hy => rfl)
    | ((with_reducible first | refine x_guard_none ?hy ?_ | refine x_cond_false ?hy ?_); case hy => rfl)
    | ((with_reducible refine block_exit_ne ?hy ?_); case hy => decide))
  refine at_some hA hg ?_
  repeat' (first
    | (with_reducible first | refine seq_normal ?_ | (refine hK _ _ ?_; clear hK K) | refine x_seq (fun K hK => ?_) | refine x_nil ?_ | refine x_block ?_ | refine x_skip ?_ | refine x_exit ?_ | refine x_ret ?_ | refine x_label ?_ | refine x_scope ?_ | (refine seq_ret ?_; clear hK K) | (refine seq_exit ?_; clear hK K) | refine block_normal ?_ | refine block_ret ?_ | refine block_exit ?_ | refine loop_exit ?_ | refine loop_ret ?_)
    | ((with_reducible refine x_reg_lit ?hq ?_); case hq => rfl)
    | ((first | (with_reducible first | refine x_op (fun K hK => ?_) | refine end_ret ?_ | refine end_normal ?_) | ((with_reducible refine x_guard_yes ?hy (fun K hK => ?_)); case hy => rfl)); simp only [go_sem, Int.cast_ofNat_Int, Nat.reduceEqDiff, Nat.reduceAdd, Nat.reduceMul, Nat.reduceLeDiff, Nat.reduceLT, Int.reduceLT, Int.reduceLE, Int.reduceEq, Int.reduceNeg, Int.reduceToNat, Nat.reducePow, reduceIte, reduceCtorEq, w0])
    | ((with_reducible first | refine x_guard_no ?hy ?_ | refine x_cond_true ?hy ?_); case hy => rfl)
    | ((with_reducible first | refine x_guard_none ?hy ?_ | refine x_cond_false ?hy ?_); case hy => rfl)
    | ((with_reducible refine block_exit_ne ?hy ?_); case hy => decide))
  have hul := hA.ok.len h u hg
  refine hk _ ⟨hA.ok.set hg rfl, hA.zl, hA.ne, c, rest, ?_, ?_, by simpa [Ar.set] using hl, by simpa [Ar.set] using hc⟩ ((Fr.refl (· = g) H).set (.inl rfl) _)
  · rw [Ar.many_set' hg, show (A.set h [(.int .i64 v : Value)]).vals.length = A.vals.length by simp [Ar.set]]
    exact b1.set_ne hA.ne _
  · have b3 := b2.set_same (h * 3) (.int .i64 v)
    have := row_set (Ar.rows_w hA.zl hA.ok) (j := 0) (Ar.rows_get hh) (by omega) (.int .i64 v) rest
    rw [hg] at this
    simp only [Nat.add_zero, Nat.reduceAdd] at this
    rw [this] at b3
    rw [rows_set _ hh]
    have e : (slotC z (some u) (nextOf A.free h)).set 0 (.int .i64 v) = [.int .i64 v] ++ [.bool true, .int .i64 0] := by
      match u, hul with
      | [_], _ => rfl
    rw [← e]
    exact b3
theorem set_none {H : Heap} {p g : Nat} {A : Ar} {i : Int} {v : Int} {z : List Value} {K : Value → Heap → Prop} (hA : ArAt H p g 1 z A) (hg : i < 1 ∨ A.get i.toNat = none)
    (hk : K (.int .i64 21) H) : CallsH Try.prog 50 #[.pointer (some ⟨p, 0, none⟩), .int .i64 i, .int .i64 v] H K := by
  refine call50 (by simp) ?_
  simp only [Try.f50, Option.getD_some]
  repeat' (first
    | (with_reducible first | refine seq_normal ?_ | (refine hK _ _ ?_; clear hK K) | refine x_seq (fun K hK => ?_) | refine x_nil ?_ | refine x_block ?_ | refine x_skip ?_ | refine x_exit ?_ | refine x_ret ?_ | refine x_label ?_ | refine x_scope ?_ | (refine seq_ret ?_; clear hK K) | (refine seq_exit ?_; clear hK K) | refine block_normal ?_ | refine block_ret ?_ | refine block_exit ?_ | refine loop_exit ?_ | refine loop_ret ?_)
    | ((with_reducible refine x_reg_lit ?hq ?_); case hq => rfl)
    | ((first | (with_reducible first | refine x_op (fun K hK => ?_) | refine end_ret ?_ | refine end_normal ?_) | ((with_reducible refine x_guard_yes ?hy (fun K hK => ?_)); case hy => rfl)); simp only [go_sem, Int.cast_ofNat_Int, Nat.reduceEqDiff, Nat.reduceAdd, Nat.reduceMul, Nat.reduceLeDiff, Nat.reduceLT, Int.reduceLT, Int.reduceLE, Int.reduceEq, Int.reduceNeg, Int.reduceToNat, Nat.reducePow, reduceIte, reduceCtorEq])
    | ((with_reducible first | refine x_guard_no ?hy ?_ | refine x_cond_true ?hy ?_); case hy => rfl)
    | ((with_reducible first | refine x_guard_none ?hy ?_ | refine x_cond_false ?hy ?_); case hy => rfl)
    | ((with_reducible refine block_exit_ne ?hy ?_); case hy => decide))
  refine at_none hA hg ?_
  repeat' (first
    | (with_reducible first | refine seq_normal ?_ | (refine hK _ _ ?_; clear hK K) | refine x_seq (fun K hK => ?_) | refine x_nil ?_ | refine x_block ?_ | refine x_skip ?_ | refine x_exit ?_ | refine x_ret ?_ | refine x_label ?_ | refine x_scope ?_ | (refine seq_ret ?_; clear hK K) | (refine seq_exit ?_; clear hK K) | refine block_normal ?_ | refine block_ret ?_ | refine block_exit ?_ | refine loop_exit ?_ | refine loop_ret ?_)
    | ((with_reducible refine x_reg_lit ?hq ?_); case hq => rfl)
    | ((first | (with_reducible first | refine x_op (fun K hK => ?_) | refine end_ret ?_ | refine end_normal ?_) | ((with_reducible refine x_guard_yes ?hy (fun K hK => ?_)); case hy => rfl)); simp only [go_sem, Int.cast_ofNat_Int, Nat.reduceEqDiff, Nat.reduceAdd, Nat.reduceMul, Nat.reduceLeDiff, Nat.reduceLT, Int.reduceLT, Int.reduceLE, Int.reduceEq, Int.reduceNeg, Int.reduceToNat, Nat.reducePow, reduceIte, reduceCtorEq])
    | ((with_reducible first | refine x_guard_no ?hy ?_ | refine x_cond_true ?hy ?_); case hy => rfl)
    | ((with_reducible first | refine x_guard_none ?hy ?_ | refine x_cond_false ?hy ?_); case hy => rfl)
    | ((with_reducible refine block_exit_ne ?hy ?_); case hy => decide))
  exact hk
theorem drop_none {H : Heap} {p g : Nat} {A : Ar} {i : Int} {z : List Value} {K : Value → Heap → Prop} (hA : ArAt H p g 1 z A) (hg : i < 1 ∨ A.get i.toNat = none)
    (hk : K (.int .i64 21) H) : CallsH Try.prog 10 #[.pointer (some ⟨p, 0, none⟩), .int .i64 i] H K := by
  refine call10 (by simp) ?_
  simp only [Try.f10, Option.getD_some]
  repeat' (first
    | (with_reducible first | refine seq_normal ?_ | (refine hK _ _ ?_; clear hK K) | refine x_seq (fun K hK => ?_) | refine x_nil ?_ | refine x_block ?_ | refine x_skip ?_ | refine x_exit ?_ | refine x_ret ?_ | refine x_label ?_ | refine x_scope ?_ | (refine seq_ret ?_; clear hK K) | (refine seq_exit ?_; clear hK K) | refine block_normal ?_ | refine block_ret ?_ | refine block_exit ?_ | refine loop_exit ?_ | refine loop_ret ?_)
    | ((with_reducible refine x_reg_lit ?hq ?_); case hq => rfl)
    | ((first | (with_reducible first | refine x_op (fun K hK => ?_) | refine end_ret ?_ | refine end_normal ?_) | ((with_reducible refine x_guard_yes ?hy (fun K hK => ?_)); case hy => rfl)); simp only [go_sem, Int.cast_ofNat_Int, Nat.reduceEqDiff, Nat.reduceAdd, Nat.reduceMul, Nat.reduceLeDiff, Nat.reduceLT, Int.reduceLT, Int.reduceLE, Int.reduceEq, Int.reduceNeg, Int.reduceToNat, Nat.reducePow, reduceIte, reduceCtorEq])
    | ((with_reducible first | refine x_guard_no ?hy ?_ | refine x_cond_true ?hy ?_); case hy => rfl)
    | ((with_reducible first | refine x_guard_none ?hy ?_ | refine x_cond_false ?hy ?_); case hy => rfl)
    | ((with_reducible refine block_exit_ne ?hy ?_); case hy => decide))
  refine at_none hA hg ?_
  repeat' (first
    | (with_reducible first | refine seq_normal ?_ | (refine hK _ _ ?_; clear hK K) | refine x_seq (fun K hK => ?_) | refine x_nil ?_ | refine x_block ?_ | refine x_skip ?_ | refine x_exit ?_ | refine x_ret ?_ | refine x_label ?_ | refine x_scope ?_ | (refine seq_ret ?_; clear hK K) | (refine seq_exit ?_; clear hK K) | refine block_normal ?_ | refine block_ret ?_ | refine block_exit ?_ | refine loop_exit ?_ | refine loop_ret ?_)
    | ((with_reducible refine x_reg_lit ?hq ?_); case hq => rfl)
    | ((first | (with_reducible first | refine x_op (fun K hK => ?_) | refine end_ret ?_ | refine end_normal ?_) | ((with_reducible refine x_guard_yes ?hy (fun K hK => ?_)); case hy => rfl)); simp only [go_sem, Int.cast_ofNat_Int, Nat.reduceEqDiff, Nat.reduceAdd, Nat.reduceMul, Nat.reduceLeDiff, Nat.reduceLT, Int.reduceLT, Int.reduceLE, Int.reduceEq, Int.reduceNeg, Int.reduceToNat, Nat.reducePow, reduceIte, reduceCtorEq])
    | ((with_reducible first | refine x_guard_no ?hy ?_ | refine x_cond_true ?hy ?_); case hy => rfl)
    | ((with_reducible first | refine x_guard_none ?hy ?_ | refine x_cond_false ?hy ?_); case hy => rfl)
    | ((with_reducible refine block_exit_ne ?hy ?_); case hy => decide))
  exact hk
theorem drop_some {H : Heap} {p g : Nat} {A : Ar} {h : Nat} {u : List Value} {K : Value → Heap → Prop} (hA : ArAt H p g 1 [.int .i64 0] A) (hg : A.get h = some u)
    (hk : ∀ H', ArAt H' p g 1 [.int .i64 0] (A.drop h) → Fr (fun b => b = g ∨ b = p) H H' → K (.int .i64 0) H') : CallsH Try.prog 10 #[.pointer (some ⟨p, 0, none⟩), .int .i64 h] H K := by
  obtain ⟨c, rest, b1, b2, hl, hc⟩ := hA.at_
  have hh := Ar.get_some_lt hg
  have w0 := b2.okW (off_lt (j := 0) hA.zl hA.ok hh (by omega) rest)
  have w1 := b2.okW (off_lt (j := 1) hA.zl hA.ok hh (by omega) rest)
  have w2 := b2.okW (off_lt (j := 2) hA.zl hA.ok hh (by omega) rest)
  simp only [Nat.add_zero, Nat.reduceAdd] at w0 w1 w2
  have h3 := b1.cellOf (i := 3) rfl
  have h1 := b1.cellOf (i := 1) rfl
  have v1 := b1.okW (i := 1) (by simp)
  have v3 := b1.okW (i := 3) (by simp)
  have ne := hA.ne
  have hmd := Ar.many_drop hg
  have hml := many_le' hA.ok
  have ew : IntKind.i64.wrap ((A.many : Int) - 1) = ((A.drop h).many : Nat) := by rw [← hmd, wrap_i64] <;> omega
  refine call10 (by simp) ?_
  simp only [Try.f10, Option.getD_some]
  repeat' (first
    | (with_reducible first | refine seq_normal ?_ | (refine hK _ _ ?_; clear hK K) | refine x_seq (fun K hK => ?_) | refine x_nil ?_ | refine x_block ?_ | refine x_skip ?_ | refine x_exit ?_ | refine x_ret ?_ | refine x_label ?_ | refine x_scope ?_ | (refine seq_ret ?_; clear hK K) | (refine seq_exit ?_; clear hK K) | refine block_normal ?_ | refine block_ret ?_ | refine block_exit ?_ | refine loop_exit ?_ | refine loop_ret ?_)
    | ((with_reducible refine x_reg_lit ?hq ?_); case hq => rfl)
    | ((first | (with_reducible first | refine x_op (fun K hK => ?_) | refine end_ret ?_ | refine end_normal ?_) | ((with_reducible refine x_guard_yes ?hy (fun K hK => ?_)); case hy => rfl)); simp only [go_sem, Int.cast_ofNat_Int, Nat.reduceEqDiff, Nat.reduceAdd, Nat.reduceMul, Nat.reduceLeDiff, Nat.reduceLT, Int.reduceLT, Int.reduceLE, Int.reduceEq, Int.reduceNeg, Int.reduceToNat, Nat.reducePow, reduceIte, reduceCtorEq])
    | ((with_reducible first | refine x_guard_no ?hy ?_ | refine x_cond_true ?hy ?_); case hy => rfl)
    | ((with_reducible first | refine x_guard_none ?hy ?_ | refine x_cond_false ?hy ?_); case hy => rfl)
    | ((with_reducible refine block_exit_ne ?hy ?_); case hy => decide))
  refine at_some hA hg ?_
  repeat' (first
    | (with_reducible first | refine seq_normal ?_ | (refine hK _ _ ?_; clear hK K) | refine x_seq (fun K hK => ?_) | refine x_nil ?_ | refine x_block ?_ | refine x_skip ?_ | refine x_exit ?_ | refine x_ret ?_ | refine x_label ?_ | refine x_scope ?_ | (refine seq_ret ?_; clear hK K) | (refine seq_exit ?_; clear hK K) | refine block_normal ?_ | refine block_ret ?_ | refine block_exit ?_ | refine loop_exit ?_ | refine loop_ret ?_)
    | ((with_reducible refine x_reg_lit ?hq ?_); case hq => rfl)
    | ((first | (with_reducible first | refine x_op (fun K hK => ?_) | refine end_ret ?_ | refine end_normal ?_) | ((with_reducible refine x_guard_yes ?hy (fun K hK => ?_)); case hy => rfl)); simp only [go_sem, Int.cast_ofNat_Int, Nat.reduceEqDiff, Nat.reduceAdd, Nat.reduceMul, Nat.reduceLeDiff, Nat.reduceLT, Int.reduceLT, Int.reduceLE, Int.reduceEq, Int.reduceNeg, Int.reduceToNat, Nat.reducePow, reduceIte, reduceCtorEq, h3, h1, w0, w1, w2, v1, v3, okW_hset, hcell_hset_ne, hcell_hset_off, ne, ew])
    | ((with_reducible first | refine x_guard_no ?hy ?_ | refine x_cond_true ?hy ?_); case hy => rfl)
    | ((with_reducible first | refine x_guard_none ?hy ?_ | refine x_cond_false ?hy ?_); case hy => rfl)
    | ((with_reducible refine block_exit_ne ?hy ?_); case hy => decide))
  refine hk _ ⟨hA.ok.drop hg, hA.zl, hA.ne, c, rest, ?_, ?_, by simpa [Ar.drop] using hl, by simpa [Ar.drop] using hc⟩ (by ((repeat (first | refine Fr.set ?_ (by simp) _ | refine Fr.push ?_ _)); exact Fr.refl _ _))
  · rw [show (A.drop h).vals.length = A.vals.length by simp [Ar.drop]]
    exact ((((b1.set_ne ne _).set_ne ne _).set_ne ne _).set_same 3 _).set_same 1 _
  · rw [rows_drop hh, List.singleton_append, ← rows3 (Ar.rows_w hA.zl hA.ok) (by rw [Ar.rows_length]; exact hh)]
    exact ((((b2.set_same _ _).set_same _ _).set_same _ _).set_ne (Ne.symm ne) _).set_ne (Ne.symm ne) _
theorem put_full {H : Heap} {p g : Nat} {A : Ar} {v : Int} {z : List Value} {K : Value → Heap → Prop} (hA : ArAt H p g 1 z A) (hf : A.many = A.room)
    (hk : K (.tuple #[.int .i64 0, .int .i64 20]) H) : CallsH Try.prog 9 #[.pointer (some ⟨p, 0, none⟩), .int .i64 v] H K := by
  obtain ⟨c, rest, b1, b2, hl, hc⟩ := hA.at_
  have h1 := b1.cellOf (i := 1) rfl
  have h0 := b1.cellOf (i := 0) rfl
  rw [← hf] at h0
  refine call9 (by simp) ?_
  simp only [Try.f9, Option.getD_some]
  repeat' (first
    | (with_reducible first | refine seq_normal ?_ | (refine hK _ _ ?_; clear hK K) | refine x_seq (fun K hK => ?_) | refine x_nil ?_ | refine x_block ?_ | refine x_skip ?_ | refine x_exit ?_ | refine x_ret ?_ | refine x_label ?_ | refine x_scope ?_ | (refine seq_ret ?_; clear hK K) | (refine seq_exit ?_; clear hK K) | refine block_normal ?_ | refine block_ret ?_ | refine block_exit ?_ | refine loop_exit ?_ | refine loop_ret ?_)
    | ((with_reducible refine x_reg_lit ?hq ?_); case hq => rfl)
    | ((first | (with_reducible first | refine x_op (fun K hK => ?_) | refine end_ret ?_ | refine end_normal ?_) | ((with_reducible refine x_guard_yes ?hy (fun K hK => ?_)); case hy => rfl)); simp only [go_sem, Int.cast_ofNat_Int, Nat.reduceEqDiff, Nat.reduceAdd, Nat.reduceMul, Nat.reduceLeDiff, Nat.reduceLT, Int.reduceLT, Int.reduceLE, Int.reduceEq, Int.reduceNeg, Int.reduceToNat, Nat.reducePow, reduceIte, reduceCtorEq, h0, h1])
    | ((with_reducible first | refine x_guard_no ?hy ?_ | refine x_cond_true ?hy ?_); case hy => rfl)
    | ((with_reducible first | refine x_guard_none ?hy ?_ | refine x_cond_false ?hy ?_); case hy => rfl)
    | ((with_reducible refine block_exit_ne ?hy ?_); case hy => decide))
  exact hk
theorem put_old {H : Heap} {p g : Nat} {A : Ar} {h : Nat} {fs : List Nat} {v : Int} {z : List Value} {K : Value → Heap → Prop} (hA : ArAt H p g 1 z A) (hm : A.many < A.room) (hf : A.free = h :: fs)
    (hk : ∀ H', ArAt H' p g 1 z (A.putOld h [.int .i64 v]) → Fr (fun b => b = g ∨ b = p) H H' → K (.tuple #[.int .i64 h, .int .i64 0]) H') : CallsH Try.prog 9 #[.pointer (some ⟨p, 0, none⟩), .int .i64 v] H K := by
  obtain ⟨c, rest, b1, b2, hl, hc⟩ := hA.at_
  obtain ⟨hp, hh, hg⟩ := (hA.ok.mem h).1 (by rw [hf]; exact .head _)
  have w0 := b2.okW (off_lt (j := 0) hA.zl hA.ok hh (by omega) rest)
  have w1 := b2.okW (off_lt (j := 1) hA.zl hA.ok hh (by omega) rest)
  have w2 := b2.okW (off_lt (j := 2) hA.zl hA.ok hh (by omega) rest)
  have n2 := b2.cellOf (slot_next hA.ok hA.zl (rest := rest) hh hg)
  simp only [Nat.add_zero, Nat.reduceAdd] at w0 w1 w2 n2
  have h0 := b1.cellOf (i := 0) rfl
  have h1 := b1.cellOf (i := 1) rfl
  have h2 := b1.cellOf (i := 2) rfl
  have h3 := b1.cellOf (i := 3) rfl
  have v1 := b1.okW (i := 1) (by simp)
  have v3 := b1.okW (i := 3) (by simp)
  rw [hf] at h3 n2
  simp only [List.headD_cons] at h3
  have en : nextOf (h :: fs) h = fs.headD 0 := by simp [nextOf]
  rw [en] at n2
  have ne := hA.ne
  have ne' := Ne.symm hA.ne
  have hmp := Ar.many_putOld (v := [.int .i64 v]) hA.ok (show h ∈ A.free by rw [hf]; exact .head _)
  have hml := many_le' hA.ok
  have ew : IntKind.i64.wrap ((A.many : Int) + 1) = ((A.putOld h [.int .i64 v]).many : Nat) := by rw [hmp, wrap_i64] <;> omega
  have e1 : ((A.many : Int) == (A.room : Int)) = false := by simp; omega
  have e2 : ((h : Int) == 0) = false := by simp; omega
  refine call9 (by simp) ?_
  simp only [Try.f9, Option.getD_some]
  repeat' (first
    | (with_reducible first | refine seq_normal ?_ | (refine hK _ _ ?_; clear hK K) | refine x_seq (fun K hK => ?_) | refine x_nil ?_ | refine x_block ?_ | refine x_skip ?_ | refine x_exit ?_ | refine x_ret ?_ | refine x_label ?_ | refine x_scope ?_ | (refine seq_ret ?_; clear hK K) | (refine seq_exit ?_; clear hK K) | refine block_normal ?_ | refine block_ret ?_ | refine block_exit ?_ | refine loop_exit ?_ | refine loop_ret ?_)
    | ((with_reducible refine x_reg_lit ?hq ?_); case hq => rfl)
    | ((first | (with_reducible first | refine x_op (fun K hK => ?_) | refine end_ret ?_ | refine end_normal ?_) | ((with_reducible refine x_guard_yes ?hy (fun K hK => ?_)); case hy => rfl)); simp only [go_sem, Int.cast_ofNat_Int, Nat.reduceEqDiff, Nat.reduceAdd, Nat.reduceMul, Nat.reduceLeDiff, Nat.reduceLT, Int.reduceLT, Int.reduceLE, Int.reduceEq, Int.reduceNeg, Int.reduceToNat, Nat.reducePow, reduceIte, reduceCtorEq, h0, h1, h2, h3, n2, hh, w0, w1, w2, v1, v3, okW_hset, hcell_hset_ne, hcell_hset_off, ne, ne', ew, e1, e2])
    | ((with_reducible first | refine x_guard_no ?hy ?_ | refine x_cond_true ?hy ?_); case hy => rfl)
    | ((with_reducible first | refine x_guard_none ?hy ?_ | refine x_cond_false ?hy ?_); case hy => rfl)
    | ((with_reducible refine block_exit_ne ?hy ?_); case hy => decide))
  refine hk _ ⟨hA.ok.putOld hf hm rfl, hA.zl, hA.ne, c, rest, ?_, ?_, by simpa [Ar.putOld] using hl, by simpa [Ar.putOld] using hc⟩ (by ((repeat (first | refine Fr.set ?_ (by simp) _ | refine Fr.push ?_ _)); exact Fr.refl _ _))
  · rw [show (A.putOld h [(.int .i64 v : Value)]).vals.length = A.vals.length by simp [Ar.putOld], show (A.putOld h [(.int .i64 v : Value)]).free = fs by simp [Ar.putOld, hf]]
    exact (((((b1.set_same 1 _).set_same 3 _).set_ne ne _).set_ne ne _).set_ne ne _)
  · rw [rows_putOld _ hA.ok hf, List.singleton_append, ← rows3 (Ar.rows_w hA.zl hA.ok) (by rw [Ar.rows_length]; exact hh)]
    exact (((((b2.set_ne ne' _).set_ne ne' _).set_same _ _).set_same _ _).set_same _ _)
theorem put_new {H : Heap} {p g : Nat} {A : Ar} {v : Int} {K : Value → Heap → Prop} (hA : ArAt H p g 1 [.int .i64 0] A) (hm : A.many < A.room) (hf : A.free = [])
    (hk : ∀ H' g', ArAt H' p g' 1 [.int .i64 0] (A.putNew [.int .i64 v]) → Fr (fun b => b = g ∨ b = p) H H' → (g' = g ∨ H.size ≤ g') → K (.tuple #[.int .i64 A.vals.length, .int .i64 0]) H') : CallsH Try.prog 9 #[.pointer (some ⟨p, 0, none⟩), .int .i64 v] H K := by
  obtain ⟨c, rest, b1, b2, hl, hc⟩ := hA.at_
  have h0 := b1.cellOf (i := 0) rfl
  have h1 := b1.cellOf (i := 1) rfl
  have h2 := b1.cellOf (i := 2) rfl
  have h3 := b1.cellOf (i := 3) rfl
  have v1 := b1.okW (i := 1) (by simp)
  rw [hf] at h3
  simp only [List.headD_nil] at h3
  have ne := hA.ne
  have hmp : (A.putNew [.int .i64 v]).many = A.many + 1 := Ar.many_putNew
  have hml := many_le' hA.ok
  have ew : IntKind.i64.wrap ((A.many : Int) + 1) = ((A.putNew [.int .i64 v]).many : Nat) := by rw [hmp, wrap_i64] <;> omega
  have e1 : ((A.many : Int) == (A.room : Int)) = false := by simp; omega
  refine call9 (by simp) ?_
  simp only [Try.f9, Option.getD_some]
  repeat' (first
    | (with_reducible first | refine seq_normal ?_ | (refine hK _ _ ?_; clear hK K) | refine x_seq (fun K hK => ?_) | refine x_nil ?_ | refine x_block ?_ | refine x_skip ?_ | refine x_exit ?_ | refine x_ret ?_ | refine x_label ?_ | refine x_scope ?_ | (refine seq_ret ?_; clear hK K) | (refine seq_exit ?_; clear hK K) | refine block_normal ?_ | refine block_ret ?_ | refine block_exit ?_ | refine loop_exit ?_ | refine loop_ret ?_)
    | ((with_reducible refine x_reg_lit ?hq ?_); case hq => rfl)
    | ((first | (with_reducible first | refine x_op (fun K hK => ?_) | refine end_ret ?_ | refine end_normal ?_) | ((with_reducible refine x_guard_yes ?hy (fun K hK => ?_)); case hy => rfl)); simp only [go_sem, Int.cast_ofNat_Int, Nat.reduceEqDiff, Nat.reduceAdd, Nat.reduceMul, Nat.reduceLeDiff, Nat.reduceLT, Int.reduceLT, Int.reduceLE, Int.reduceEq, Int.reduceNeg, Int.reduceToNat, Nat.reducePow, reduceIte, reduceCtorEq, h0, h1, h2, h3, v1, okW_hset, hcell_hset_ne, hcell_hset_off, ne, ew, e1])
    | ((with_reducible first | refine x_guard_no ?hy ?_ | refine x_cond_true ?hy ?_); case hy => rfl)
    | ((with_reducible first | refine x_guard_none ?hy ?_ | refine x_cond_false ?hy ?_); case hy => rfl)
    | ((with_reducible refine block_exit_ne ?hy ?_); case hy => decide))
  have hcf := Ar.count_free A hA.ok
  rw [hf, List.length_nil] at hcf
  have hfl := flat_length (Ar.rows_w hA.zl hA.ok)
  rw [Ar.rows_length] at hfl
  generalize hH1 : hset H ⟨p, 1, none⟩ (.int .i64 ((A.putNew [.int .i64 v]).many : Nat)) = H1
  have hs1 : H1.size = H.size := by rw [← hH1, hset_size]
  have b1' : Blk H1 p [.int .i64 A.room, .int .i64 (A.putNew [.int .i64 v]).many, .slice (some ⟨g, 0, none⟩) A.vals.length c, .int .i64 (A.free.headD 0 : Nat)] := by rw [← hH1]; exact b1.set_same 1 _
  have b2' : Blk H1 g ((A.rows [.int .i64 0]).flatten ++ rest) := by rw [← hH1]; exact b2.set_ne (Ne.symm ne) _
  have f1 : Fr (fun b => b = g ∨ b = p) H H1 := by rw [← hH1]; exact (by ((repeat (first | refine Fr.set ?_ (by simp) _ | refine Fr.push ?_ _)); exact Fr.refl _ _))
  clear hH1
  refine append_row elems68 tl72 (b2'.push _) hfl hl hc (readL_blk (Blk.new H1 [.int .i64 v, .bool true, .int .i64 0] _) 3 0 0 (by simp)) (by simp [plainVal]) (by decide) (by simp only []; omega) rfl rfl ?_
  intro H2 g' c' rest' hb2 hl2 hc2 hf2 hg2
  have hpl := b1.lt
  have hgl := b2.lt
  have b1n : Blk H2 p _ := (b1'.push _).frame hf2 (by simpa using ne)
  have h2n := b1n.cellOf (i := 2) rfl
  have w2n := b1n.okW (i := 2) (by simp)
  have ne2 : p ≠ g' := by
    rcases hg2 with rfl | h
    · exact ne
    · simp at h; omega
  repeat' (first
    | (with_reducible first | refine seq_normal ?_ | (refine hK _ _ ?_; clear hK K) | refine x_seq (fun K hK => ?_) | refine x_nil ?_ | refine x_block ?_ | refine x_skip ?_ | refine x_exit ?_ | refine x_ret ?_ | refine x_label ?_ | refine x_scope ?_ | (refine seq_ret ?_; clear hK K) | (refine seq_exit ?_; clear hK K) | refine block_normal ?_ | refine block_ret ?_ | refine block_exit ?_ | refine loop_exit ?_ | refine loop_ret ?_)
    | ((with_reducible refine x_reg_lit ?hq ?_); case hq => rfl)
    | ((first | (with_reducible first | refine x_op (fun K hK => ?_) | refine end_ret ?_ | refine end_normal ?_) | ((with_reducible refine x_guard_yes ?hy (fun K hK => ?_)); case hy => rfl)); simp only [go_sem, Int.cast_ofNat_Int, Nat.reduceEqDiff, Nat.reduceAdd, Nat.reduceMul, Nat.reduceLeDiff, Nat.reduceLT, Int.reduceLT, Int.reduceLE, Int.reduceEq, Int.reduceNeg, Int.reduceToNat, Nat.reducePow, reduceIte, reduceCtorEq, w2n, hcell_hset_same h2n])
    | ((with_reducible first | refine x_guard_no ?hy ?_ | refine x_cond_true ?hy ?_); case hy => rfl)
    | ((with_reducible first | refine x_guard_none ?hy ?_ | refine x_cond_false ?hy ?_); case hy => rfl)
    | ((with_reducible refine block_exit_ne ?hy ?_); case hy => decide))
  rw [show IntKind.i64.wrap (((A.vals.length + 1 : Nat) : Int) - 1) = (A.vals.length : Int) by rw [wrap_i64] <;> omega]
  have hlen : (A.putNew [(.int .i64 v : Value)]).vals.length = A.vals.length + 1 := by simp [Ar.putNew]
  have hs2 := hf2.size
  simp only [Array.size_push] at hs2 hg2
  refine hk _ g' ⟨hA.ok.putNew hf hm rfl, hA.zl, ne2, c', rest', ?_, ?_, by rw [hlen]; exact hl2, by rw [hlen]; exact hc2⟩ ?_ ?_
  · rw [hlen]
    exact b1n.set_same 2 _
  · rw [Ar.rows_putNew, List.flatten_append]
    have := hb2.set_ne (a := ⟨p, 2, none⟩) (Ne.symm ne2) (.slice (some ⟨g', 0, none⟩) (A.vals.length + 1) c')
    simpa [slotC] using this
  · refine (f1.trans' (hf2.trans' (S := (· = g)) (Fr.refl _ _) (fun _ _ h => h) |> fun x => ((Fr.refl (· = g) H1).push _).trans x) fun b _ h => .inl h).set (.inl (.inr rfl)) _
  · rcases hg2 with h | h
    · exact .inl h
    · right; omega
end Go.Proofs.Ytkfcbgnodjgdcaa.ArInt
