/-
  The document's arena: Put and Drop.
-/
import Derived.Test.YtkfcbgnodjgdcaaRfA
namespace Go.Hp
open Go
set_option linter.unusedVariables false
theorem IR.cut {H : Heap} {g n c : Nat} {xs ys : List Int} (h : IR H (some g) (.slice (some ⟨g, 0, none⟩) n c) (xs ++ ys)) : IR H (some g) (.slice (some ⟨g, 0, none⟩) xs.length c) xs := by
  obtain ⟨_, h | ⟨g', c', rest, h1, h2, h3, h4, h5⟩⟩ := h
  · cases h.1
  · obtain rfl := Option.some.inj h1
    simp only [Value.slice.injEq] at h2
    obtain ⟨_, rfl, rfl⟩ := h2
    refine ⟨by simp, .inr ⟨g, c, ys.map (Value.int .i64) ++ rest, rfl, rfl, ?_, ?_, ?_⟩⟩
    · rw [← List.append_assoc, ← List.map_append]; exact h3
    · rw [← List.append_assoc, ← List.map_append]; exact h4
    · simp at h5; omega
/-- What a Put of a free handle, of a new one and a Drop do. -/
def Rf.old (R : Rf) (h : Nat) : Rf := { R with used := R.used.set h true, free := R.free.dropLast }
def Rf.more (R : Rf) : Rf := { R with used := R.used ++ [true] }
def Rf.dropped (R : Rf) (h : Nat) : Rf := { R with used := R.used.set h false, free := R.free ++ [h] }
end Go.Hp
namespace Go.Proofs.Ytkfcbgnodjgdcaa
open Go Go.Hp
set_option linter.all false
set_option maxRecDepth 100000
set_option maxHeartbeats 1600000
section
variable {H : Heap} {p : Nat} {T : Nat → Prop} {R : Rf} {K : Value → Heap → Prop}
theorem rf_full (hM : RfM H p T R) (hc : R.room ≤ R.count) (fin : K (.tuple #[.int .i64 0, .int .i64 20]) H) : CallsH Try.prog 47 #[.pointer (some ⟨p, 0, none⟩)] H K := by
  have hM' := hM
  obtain ⟨BU, BF, vU, vF, h1, h2, h3, h4, h5, h6, h7⟩ := hM
  have c0 := h1.cellOf (i := 0) rfl
  have e1 : ((R.room : Int) ≤ (R.count : Int)) = True := by simp; omega
  refine call47 (by simp) ?_
  simp only [Try.f47, Option.getD_some]
  repeat' (first
    | (with_reducible first | refine seq_normal ?_ | (refine hK _ _ ?_; clear hK K) | refine x_seq (fun K hK => ?_) | refine x_nil ?_ | refine x_block ?_ | refine x_skip ?_ | refine x_exit ?_ | refine x_ret ?_ | refine x_label ?_ | refine x_scope ?_ | (refine seq_ret ?_; clear hK K) | (refine seq_exit ?_; clear hK K) | refine block_normal ?_ | refine block_ret ?_ | refine block_exit ?_ | refine loop_exit ?_ | refine loop_ret ?_)
    | ((with_reducible refine x_reg_lit ?hq ?_); case hq => rfl)
    | ((first | (with_reducible first | refine x_op (fun K hK => ?_) | refine end_ret ?_ | refine end_normal ?_) | ((with_reducible refine x_guard_yes ?hy (fun K hK => ?_)); case hy => rfl)); simp only [go_sem, Int.cast_ofNat_Int, Nat.reduceEqDiff, Nat.reduceAdd, Nat.reduceMul, Nat.reduceLeDiff, Nat.reduceLT, Int.reduceLT, Int.reduceLE, Int.reduceEq, Int.reduceNeg, Int.reduceToNat, Nat.reducePow, reduceIte, reduceCtorEq])
    | ((with_reducible first | refine x_guard_no ?hy ?_ | refine x_cond_true ?hy ?_); case hy => rfl)
    | ((with_reducible first | refine x_guard_none ?hy ?_ | refine x_cond_false ?hy ?_); case hy => rfl)
    | ((with_reducible refine block_exit_ne ?hy ?_); case hy => decide))
  have q : Cells [(p, 0, .int .i64 R.room)] H := ⟨c0, trivial⟩
  refine x_drawS [] [0, 2, 3, 4, 5, 1, 6] rfl (by kernel_rfl) (Cells _) q ?_
  repeat' (first
    | (with_reducible refine xs_nil ?_)
    | ((with_reducible apply xs_rd); (case hi => rfl); (case hr => rfl); (case h1 => intro H' hS'; (try simp only [Cells, and_true] at hS'); simp only [go_sem, Int.cast_ofNat_Int, Nat.reduceEqDiff, Nat.reduceAdd, Nat.reduceMul, Nat.reduceLeDiff, Nat.reduceLT, Int.reduceLT, Int.reduceLE, Int.reduceEq, Int.reduceNeg, Int.reduceToNat, Nat.reducePow, reduceIte, reduceCtorEq, hS']; rfl))
    | ((with_reducible apply xs_guard_yes); (case hi => rfl); (case hr => rfl); (case hy => rfl); (case h1 => intro H' hS'; (try simp only [Cells, and_true] at hS'); simp only [go_sem, Int.cast_ofNat_Int, Nat.reduceEqDiff, Nat.reduceAdd, Nat.reduceMul, Nat.reduceLeDiff, Nat.reduceLT, Int.reduceLT, Int.reduceLE, Int.reduceEq, Int.reduceNeg, Int.reduceToNat, Nat.reducePow, reduceIte, reduceCtorEq, hS']; rfl))
    | ((with_reducible refine xs_tail ?hz ?_); case hz => rfl)
    | ((with_reducible refine xs_keep ?hz ?_); case hz => first | assumption | (simp only [go_sem, Int.cast_ofNat_Int, Nat.reduceEqDiff, Nat.reduceAdd, Nat.reduceMul, Nat.reduceLeDiff, Nat.reduceLT, Int.reduceLT, Int.reduceLE, Int.reduceEq, Int.reduceNeg, Int.reduceToNat, Nat.reducePow, reduceIte, reduceCtorEq, Cells, and_true]))
    | ((with_reducible apply xs_guard_no); (case hi => rfl); (case hy => rfl); (case hS => assumption))
    | ((first | ((with_reducible apply xs_op); (case hi => rfl)) | ((with_reducible apply xs_op_yes); (case hi => rfl); (case hy => rfl))); (case hr => rfl); intro K hK; simp only [go_sem, Int.cast_ofNat_Int, Nat.reduceEqDiff, Nat.reduceAdd, Nat.reduceMul, Nat.reduceLeDiff, Nat.reduceLT, Int.reduceLT, Int.reduceLE, Int.reduceEq, Int.reduceNeg, Int.reduceToNat, Nat.reducePow, reduceIte, reduceCtorEq])
    | (with_reducible first | refine seq_normal ?_ | (refine hK _ _ ?_; clear hK K) | refine x_seq (fun K hK => ?_) | refine x_nil ?_ | refine x_block ?_ | refine x_skip ?_ | refine x_exit ?_ | refine x_ret ?_ | refine x_label ?_ | refine x_scope ?_ | (refine seq_ret ?_; clear hK K) | (refine seq_exit ?_; clear hK K) | refine block_normal ?_ | refine block_ret ?_ | refine block_exit ?_ | refine loop_exit ?_ | refine loop_ret ?_)
    | ((with_reducible refine x_reg_lit ?hq ?_); case hq => rfl)
    | ((first | (with_reducible first | refine x_op (fun K hK => ?_) | refine end_ret ?_ | refine end_normal ?_) | ((with_reducible refine x_guard_yes ?hy (fun K hK => ?_)); case hy => rfl)); simp only [go_sem, Int.cast_ofNat_Int, Nat.reduceEqDiff, Nat.reduceAdd, Nat.reduceMul, Nat.reduceLeDiff, Nat.reduceLT, Int.reduceLT, Int.reduceLE, Int.reduceEq, Int.reduceNeg, Int.reduceToNat, Nat.reducePow, reduceIte, reduceCtorEq])
    | ((with_reducible first | refine x_guard_no ?hy ?_ | refine x_cond_true ?hy ?_); case hy => rfl)
    | ((with_reducible first | refine x_guard_none ?hy ?_ | refine x_cond_false ?hy ?_); case hy => rfl)
    | ((with_reducible refine block_exit_ne ?hy ?_); case hy => decide))
  refine rf_len hM' ?_
  repeat' (first
    | (with_reducible refine xs_nil ?_)
    | ((with_reducible apply xs_rd); (case hi => rfl); (case hr => rfl); (case h1 => intro H' hS'; (try simp only [Cells, and_true] at hS'); simp only [go_sem, Int.cast_ofNat_Int, Nat.reduceEqDiff, Nat.reduceAdd, Nat.reduceMul, Nat.reduceLeDiff, Nat.reduceLT, Int.reduceLT, Int.reduceLE, Int.reduceEq, Int.reduceNeg, Int.reduceToNat, Nat.reducePow, reduceIte, reduceCtorEq, e1, q, hS']; rfl))
    | ((with_reducible apply xs_guard_yes); (case hi => rfl); (case hr => rfl); (case hy => rfl); (case h1 => intro H' hS'; (try simp only [Cells, and_true] at hS'); simp only [go_sem, Int.cast_ofNat_Int, Nat.reduceEqDiff, Nat.reduceAdd, Nat.reduceMul, Nat.reduceLeDiff, Nat.reduceLT, Int.reduceLT, Int.reduceLE, Int.reduceEq, Int.reduceNeg, Int.reduceToNat, Nat.reducePow, reduceIte, reduceCtorEq, e1, q, hS']; rfl))
    | ((with_reducible refine xs_tail ?hz ?_); case hz => rfl)
    | ((with_reducible refine xs_keep ?hz ?_); case hz => first | assumption | (simp only [go_sem, Int.cast_ofNat_Int, Nat.reduceEqDiff, Nat.reduceAdd, Nat.reduceMul, Nat.reduceLeDiff, Nat.reduceLT, Int.reduceLT, Int.reduceLE, Int.reduceEq, Int.reduceNeg, Int.reduceToNat, Nat.reducePow, reduceIte, reduceCtorEq, Cells, and_true, e1, q]))
    | ((with_reducible apply xs_guard_no); (case hi => rfl); (case hy => rfl); (case hS => assumption))
    | ((first | ((with_reducible apply xs_op); (case hi => rfl)) | ((with_reducible apply xs_op_yes); (case hi => rfl); (case hy => rfl))); (case hr => rfl); intro K hK; simp only [go_sem, Int.cast_ofNat_Int, Nat.reduceEqDiff, Nat.reduceAdd, Nat.reduceMul, Nat.reduceLeDiff, Nat.reduceLT, Int.reduceLT, Int.reduceLE, Int.reduceEq, Int.reduceNeg, Int.reduceToNat, Nat.reducePow, reduceIte, reduceCtorEq, e1, q])
    | (with_reducible first | refine seq_normal ?_ | (refine hK _ _ ?_; clear hK K) | refine x_seq (fun K hK => ?_) | refine x_nil ?_ | refine x_block ?_ | refine x_skip ?_ | refine x_exit ?_ | refine x_ret ?_ | refine x_label ?_ | refine x_scope ?_ | (refine seq_ret ?_; clear hK K) | (refine seq_exit ?_; clear hK K) | refine block_normal ?_ | refine block_ret ?_ | refine block_exit ?_ | refine loop_exit ?_ | refine loop_ret ?_)
    | ((with_reducible refine x_reg_lit ?hq ?_); case hq => rfl)
    | ((first | (with_reducible first | refine x_op (fun K hK => ?_) | refine end_ret ?_ | refine end_normal ?_) | ((with_reducible refine x_guard_yes ?hy (fun K hK => ?_)); case hy => rfl)); simp only [go_sem, Int.cast_ofNat_Int, Nat.reduceEqDiff, Nat.reduceAdd, Nat.reduceMul, Nat.reduceLeDiff, Nat.reduceLT, Int.reduceLT, Int.reduceLE, Int.reduceEq, Int.reduceNeg, Int.reduceToNat, Nat.reducePow, reduceIte, reduceCtorEq, e1, q])
    | ((with_reducible first | refine x_guard_no ?hy ?_ | refine x_cond_true ?hy ?_); case hy => rfl)
    | ((with_reducible first | refine x_guard_none ?hy ?_ | refine x_cond_false ?hy ?_); case hy => rfl)
    | ((with_reducible refine block_exit_ne ?hy ?_); case hy => decide))
  exact fin
theorem rf_old {fs : List Nat} {h : Nat} (hM : RfM H p T R) (hc : R.count < R.room) (hf : R.free = fs ++ [h]) (fin : ∀ H', RfM H' p T (R.old h) → Fr T H H' → K (.tuple #[.int .i64 (h : Nat), .int .i64 0]) H') :
    CallsH Try.prog 47 #[.pointer (some ⟨p, 0, none⟩)] H K := by
  have hM' := hM
  obtain ⟨BU, BF, vU, vF, h1, h2, h3, h4, ⟨hn1, hn2, hn3⟩, ⟨ht1, ht2, ht3⟩, h7⟩ := hM
  obtain ⟨room, used, free⟩ := R
  simp only at hf h1 h2 h3 hc
  subst hf
  obtain ⟨gU, cU, rfl, rfl, hcU⟩ := h2.open h4.ne
  rw [List.map_append] at h3
  obtain ⟨gF, cF, rest, rfl, rfl, _, _, hcF⟩ := h3.row (by simp)
  simp only [List.length_append, List.length_map, List.length_cons, List.length_nil, Nat.zero_add] at h1 h3 hcF
  have c0 := h1.cellOf (i := 0) rfl
  have c1 := h1.cellOf (i := 1) rfl
  have c2 := h1.cellOf (i := 2) rfl
  have w2 := h1.okW (i := 2) (by simp)
  have hh := h4.free h (by simp)
  simp only at hh
  have cf : hcell H ⟨gF, fs.length, none⟩ = some (.int .i64 (h : Nat)) := h3.cell (by simp)
  obtain ⟨wU, h2'⟩ := h2.write hh.2 true
  have hfl := h4.flen
  simp only [List.length_append, List.length_cons, List.length_nil] at hfl
  have ew : IntKind.i64.wrap (((fs.length + 1 : Nat) : Int) - 1) = (fs.length : Nat) := by rw [wrap_i64] <;> omega
  have ew' : IntKind.i64.wrap ((fs.length : Int) + 1 - 1) = (fs.length : Nat) := by rw [wrap_i64] <;> omega
  have e0 : ((room : Int) ≤ ((Rf.count ⟨room, used, fs ++ [h]⟩ : Nat) : Int)) = False := by simp; omega
  have e0' : (room ≤ Rf.count ⟨room, used, fs ++ [h]⟩) = False := by simp; omega
  have l1 : (fs.length ≤ fs.length + 1) = True := by simp
  have l2 : (fs.length < fs.length + 1) = True := by simp
  have l3 : (fs.length ≤ cF) = True := by simp; omega
  have l4 : (0 < fs.length + 1) = True := by simp
  have l5 : ((0 : Int) < ((fs.length + 1 : Nat) : Int)) = True := by simp
  have l6 : ((0 : Int) < (fs.length : Int) + 1) = True := by simp
  have ne1 : p ≠ gU := fun e => hn1 (by rw [e])
  have ne2 : p ≠ gF := fun e => hn2 (by rw [e])
  refine call47 (by simp) ?_
  simp only [Try.f47, Option.getD_some]
  repeat' (first
    | (with_reducible first | refine seq_normal ?_ | (refine hK _ _ ?_; clear hK K) | refine x_seq (fun K hK => ?_) | refine x_nil ?_ | refine x_block ?_ | refine x_skip ?_ | refine x_exit ?_ | refine x_ret ?_ | refine x_label ?_ | refine x_scope ?_ | (refine seq_ret ?_; clear hK K) | (refine seq_exit ?_; clear hK K) | refine block_normal ?_ | refine block_ret ?_ | refine block_exit ?_ | refine loop_exit ?_ | refine loop_ret ?_)
    | ((with_reducible refine x_reg_lit ?hq ?_); case hq => rfl)
    | ((first | (with_reducible first | refine x_op (fun K hK => ?_) | refine end_ret ?_ | refine end_normal ?_) | ((with_reducible refine x_guard_yes ?hy (fun K hK => ?_)); case hy => rfl)); simp only [go_sem, Int.cast_ofNat_Int, Nat.reduceEqDiff, Nat.reduceAdd, Nat.reduceMul, Nat.reduceLeDiff, Nat.reduceLT, Int.reduceLT, Int.reduceLE, Int.reduceEq, Int.reduceNeg, Int.reduceToNat, Nat.reducePow, reduceIte, reduceCtorEq])
    | ((with_reducible first | refine x_guard_no ?hy ?_ | refine x_cond_true ?hy ?_); case hy => rfl)
    | ((with_reducible first | refine x_guard_none ?hy ?_ | refine x_cond_false ?hy ?_); case hy => rfl)
    | ((with_reducible refine block_exit_ne ?hy ?_); case hy => decide))
  have q : Cells [(p, 0, .int .i64 room)] H := ⟨c0, trivial⟩
  refine x_drawS [] [0, 2, 3, 4, 5, 1, 6] rfl (by kernel_rfl) (Cells _) q ?_
  repeat' (first
    | (with_reducible refine xs_nil ?_)
    | ((with_reducible apply xs_rd); (case hi => rfl); (case hr => rfl); (case h1 => intro H' hS'; (try simp only [Cells, and_true] at hS'); simp only [go_sem, Int.cast_ofNat_Int, Nat.reduceEqDiff, Nat.reduceAdd, Nat.reduceMul, Nat.reduceLeDiff, Nat.reduceLT, Int.reduceLT, Int.reduceLE, Int.reduceEq, Int.reduceNeg, Int.reduceToNat, Nat.reducePow, reduceIte, reduceCtorEq, hS']; rfl))
    | ((with_reducible apply xs_guard_yes); (case hi => rfl); (case hr => rfl); (case hy => rfl); (case h1 => intro H' hS'; (try simp only [Cells, and_true] at hS'); simp only [go_sem, Int.cast_ofNat_Int, Nat.reduceEqDiff, Nat.reduceAdd, Nat.reduceMul, Nat.reduceLeDiff, Nat.reduceLT, Int.reduceLT, Int.reduceLE, Int.reduceEq, Int.reduceNeg, Int.reduceToNat, Nat.reducePow, reduceIte, reduceCtorEq, hS']; rfl))
    | ((with_reducible refine xs_tail ?hz ?_); case hz => rfl)
    | ((with_reducible refine xs_keep ?hz ?_); case hz => first | assumption | (simp only [go_sem, Int.cast_ofNat_Int, Nat.reduceEqDiff, Nat.reduceAdd, Nat.reduceMul, Nat.reduceLeDiff, Nat.reduceLT, Int.reduceLT, Int.reduceLE, Int.reduceEq, Int.reduceNeg, Int.reduceToNat, Nat.reducePow, reduceIte, reduceCtorEq, Cells, and_true]))
    | ((with_reducible apply xs_guard_no); (case hi => rfl); (case hy => rfl); (case hS => assumption))
    | ((first | ((with_reducible apply xs_op); (case hi => rfl)) | ((with_reducible apply xs_op_yes); (case hi => rfl); (case hy => rfl))); (case hr => rfl); intro K hK; simp only [go_sem, Int.cast_ofNat_Int, Nat.reduceEqDiff, Nat.reduceAdd, Nat.reduceMul, Nat.reduceLeDiff, Nat.reduceLT, Int.reduceLT, Int.reduceLE, Int.reduceEq, Int.reduceNeg, Int.reduceToNat, Nat.reducePow, reduceIte, reduceCtorEq])
    | (with_reducible first | refine seq_normal ?_ | (refine hK _ _ ?_; clear hK K) | refine x_seq (fun K hK => ?_) | refine x_nil ?_ | refine x_block ?_ | refine x_skip ?_ | refine x_exit ?_ | refine x_ret ?_ | refine x_label ?_ | refine x_scope ?_ | (refine seq_ret ?_; clear hK K) | (refine seq_exit ?_; clear hK K) | refine block_normal ?_ | refine block_ret ?_ | refine block_exit ?_ | refine loop_exit ?_ | refine loop_ret ?_)
    | ((with_reducible refine x_reg_lit ?hq ?_); case hq => rfl)
    | ((first | (with_reducible first | refine x_op (fun K hK => ?_) | refine end_ret ?_ | refine end_normal ?_) | ((with_reducible refine x_guard_yes ?hy (fun K hK => ?_)); case hy => rfl)); simp only [go_sem, Int.cast_ofNat_Int, Nat.reduceEqDiff, Nat.reduceAdd, Nat.reduceMul, Nat.reduceLeDiff, Nat.reduceLT, Int.reduceLT, Int.reduceLE, Int.reduceEq, Int.reduceNeg, Int.reduceToNat, Nat.reducePow, reduceIte, reduceCtorEq])
    | ((with_reducible first | refine x_guard_no ?hy ?_ | refine x_cond_true ?hy ?_); case hy => rfl)
    | ((with_reducible first | refine x_guard_none ?hy ?_ | refine x_cond_false ?hy ?_); case hy => rfl)
    | ((with_reducible refine block_exit_ne ?hy ?_); case hy => decide))
  refine rf_len hM' ?_
  repeat' (first
    | (with_reducible refine xs_nil ?_)
    | ((with_reducible apply xs_rd); (case hi => rfl); (case hr => rfl); (case h1 => intro H' hS'; (try simp only [Cells, and_true] at hS'); simp only [go_sem, Int.cast_ofNat_Int, Nat.reduceEqDiff, Nat.reduceAdd, Nat.reduceMul, Nat.reduceLeDiff, Nat.reduceLT, Int.reduceLT, Int.reduceLE, Int.reduceEq, Int.reduceNeg, Int.reduceToNat, Nat.reducePow, reduceIte, reduceCtorEq, e0, q, hS']; rfl))
    | ((with_reducible apply xs_guard_yes); (case hi => rfl); (case hr => rfl); (case hy => rfl); (case h1 => intro H' hS'; (try simp only [Cells, and_true] at hS'); simp only [go_sem, Int.cast_ofNat_Int, Nat.reduceEqDiff, Nat.reduceAdd, Nat.reduceMul, Nat.reduceLeDiff, Nat.reduceLT, Int.reduceLT, Int.reduceLE, Int.reduceEq, Int.reduceNeg, Int.reduceToNat, Nat.reducePow, reduceIte, reduceCtorEq, e0, q, hS']; rfl))
    | ((with_reducible refine xs_tail ?hz ?_); case hz => rfl)
    | ((with_reducible refine xs_keep ?hz ?_); case hz => first | assumption | (simp only [go_sem, Int.cast_ofNat_Int, Nat.reduceEqDiff, Nat.reduceAdd, Nat.reduceMul, Nat.reduceLeDiff, Nat.reduceLT, Int.reduceLT, Int.reduceLE, Int.reduceEq, Int.reduceNeg, Int.reduceToNat, Nat.reducePow, reduceIte, reduceCtorEq, Cells, and_true, e0, q]))
    | ((with_reducible apply xs_guard_no); (case hi => rfl); (case hy => rfl); (case hS => assumption))
    | ((first | ((with_reducible apply xs_op); (case hi => rfl)) | ((with_reducible apply xs_op_yes); (case hi => rfl); (case hy => rfl))); (case hr => rfl); intro K hK; simp only [go_sem, Int.cast_ofNat_Int, Nat.reduceEqDiff, Nat.reduceAdd, Nat.reduceMul, Nat.reduceLeDiff, Nat.reduceLT, Int.reduceLT, Int.reduceLE, Int.reduceEq, Int.reduceNeg, Int.reduceToNat, Nat.reducePow, reduceIte, reduceCtorEq, e0, q])
    | (with_reducible first | refine seq_normal ?_ | (refine hK _ _ ?_; clear hK K) | refine x_seq (fun K hK => ?_) | refine x_nil ?_ | refine x_block ?_ | refine x_skip ?_ | refine x_exit ?_ | refine x_ret ?_ | refine x_label ?_ | refine x_scope ?_ | (refine seq_ret ?_; clear hK K) | (refine seq_exit ?_; clear hK K) | refine block_normal ?_ | refine block_ret ?_ | refine block_exit ?_ | refine loop_exit ?_ | refine loop_ret ?_)
    | ((with_reducible refine x_reg_lit ?hq ?_); case hq => rfl)
    | ((first | (with_reducible first | refine x_op (fun K hK => ?_) | refine end_ret ?_ | refine end_normal ?_) | ((with_reducible refine x_guard_yes ?hy (fun K hK => ?_)); case hy => rfl)); simp only [go_sem, Int.cast_ofNat_Int, Nat.reduceEqDiff, Nat.reduceAdd, Nat.reduceMul, Nat.reduceLeDiff, Nat.reduceLT, Int.reduceLT, Int.reduceLE, Int.reduceEq, Int.reduceNeg, Int.reduceToNat, Nat.reducePow, reduceIte, reduceCtorEq, e0, q])
    | ((with_reducible first | refine x_guard_no ?hy ?_ | refine x_cond_true ?hy ?_); case hy => rfl)
    | ((with_reducible first | refine x_guard_none ?hy ?_ | refine x_cond_false ?hy ?_); case hy => rfl)
    | ((with_reducible refine block_exit_ne ?hy ?_); case hy => decide))
  repeat' (first
    | (with_reducible first | refine seq_normal ?_ | (refine hK _ _ ?_; clear hK K) | refine x_seq (fun K hK => ?_) | refine x_nil ?_ | refine x_block ?_ | refine x_skip ?_ | refine x_exit ?_ | refine x_ret ?_ | refine x_label ?_ | refine x_scope ?_ | (refine seq_ret ?_; clear hK K) | (refine seq_exit ?_; clear hK K) | refine block_normal ?_ | refine block_ret ?_ | refine block_exit ?_ | refine loop_exit ?_ | refine loop_ret ?_)
    | ((with_reducible refine x_reg_lit ?hq ?_); case hq => rfl)
    | ((first | (with_reducible first | refine x_op (fun K hK => ?_) | refine end_ret ?_ | refine end_normal ?_) | ((with_reducible refine x_guard_yes ?hy (fun K hK => ?_)); case hy => rfl)); simp only [go_sem, Int.cast_ofNat_Int, Nat.reduceEqDiff, Nat.reduceAdd, Nat.reduceMul, Nat.reduceLeDiff, Nat.reduceLT, Int.reduceLT, Int.reduceLE, Int.reduceEq, Int.reduceNeg, Int.reduceToNat, Nat.reducePow, reduceIte, reduceCtorEq, c0, c1, c2, e0, e0', ew, ew', ite_self, Nat.sub_zero, cf, l1, l2, l3, l4, l5, l6, w2, wU, hh.2, okW_hset, hcell_hset_ne, hcell_hset_off, ne1, ne2, Ne.symm ne1, Ne.symm ne2])
    | ((with_reducible first | refine x_guard_no ?hy ?_ | refine x_cond_true ?hy ?_); case hy => rfl)
    | ((with_reducible first | refine x_guard_none ?hy ?_ | refine x_cond_false ?hy ?_); case hy => rfl)
    | ((with_reducible refine block_exit_ne ?hy ?_); case hy => decide))
  simp only [go_sem, Int.cast_ofNat_Int, Nat.reduceEqDiff, Nat.reduceAdd, Nat.reduceMul, Nat.reduceLeDiff, Nat.reduceLT, Int.reduceLT, Int.reduceLE, Int.reduceEq, Int.reduceNeg, Int.reduceToNat, Nat.reducePow, reduceIte, reduceCtorEq, c2]
  repeat' (first
    | (with_reducible first | refine seq_normal ?_ | (refine hK _ _ ?_; clear hK K) | refine x_seq (fun K hK => ?_) | refine x_nil ?_ | refine x_block ?_ | refine x_skip ?_ | refine x_exit ?_ | refine x_ret ?_ | refine x_label ?_ | refine x_scope ?_ | (refine seq_ret ?_; clear hK K) | (refine seq_exit ?_; clear hK K) | refine block_normal ?_ | refine block_ret ?_ | refine block_exit ?_ | refine loop_exit ?_ | refine loop_ret ?_)
    | ((with_reducible refine x_reg_lit ?hq ?_); case hq => rfl)
    | ((first | (with_reducible first | refine x_op (fun K hK => ?_) | refine end_ret ?_ | refine end_normal ?_) | ((with_reducible refine x_guard_yes ?hy (fun K hK => ?_)); case hy => rfl)); simp only [go_sem, Int.cast_ofNat_Int, Nat.reduceEqDiff, Nat.reduceAdd, Nat.reduceMul, Nat.reduceLeDiff, Nat.reduceLT, Int.reduceLT, Int.reduceLE, Int.reduceEq, Int.reduceNeg, Int.reduceToNat, Nat.reducePow, reduceIte, reduceCtorEq, c0, c1, c2, e0, e0', ew, ew', ite_self, Nat.sub_zero, cf, l1, l2, l3, l4, l5, l6, w2, wU, hh.2, okW_hset, hcell_hset_ne, hcell_hset_off, ne1, ne2, Ne.symm ne1, Ne.symm ne2])
    | ((with_reducible first | refine x_guard_no ?hy ?_ | refine x_cond_true ?hy ?_); case hy => rfl)
    | ((with_reducible first | refine x_guard_none ?hy ?_ | refine x_cond_false ?hy ?_); case hy => rfl)
    | ((with_reducible refine block_exit_ne ?hy ?_); case hy => decide))
  generalize hH1 : hset H ⟨p, 2, none⟩ (.slice (some ⟨gF, 0, none⟩) fs.length cF) = H1
  have f1 : Fr (· = p) H H1 := by rw [← hH1]; exact (by ((repeat (first | refine Fr.set ?_ (by simp) _ | refine Fr.push ?_ _)); exact Fr.refl _ _))
  have b1 : Blk H1 p [.int .i64 room, .slice (some ⟨gU, 0, none⟩) used.length cU, .slice (some ⟨gF, 0, none⟩) fs.length cF] := by rw [← hH1]; exact h1.set_same 2 _
  have u1 := ((h2.frame f1 (fun g hg e => ne1 (by rw [← e]; exact (Option.some.inj hg).symm))).write hh.2 true).2
  have hg3 := (h3.cut.frame f1 (fun g hg e => ne2 (by rw [← e]; exact (Option.some.inj hg).symm)))
  rw [List.length_map] at hg3
  have f2 : Fr (fun b => b = p ∨ b = gU) H (hset H1 ⟨gU, h, none⟩ (.bool true)) := Fr.set (S := fun b => b = p ∨ b = gU) (a := ⟨gU, h, none⟩) (f1.mono fun b _ h => Or.inl h) (.inl (.inr rfl)) _
  have hs : (hset H1 ⟨gU, h, none⟩ (.bool true)).size = H.size := by rw [hset_size, ← hH1, hset_size]
  have ne3 : gF ≠ gU := fun e => hn3 gU rfl (by rw [e])
  have hg4 := hg3.frame (Fr.set (S := (· = gU)) (a := ⟨gU, h, none⟩) (Fr.refl _ H1) (.inl rfl) (.bool true)) (fun g hg e => ne3 (by rw [← e]; exact Option.some.inj hg))
  have hR : Rf.old ⟨room, used, fs ++ [h]⟩ h = ⟨room, used.set h true, fs⟩ := by simp [Rf.old]
  rw [hR] at fin
  refine fin _ ⟨some gU, some gF, _, _, b1.set_ne ne1 _, by simpa using u1, hg4, ⟨?_, ?_, h4.room, ?_, ?_⟩, ⟨hn1, hn2, hn3⟩, ⟨ht1, ht2, ht3⟩, ?_⟩ (f2.mono ?_)
  · have := h4.ne; simpa using this
  · have := h4.len; simpa using this
  · intro x hx
    have := h4.free x (by simp [hx])
    simpa using this
  · simp only []; omega
  · intro b hb
    rw [hs]; exact h7 b hb
  · rintro b _ (rfl | rfl)
    · exact ht1
    · exact ht2 _ rfl
theorem rf_more (hM : RfM H p T R) (hc : R.count < R.room) (hf : R.free = []) (hl : R.used.length ≤ R.room)
    (fin : ∀ H' T', RfM H' p T' R.more → Fr T H H' → (∀ b, T' b → T b ∨ H.size ≤ b) → K (.tuple #[.int .i64 (R.used.length : Nat), .int .i64 0]) H') :
    CallsH Try.prog 47 #[.pointer (some ⟨p, 0, none⟩)] H K := by
  have hM' := hM
  obtain ⟨BU, BF, vU, vF, h1, h2, h3, h4, ⟨hn1, hn2, hn3⟩, ⟨ht1, ht2, ht3⟩, h7⟩ := hM
  obtain ⟨room, used, free⟩ := R
  simp only at hf h1 h2 h3 hc hl
  subst hf
  obtain ⟨aF, cF, rfl⟩ := h3.slice
  obtain ⟨aU, cU, rfl⟩ := h2.slice
  simp only [List.length_map, List.length_nil] at h1 h3
  have c0 := h1.cellOf (i := 0) rfl
  have c1 := h1.cellOf (i := 1) rfl
  have c2 := h1.cellOf (i := 2) rfl
  have hroom := h4.room
  simp only at hroom
  have e0 : ((room : Int) ≤ ((Rf.count ⟨room, used, []⟩ : Nat) : Int)) = False := by simp; omega
  have hp := h7 p ht1
  have q : Cells [(p, 0, .int .i64 room)] H := ⟨c0, trivial⟩
  refine call47 (by simp) ?_
  simp only [Try.f47, Option.getD_some]
  repeat' (first
    | (with_reducible first | refine seq_normal ?_ | (refine hK _ _ ?_; clear hK K) | refine x_seq (fun K hK => ?_) | refine x_nil ?_ | refine x_block ?_ | refine x_skip ?_ | refine x_exit ?_ | refine x_ret ?_ | refine x_label ?_ | refine x_scope ?_ | (refine seq_ret ?_; clear hK K) | (refine seq_exit ?_; clear hK K) | refine block_normal ?_ | refine block_ret ?_ | refine block_exit ?_ | refine loop_exit ?_ | refine loop_ret ?_)
    | ((with_reducible refine x_reg_lit ?hq ?_); case hq => rfl)
    | ((first | (with_reducible first | refine x_op (fun K hK => ?_) | refine end_ret ?_ | refine end_normal ?_) | ((with_reducible refine x_guard_yes ?hy (fun K hK => ?_)); case hy => rfl)); simp only [go_sem, Int.cast_ofNat_Int, Nat.reduceEqDiff, Nat.reduceAdd, Nat.reduceMul, Nat.reduceLeDiff, Nat.reduceLT, Int.reduceLT, Int.reduceLE, Int.reduceEq, Int.reduceNeg, Int.reduceToNat, Nat.reducePow, reduceIte, reduceCtorEq])
    | ((with_reducible first | refine x_guard_no ?hy ?_ | refine x_cond_true ?hy ?_); case hy => rfl)
    | ((with_reducible first | refine x_guard_none ?hy ?_ | refine x_cond_false ?hy ?_); case hy => rfl)
    | ((with_reducible refine block_exit_ne ?hy ?_); case hy => decide))
  refine x_drawS [] [0, 2, 3, 4, 5, 1, 6] rfl (by kernel_rfl) (Cells _) q ?_
  repeat' (first
    | (with_reducible refine xs_nil ?_)
    | ((with_reducible apply xs_rd); (case hi => rfl); (case hr => rfl); (case h1 => intro H' hS'; (try simp only [Cells, and_true] at hS'); simp only [go_sem, Int.cast_ofNat_Int, Nat.reduceEqDiff, Nat.reduceAdd, Nat.reduceMul, Nat.reduceLeDiff, Nat.reduceLT, Int.reduceLT, Int.reduceLE, Int.reduceEq, Int.reduceNeg, Int.reduceToNat, Nat.reducePow, reduceIte, reduceCtorEq, hS']; rfl))
    | ((with_reducible apply xs_guard_yes); (case hi => rfl); (case hr => rfl); (case hy => rfl); (case h1 => intro H' hS'; (try simp only [Cells, and_true] at hS'); simp only [go_sem, Int.cast_ofNat_Int, Nat.reduceEqDiff, Nat.reduceAdd, Nat.reduceMul, Nat.reduceLeDiff, Nat.reduceLT, Int.reduceLT, Int.reduceLE, Int.reduceEq, Int.reduceNeg, Int.reduceToNat, Nat.reducePow, reduceIte, reduceCtorEq, hS']; rfl))
    | ((with_reducible refine xs_tail ?hz ?_); case hz => rfl)
    | ((with_reducible refine xs_keep ?hz ?_); case hz => first | assumption | (simp only [go_sem, Int.cast_ofNat_Int, Nat.reduceEqDiff, Nat.reduceAdd, Nat.reduceMul, Nat.reduceLeDiff, Nat.reduceLT, Int.reduceLT, Int.reduceLE, Int.reduceEq, Int.reduceNeg, Int.reduceToNat, Nat.reducePow, reduceIte, reduceCtorEq, Cells, and_true]))
    | ((with_reducible apply xs_guard_no); (case hi => rfl); (case hy => rfl); (case hS => assumption))
    | ((first | ((with_reducible apply xs_op); (case hi => rfl)) | ((with_reducible apply xs_op_yes); (case hi => rfl); (case hy => rfl))); (case hr => rfl); intro K hK; simp only [go_sem, Int.cast_ofNat_Int, Nat.reduceEqDiff, Nat.reduceAdd, Nat.reduceMul, Nat.reduceLeDiff, Nat.reduceLT, Int.reduceLT, Int.reduceLE, Int.reduceEq, Int.reduceNeg, Int.reduceToNat, Nat.reducePow, reduceIte, reduceCtorEq])
    | (with_reducible first | refine seq_normal ?_ | (refine hK _ _ ?_; clear hK K) | refine x_seq (fun K hK => ?_) | refine x_nil ?_ | refine x_block ?_ | refine x_skip ?_ | refine x_exit ?_ | refine x_ret ?_ | refine x_label ?_ | refine x_scope ?_ | (refine seq_ret ?_; clear hK K) | (refine seq_exit ?_; clear hK K) | refine block_normal ?_ | refine block_ret ?_ | refine block_exit ?_ | refine loop_exit ?_ | refine loop_ret ?_)
    | ((with_reducible refine x_reg_lit ?hq ?_); case hq => rfl)
    | ((first | (with_reducible first | refine x_op (fun K hK => ?_) | refine end_ret ?_ | refine end_normal ?_) | ((with_reducible refine x_guard_yes ?hy (fun K hK => ?_)); case hy => rfl)); simp only [go_sem, Int.cast_ofNat_Int, Nat.reduceEqDiff, Nat.reduceAdd, Nat.reduceMul, Nat.reduceLeDiff, Nat.reduceLT, Int.reduceLT, Int.reduceLE, Int.reduceEq, Int.reduceNeg, Int.reduceToNat, Nat.reducePow, reduceIte, reduceCtorEq])
    | ((with_reducible first | refine x_guard_no ?hy ?_ | refine x_cond_true ?hy ?_); case hy => rfl)
    | ((with_reducible first | refine x_guard_none ?hy ?_ | refine x_cond_false ?hy ?_); case hy => rfl)
    | ((with_reducible refine block_exit_ne ?hy ?_); case hy => decide))
  refine rf_len hM' ?_
  repeat' (first
    | (with_reducible refine xs_nil ?_)
    | ((with_reducible apply xs_rd); (case hi => rfl); (case hr => rfl); (case h1 => intro H' hS'; (try simp only [Cells, and_true] at hS'); simp only [go_sem, Int.cast_ofNat_Int, Nat.reduceEqDiff, Nat.reduceAdd, Nat.reduceMul, Nat.reduceLeDiff, Nat.reduceLT, Int.reduceLT, Int.reduceLE, Int.reduceEq, Int.reduceNeg, Int.reduceToNat, Nat.reducePow, reduceIte, reduceCtorEq, e0, q, hS']; rfl))
    | ((with_reducible apply xs_guard_yes); (case hi => rfl); (case hr => rfl); (case hy => rfl); (case h1 => intro H' hS'; (try simp only [Cells, and_true] at hS'); simp only [go_sem, Int.cast_ofNat_Int, Nat.reduceEqDiff, Nat.reduceAdd, Nat.reduceMul, Nat.reduceLeDiff, Nat.reduceLT, Int.reduceLT, Int.reduceLE, Int.reduceEq, Int.reduceNeg, Int.reduceToNat, Nat.reducePow, reduceIte, reduceCtorEq, e0, q, hS']; rfl))
    | ((with_reducible refine xs_tail ?hz ?_); case hz => rfl)
    | ((with_reducible refine xs_keep ?hz ?_); case hz => first | assumption | (simp only [go_sem, Int.cast_ofNat_Int, Nat.reduceEqDiff, Nat.reduceAdd, Nat.reduceMul, Nat.reduceLeDiff, Nat.reduceLT, Int.reduceLT, Int.reduceLE, Int.reduceEq, Int.reduceNeg, Int.reduceToNat, Nat.reducePow, reduceIte, reduceCtorEq, Cells, and_true, e0, q]))
    | ((with_reducible apply xs_guard_no); (case hi => rfl); (case hy => rfl); (case hS => assumption))
    | ((first | ((with_reducible apply xs_op); (case hi => rfl)) | ((with_reducible apply xs_op_yes); (case hi => rfl); (case hy => rfl))); (case hr => rfl); intro K hK; simp only [go_sem, Int.cast_ofNat_Int, Nat.reduceEqDiff, Nat.reduceAdd, Nat.reduceMul, Nat.reduceLeDiff, Nat.reduceLT, Int.reduceLT, Int.reduceLE, Int.reduceEq, Int.reduceNeg, Int.reduceToNat, Nat.reducePow, reduceIte, reduceCtorEq, e0, q])
    | (with_reducible first | refine seq_normal ?_ | (refine hK _ _ ?_; clear hK K) | refine x_seq (fun K hK => ?_) | refine x_nil ?_ | refine x_block ?_ | refine x_skip ?_ | refine x_exit ?_ | refine x_ret ?_ | refine x_label ?_ | refine x_scope ?_ | (refine seq_ret ?_; clear hK K) | (refine seq_exit ?_; clear hK K) | refine block_normal ?_ | refine block_ret ?_ | refine block_exit ?_ | refine loop_exit ?_ | refine loop_ret ?_)
    | ((with_reducible refine x_reg_lit ?hq ?_); case hq => rfl)
    | ((first | (with_reducible first | refine x_op (fun K hK => ?_) | refine end_ret ?_ | refine end_normal ?_) | ((with_reducible refine x_guard_yes ?hy (fun K hK => ?_)); case hy => rfl)); simp only [go_sem, Int.cast_ofNat_Int, Nat.reduceEqDiff, Nat.reduceAdd, Nat.reduceMul, Nat.reduceLeDiff, Nat.reduceLT, Int.reduceLT, Int.reduceLE, Int.reduceEq, Int.reduceNeg, Int.reduceToNat, Nat.reducePow, reduceIte, reduceCtorEq, e0, q])
    | ((with_reducible first | refine x_guard_no ?hy ?_ | refine x_cond_true ?hy ?_); case hy => rfl)
    | ((with_reducible first | refine x_guard_none ?hy ?_ | refine x_cond_false ?hy ?_); case hy => rfl)
    | ((with_reducible refine block_exit_ne ?hy ?_); case hy => decide))
  repeat' (first
    | (with_reducible first | refine seq_normal ?_ | (refine hK _ _ ?_; clear hK K) | refine x_seq (fun K hK => ?_) | refine x_nil ?_ | refine x_block ?_ | refine x_skip ?_ | refine x_exit ?_ | refine x_ret ?_ | refine x_label ?_ | refine x_scope ?_ | (refine seq_ret ?_; clear hK K) | (refine seq_exit ?_; clear hK K) | refine block_normal ?_ | refine block_ret ?_ | refine block_exit ?_ | refine loop_exit ?_ | refine loop_ret ?_)
    | ((with_reducible refine x_reg_lit ?hq ?_); case hq => rfl)
    | ((first | (with_reducible first | refine x_op (fun K hK => ?_) | refine end_ret ?_ | refine end_normal ?_) | ((with_reducible refine x_guard_yes ?hy (fun K hK => ?_)); case hy => rfl)); simp only [go_sem, Int.cast_ofNat_Int, Nat.reduceEqDiff, Nat.reduceAdd, Nat.reduceMul, Nat.reduceLeDiff, Nat.reduceLT, Int.reduceLT, Int.reduceLE, Int.reduceEq, Int.reduceNeg, Int.reduceToNat, Nat.reducePow, reduceIte, reduceCtorEq, c2])
    | ((with_reducible first | refine x_guard_no ?hy ?_ | refine x_cond_true ?hy ?_); case hy => rfl)
    | ((with_reducible first | refine x_guard_none ?hy ?_ | refine x_cond_false ?hy ?_); case hy => rfl)
    | ((with_reducible refine block_exit_ne ?hy ?_); case hy => decide))
  simp only [go_sem, Int.cast_ofNat_Int, Nat.reduceEqDiff, Nat.reduceAdd, Nat.reduceMul, Nat.reduceLeDiff, Nat.reduceLT, Int.reduceLT, Int.reduceLE, Int.reduceEq, Int.reduceNeg, Int.reduceToNat, Nat.reducePow, reduceIte, reduceCtorEq, c2]
  repeat' (first
    | (with_reducible first | refine seq_normal ?_ | (refine hK _ _ ?_; clear hK K) | refine x_seq (fun K hK => ?_) | refine x_nil ?_ | refine x_block ?_ | refine x_skip ?_ | refine x_exit ?_ | refine x_ret ?_ | refine x_label ?_ | refine x_scope ?_ | (refine seq_ret ?_; clear hK K) | (refine seq_exit ?_; clear hK K) | refine block_normal ?_ | refine block_ret ?_ | refine block_exit ?_ | refine loop_exit ?_ | refine loop_ret ?_)
    | ((with_reducible refine x_reg_lit ?hq ?_); case hq => rfl)
    | ((first | (with_reducible first | refine x_op (fun K hK => ?_) | refine end_ret ?_ | refine end_normal ?_) | ((with_reducible refine x_guard_yes ?hy (fun K hK => ?_)); case hy => rfl)); simp only [go_sem, Int.cast_ofNat_Int, Nat.reduceEqDiff, Nat.reduceAdd, Nat.reduceMul, Nat.reduceLeDiff, Nat.reduceLT, Int.reduceLT, Int.reduceLE, Int.reduceEq, Int.reduceNeg, Int.reduceToNat, Nat.reducePow, reduceIte, reduceCtorEq, c0, c1, c2, hcell_push, hp])
    | ((with_reducible first | refine x_guard_no ?hy ?_ | refine x_cond_true ?hy ?_); case hy => rfl)
    | ((with_reducible first | refine x_guard_none ?hy ?_ | refine x_cond_false ?hy ?_); case hy => rfl)
    | ((with_reducible refine block_exit_ne ?hy ?_); case hy => decide))
  refine append_br elems85 tl4 h2 rfl (by decide) (by simp; omega) rfl ?_
  intro v1 H1 B1 u1 f1 hB1
  have hs1 := f1.size
  have b1 : Blk H1 p [.int .i64 room, .slice aU used.length cU, .slice aF 0 cF] := h1.frame f1 (fun e => hn1 e)
  have w1 := b1.okW (i := 1) (by simp)
  obtain ⟨a1, k1, rfl⟩ := u1.slice
  have hl1 : (used ++ [true]).length = used.length + 1 := by simp
  rw [hl1] at u1 ⊢
  have b2 := b1.set_same 1 (.slice a1 (used.length + 1) k1)
  have c1' := b2.cellOf (i := 1) rfl
  have ew : IntKind.i64.wrap (((used.length + 1 : Nat) : Int) - 1) = (used.length : Nat) := by rw [wrap_i64] <;> omega
  have ew' : IntKind.i64.wrap ((used.length : Int) + 1 - 1) = (used.length : Nat) := by rw [wrap_i64] <;> omega
  repeat' (first
    | (with_reducible first | refine seq_normal ?_ | (refine hK _ _ ?_; clear hK K) | refine x_seq (fun K hK => ?_) | refine x_nil ?_ | refine x_block ?_ | refine x_skip ?_ | refine x_exit ?_ | refine x_ret ?_ | refine x_label ?_ | refine x_scope ?_ | (refine seq_ret ?_; clear hK K) | (refine seq_exit ?_; clear hK K) | refine block_normal ?_ | refine block_ret ?_ | refine block_exit ?_ | refine loop_exit ?_ | refine loop_ret ?_)
    | ((with_reducible refine x_reg_lit ?hq ?_); case hq => rfl)
    | ((first | (with_reducible first | refine x_op (fun K hK => ?_) | refine end_ret ?_ | refine end_normal ?_) | ((with_reducible refine x_guard_yes ?hy (fun K hK => ?_)); case hy => rfl)); simp only [go_sem, Int.cast_ofNat_Int, Nat.reduceEqDiff, Nat.reduceAdd, Nat.reduceMul, Nat.reduceLeDiff, Nat.reduceLT, Int.reduceLT, Int.reduceLE, Int.reduceEq, Int.reduceNeg, Int.reduceToNat, Nat.reducePow, reduceIte, reduceCtorEq, w1, c1', ew, ew'])
    | ((with_reducible first | refine x_guard_no ?hy ?_ | refine x_cond_true ?hy ?_); case hy => rfl)
    | ((with_reducible first | refine x_guard_none ?hy ?_ | refine x_cond_false ?hy ?_); case hy => rfl)
    | ((with_reducible refine block_exit_ne ?hy ?_); case hy => decide))
  have hs2 : (hset H1 ⟨p, 1, none⟩ (.slice a1 (used.length + 1) k1)).size = H1.size := hset_size ..
  have hne1 : B1 ≠ some p := by
    rcases hB1 with rfl | ⟨g, rfl, hg⟩
    · exact hn1
    · intro e
      obtain rfl := Option.some.inj e
      omega
  have hB2 : ∀ b, B1 = some b → T b ∨ H.size ≤ b := fun b hb => by
    rcases hB1 with rfl | ⟨g, rfl, hg⟩
    · exact .inl (ht2 b hb)
    · rw [← Option.some.inj hb]; exact .inr hg
  have fp : Fr (· = p) H1 (hset H1 ⟨p, 1, none⟩ (.slice a1 (used.length + 1) k1)) := Fr.set (S := (· = p)) (a := ⟨p, 1, none⟩) (Fr.refl _ H1) (.inl rfl) _
  refine fin _ (fun b => T b ∨ B1 = some b) ⟨B1, BF, _, _, b2, ?_, ?_, ⟨by simp [Rf.more], by simp [Rf.more]; omega, h4.room, (by intro x hx; simp [Rf.more] at hx), by simp [Rf.more]⟩, ⟨hne1, hn2, ?_⟩, ⟨.inl ht1, fun b hb => .inr hb, fun b hb => .inl (ht3 b hb)⟩, ?_⟩ ?_ ?_
  · exact u1.frame fp (fun g hg (e : g = p) => hne1 (by rw [hg, e]))
  · exact (h3.frame f1 (fun g hg e => hn3 g e hg)).frame fp (fun g hg e => hn2 (by rw [hg, e]))
  · intro b hb e
    rcases hB1 with rfl | ⟨g, rfl, hg⟩
    · exact hn3 b hb e
    · obtain rfl := Option.some.inj hb
      have := h7 _ (ht3 _ e)
      omega
  · intro b hb
    rw [hs2]
    rcases hb with hb | hb
    · have := h7 b hb
      omega
    · exact u1.lt hb
  · exact (f1.mono fun b _ h => ht2 b h).trans (fp.mono fun b _ (h : b = p) => by rw [h]; exact ht1)
  · intro b hb
    rcases hb with hb | hb
    · exact .inl hb
    · exact hB2 b hb
theorem rf_drop {h : Nat} (hM : RfM H p T R) (hh : R.hasB (h : Nat) = true) (hfl : R.free.length < 4096)
    (fin : ∀ H' T', RfM H' p T' (R.dropped h) → Fr T H H' → (∀ b, T' b → T b ∨ H.size ≤ b) → K (.int .i64 0) H') :
    CallsH Try.prog 35 #[.pointer (some ⟨p, 0, none⟩), .int .i64 (h : Nat)] H K := by
  have hM' := hM
  obtain ⟨BU, BF, vU, vF, h1, h2, h3, h4, ⟨hn1, hn2, hn3⟩, ⟨ht1, ht2, ht3⟩, h7⟩ := hM
  obtain ⟨room, used, free⟩ := R
  simp only at h1 h2 h3 hfl
  obtain ⟨gU, cU, rfl, rfl, hcU⟩ := h2.open h4.ne
  obtain ⟨aF, cF, rfl⟩ := h3.slice
  have hlt : h < used.length := by
    unfold Rf.hasB at hh
    rw [Int.toNat_natCast, List.getD_eq_getElem?_getD] at hh
    rcases Nat.lt_or_ge h used.length with h' | h'
    · exact h'
    · rw [List.getElem?_eq_none h'] at hh; simp at hh
  have c1 := h1.cellOf (i := 1) rfl
  have c2 := h1.cellOf (i := 2) rfl
  obtain ⟨wU, -⟩ := h2.write hlt false
  have ne1 : p ≠ gU := fun e => hn1 (by rw [e])
  refine call35 (by simp) ?_
  simp only [Try.f35, Option.getD_some]
  repeat' (first
    | (with_reducible first | refine seq_normal ?_ | (refine hK _ _ ?_; clear hK K) | refine x_seq (fun K hK => ?_) | refine x_nil ?_ | refine x_block ?_ | refine x_skip ?_ | refine x_exit ?_ | refine x_ret ?_ | refine x_label ?_ | refine x_scope ?_ | (refine seq_ret ?_; clear hK K) | (refine seq_exit ?_; clear hK K) | refine block_normal ?_ | refine block_ret ?_ | refine block_exit ?_ | refine loop_exit ?_ | refine loop_ret ?_)
    | ((with_reducible refine x_reg_lit ?hq ?_); case hq => rfl)
    | ((first | (with_reducible first | refine x_op (fun K hK => ?_) | refine end_ret ?_ | refine end_normal ?_) | ((with_reducible refine x_guard_yes ?hy (fun K hK => ?_)); case hy => rfl)); simp only [go_sem, Int.cast_ofNat_Int, Nat.reduceEqDiff, Nat.reduceAdd, Nat.reduceMul, Nat.reduceLeDiff, Nat.reduceLT, Int.reduceLT, Int.reduceLE, Int.reduceEq, Int.reduceNeg, Int.reduceToNat, Nat.reducePow, reduceIte, reduceCtorEq])
    | ((with_reducible first | refine x_guard_no ?hy ?_ | refine x_cond_true ?hy ?_); case hy => rfl)
    | ((with_reducible first | refine x_guard_none ?hy ?_ | refine x_cond_false ?hy ?_); case hy => rfl)
    | ((with_reducible refine block_exit_ne ?hy ?_); case hy => decide))
  refine rf_has hM' ?_
  rw [hh]
  repeat' (first
    | (with_reducible first | refine seq_normal ?_ | (refine hK _ _ ?_; clear hK K) | refine x_seq (fun K hK => ?_) | refine x_nil ?_ | refine x_block ?_ | refine x_skip ?_ | refine x_exit ?_ | refine x_ret ?_ | refine x_label ?_ | refine x_scope ?_ | (refine seq_ret ?_; clear hK K) | (refine seq_exit ?_; clear hK K) | refine block_normal ?_ | refine block_ret ?_ | refine block_exit ?_ | refine loop_exit ?_ | refine loop_ret ?_)
    | ((with_reducible refine x_reg_lit ?hq ?_); case hq => rfl)
    | ((first | (with_reducible first | refine x_op (fun K hK => ?_) | refine end_ret ?_ | refine end_normal ?_) | ((with_reducible refine x_guard_yes ?hy (fun K hK => ?_)); case hy => rfl)); simp only [go_sem, Int.cast_ofNat_Int, Nat.reduceEqDiff, Nat.reduceAdd, Nat.reduceMul, Nat.reduceLeDiff, Nat.reduceLT, Int.reduceLT, Int.reduceLE, Int.reduceEq, Int.reduceNeg, Int.reduceToNat, Nat.reducePow, reduceIte, reduceCtorEq, c1, c2, wU, hlt, hcell_hset_ne, ne1, Ne.symm ne1])
    | ((with_reducible first | refine x_guard_no ?hy ?_ | refine x_cond_true ?hy ?_); case hy => rfl)
    | ((with_reducible first | refine x_guard_none ?hy ?_ | refine x_cond_false ?hy ?_); case hy => rfl)
    | ((with_reducible refine block_exit_ne ?hy ?_); case hy => decide))
  generalize hH1 : hset H ⟨gU, h, none⟩ (.bool false) = H1
  have f1 : Fr (· = gU) H H1 := by rw [← hH1]; exact Fr.set (S := (· = gU)) (a := ⟨gU, h, none⟩) (Fr.refl _ H) (.inl rfl) _
  have u1 : BR H1 (some gU) (.slice (some ⟨gU, 0, none⟩) used.length cU) (used.set h false) := by rw [← hH1]; exact (h2.write hlt false).2
  have hs1 : H1.size = H.size := by rw [← hH1, hset_size]
  have g1 := h3.frame f1 (fun g hg e => hn3 gU rfl (by rw [hg, e]))
  have b1 := h1.frame f1 ne1
  rw [← hs1] at h7
  refine append_ir elems22 tl3 g1 rfl (by decide) (by simp; omega) rfl ?_
  intro v2 H2 B2 g2 f2 hB2
  have hs2 := f2.size
  have hne2 : B2 ≠ some p := by
    rcases hB2 with rfl | ⟨g, rfl, hg⟩
    · exact hn2
    · intro e
      have e' := Option.some.inj e
      have := h7 p ht1
      omega
  have hne3 : ∀ b, some gU = some b → B2 ≠ some b := by
    rintro b hb e
    obtain rfl := Option.some.inj hb
    rcases hB2 with rfl | ⟨g, rfl, hg⟩
    · exact hn3 _ rfl e
    · obtain rfl := Option.some.inj e
      have := h7 _ (ht2 _ rfl)
      omega
  have b2 := b1.frame f2 (fun e => hn2 e)
  have w2 := b2.okW (i := 2) (by simp)
  obtain ⟨a2, k2, rfl⟩ := g2.slice
  have u2 := u1.frame f2 (fun g hg e => hn3 g hg e)
  have fp : Fr (· = p) H2 (hset H2 ⟨p, 2, none⟩ (.slice a2 (List.map Int.ofNat free ++ [(h : Int)]).length k2)) := Fr.set (S := (· = p)) (a := ⟨p, 2, none⟩) (Fr.refl _ H2) (.inl rfl) _
  have hl2 : (used.set h false).length = used.length := by simp
  have hB3 : ∀ b, B2 = some b → T b ∨ H.size ≤ b := fun b hb => by
    rcases hB2 with rfl | ⟨g, rfl, hg⟩
    · exact .inl (ht3 b hb)
    · rw [← Option.some.inj hb, ← hs1]; exact .inr hg
  repeat' (first
    | (with_reducible first | refine seq_normal ?_ | (refine hK _ _ ?_; clear hK K) | refine x_seq (fun K hK => ?_) | refine x_nil ?_ | refine x_block ?_ | refine x_skip ?_ | refine x_exit ?_ | refine x_ret ?_ | refine x_label ?_ | refine x_scope ?_ | (refine seq_ret ?_; clear hK K) | (refine seq_exit ?_; clear hK K) | refine block_normal ?_ | refine block_ret ?_ | refine block_exit ?_ | refine loop_exit ?_ | refine loop_ret ?_)
    | ((with_reducible refine x_reg_lit ?hq ?_); case hq => rfl)
    | ((first | (with_reducible first | refine x_op (fun K hK => ?_) | refine end_ret ?_ | refine end_normal ?_) | ((with_reducible refine x_guard_yes ?hy (fun K hK => ?_)); case hy => rfl)); simp only [go_sem, Int.cast_ofNat_Int, Nat.reduceEqDiff, Nat.reduceAdd, Nat.reduceMul, Nat.reduceLeDiff, Nat.reduceLT, Int.reduceLT, Int.reduceLE, Int.reduceEq, Int.reduceNeg, Int.reduceToNat, Nat.reducePow, reduceIte, reduceCtorEq, w2])
    | ((with_reducible first | refine x_guard_no ?hy ?_ | refine x_cond_true ?hy ?_); case hy => rfl)
    | ((with_reducible first | refine x_guard_none ?hy ?_ | refine x_cond_false ?hy ?_); case hy => rfl)
    | ((with_reducible refine block_exit_ne ?hy ?_); case hy => decide))
  refine fin _ (fun b => T b ∨ B2 = some b) ⟨some gU, B2, _, _, b2.set_same 2 _, ?_, ?_, ⟨?_, ?_, h4.room, ?_, ?_⟩, ⟨hn1, hne2, hne3⟩, ⟨.inl ht1, fun b hb => .inl (ht2 b hb), fun b hb => .inr hb⟩, ?_⟩ ?_ ?_
  · exact u2.frame fp (fun g hg e => hn1 (by rw [hg, e]))
  · have := g2.frame fp (fun g hg e => hne2 (by rw [hg, e]))
    simpa [Rf.dropped] using this
  · have := h4.ne; simpa [Rf.dropped] using this
  · have := h4.len; simpa [Rf.dropped] using this
  · intro x hx
    simp only [Rf.dropped, List.mem_append, List.mem_singleton, List.length_set] at hx ⊢
    rcases hx with hx | rfl
    · exact h4.free x hx
    · refine ⟨?_, hlt⟩
      unfold Rf.hasB at hh
      simp at hh
      omega
  · simp [Rf.dropped]; omega
  · intro b hb
    rw [hset_size]
    rcases hb with hb | hb
    · have := h7 b hb
      omega
    · exact g2.lt hb
  · exact ((f1.mono fun b _ (h : b = gU) => by rw [h]; exact ht2 _ rfl).trans (f2.mono fun b _ h => ht3 b h)).trans (fp.mono fun b _ (h : b = p) => by rw [h]; exact ht1)
  · intro b hb
    rcases hb with hb | hb
    · exact .inl hb
    · exact hB3 b hb
theorem rf_drop_none {i : Int} (hM : RfM H p T R) (hh : R.hasB i = false) (fin : K (.int .i64 21) H) :
    CallsH Try.prog 35 #[.pointer (some ⟨p, 0, none⟩), .int .i64 i] H K := by
  refine call35 (by simp) ?_
  simp only [Try.f35, Option.getD_some]
  repeat' (first
    | (with_reducible first | refine seq_normal ?_ | (refine hK _ _ ?_; clear hK K) | refine x_seq (fun K hK => ?_) | refine x_nil ?_ | refine x_block ?_ | refine x_skip ?_ | refine x_exit ?_ | refine x_ret ?_ | refine x_label ?_ | refine x_scope ?_ | (refine seq_ret ?_; clear hK K) | (refine seq_exit ?_; clear hK K) | refine block_normal ?_ | refine block_ret ?_ | refine block_exit ?_ | refine loop_exit ?_ | refine loop_ret ?_)
    | ((with_reducible refine x_reg_lit ?hq ?_); case hq => rfl)
    | ((first | (with_reducible first | refine x_op (fun K hK => ?_) | refine end_ret ?_ | refine end_normal ?_) | ((with_reducible refine x_guard_yes ?hy (fun K hK => ?_)); case hy => rfl)); simp only [go_sem, Int.cast_ofNat_Int, Nat.reduceEqDiff, Nat.reduceAdd, Nat.reduceMul, Nat.reduceLeDiff, Nat.reduceLT, Int.reduceLT, Int.reduceLE, Int.reduceEq, Int.reduceNeg, Int.reduceToNat, Nat.reducePow, reduceIte, reduceCtorEq])
    | ((with_reducible first | refine x_guard_no ?hy ?_ | refine x_cond_true ?hy ?_); case hy => rfl)
    | ((with_reducible first | refine x_guard_none ?hy ?_ | refine x_cond_false ?hy ?_); case hy => rfl)
    | ((with_reducible refine block_exit_ne ?hy ?_); case hy => decide))
  refine rf_has hM ?_
  rw [hh]
  repeat' (first
    | (with_reducible first | refine seq_normal ?_ | (refine hK _ _ ?_; clear hK K) | refine x_seq (fun K hK => ?_) | refine x_nil ?_ | refine x_block ?_ | refine x_skip ?_ | refine x_exit ?_ | refine x_ret ?_ | refine x_label ?_ | refine x_scope ?_ | (refine seq_ret ?_; clear hK K) | (refine seq_exit ?_; clear hK K) | refine block_normal ?_ | refine block_ret ?_ | refine block_exit ?_ | refine loop_exit ?_ | refine loop_ret ?_)
    | ((with_reducible refine x_reg_lit ?hq ?_); case hq => rfl)
    | ((first | (with_reducible first | refine x_op (fun K hK => ?_) | refine end_ret ?_ | refine end_normal ?_) | ((with_reducible refine x_guard_yes ?hy (fun K hK => ?_)); case hy => rfl)); simp only [go_sem, Int.cast_ofNat_Int, Nat.reduceEqDiff, Nat.reduceAdd, Nat.reduceMul, Nat.reduceLeDiff, Nat.reduceLT, Int.reduceLT, Int.reduceLE, Int.reduceEq, Int.reduceNeg, Int.reduceToNat, Nat.reducePow, reduceIte, reduceCtorEq])
    | ((with_reducible first | refine x_guard_no ?hy ?_ | refine x_cond_true ?hy ?_); case hy => rfl)
    | ((with_reducible first | refine x_guard_none ?hy ?_ | refine x_cond_false ?hy ?_); case hy => rfl)
    | ((with_reducible refine block_exit_ne ?hy ?_); case hy => decide))
  exact fin
end
end Go.Proofs.Ytkfcbgnodjgdcaa
