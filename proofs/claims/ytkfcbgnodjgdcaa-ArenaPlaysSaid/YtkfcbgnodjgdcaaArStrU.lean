import Derived.Test.YtkfcbgnodjgdcaaArStr
namespace Go.Proofs.Ytkfcbgnodjgdcaa.ArStr
open Go Go.Hp
set_option linter.all false
set_option maxRecDepth 100000

theorem range_filter (p : Nat → Bool) (h : Nat) : (List.range (h + 1)).filter p = (List.range h).filter p ++ if p h then [h] else [] := by
  rw [List.range_succ, List.filter_append]
  cases hp : p h <;> simp [hp]
theorem all_ok {H : Heap} {p g : Nat} {A : Ar} {z : List Value} {K : Value → Heap → Prop} (hA : ArAt H p g 1 z A)
    (hk : ∀ v H', Ints H' H.size v (A.handles.map Int.ofNat) → Fr (fun _ => False) H H' → K v H') : CallsH Try.prog 39 #[.pointer (some ⟨p, 0, none⟩)] H K := by
  obtain ⟨c, rest, b1, b2, hl, hc⟩ := hA.at_
  have h1 := b1.cellOf (i := 1) rfl
  have h2 := b1.cellOf (i := 2) rfl
  have hml := many_le' hA.ok
  have e1 : (A.many * 8 ≤ 281474976710656) = True := by simp; omega
  have hpl := b1.lt
  have hcf := hA.ok.len_le
  refine call39 (by simp) ?_
  simp only [Try.f39, Option.getD_some]
  repeat' (first
    | (with_reducible first | refine seq_normal ?_ | (refine hK _ _ ?_; clear hK K) | refine x_seq (fun K hK => ?_) | refine x_nil ?_ | refine x_block ?_ | refine x_skip ?_ | refine x_exit ?_ | refine x_ret ?_ | refine x_label ?_ | refine x_scope ?_ | (refine seq_ret ?_; clear hK K) | (refine seq_exit ?_; clear hK K) | refine block_normal ?_ | refine block_ret ?_ | refine block_exit ?_ | refine loop_exit ?_ | refine loop_ret ?_)
    | ((with_reducible refine x_reg_lit ?hq ?_); case hq => rfl)
    | ((first | (with_reducible first | refine x_op (fun K hK => ?_) | refine end_ret ?_ | refine end_normal ?_) | ((with_reducible refine x_guard_yes ?hy (fun K hK => ?_)); case hy => rfl)); simp only [go_sem, Int.cast_ofNat_Int, Nat.reduceEqDiff, Nat.reduceAdd, Nat.reduceMul, Nat.reduceLeDiff, Nat.reduceLT, Int.reduceLT, Int.reduceLE, Int.reduceEq, Int.reduceNeg, Int.reduceToNat, Nat.reducePow, reduceIte, reduceCtorEq, h1, h2, e1, hcell_push, hpl])
    | ((with_reducible first | refine x_guard_no ?hy ?_ | refine x_cond_true ?hy ?_); case hy => rfl)
    | ((with_reducible first | refine x_guard_none ?hy ?_ | refine x_cond_false ?hy ?_); case hy => rfl)
    | ((with_reducible refine block_exit_ne ?hy ?_); case hy => decide))
  refine x_loop (fun m e H' => ∃ (h : Nat) (v : Value), e 15 = .int .i64 h ∧ e 3 = v ∧ h ≤ A.vals.length ∧ m = A.vals.length - h ∧
    Ints H' H.size v (((List.range h).filter fun h => (A.get h).isSome).map Int.ofNat) ∧ Fr (fun _ => False) H H') A.vals.length
    ⟨0, _, rfl, rfl, Nat.zero_le _, rfl, ⟨some H.size, ⟨rfl, .inr ⟨H.size, A.many, _, rfl, rfl, Blk.new H (repL A.many [Value.int .i64 0]) _, by simp [repL_length], Nat.zero_le _⟩⟩, fun g hg => by rw [← Option.some.inj hg]; exact Nat.le_refl _⟩, (Fr.refl _ _).push _⟩ ?_
  rintro m e H1 ⟨h, v, i15, i3, hh, rfl, hi, hf⟩ hoff
  have e0 : e 0 = .pointer (some ⟨p, 0, none⟩) := (hoff 0 rfl).trans rfl
  have e14 : e 14 = .int .i64 (A.vals.length : Nat) := (hoff 14 rfl).trans rfl
  have h2' := (b1.frame hf (fun h => h)).cellOf (i := 2) rfl
  clear hoff
  by_cases hlt : h < A.vals.length
  · have hu : hcell H1 ⟨g, h * 3 + 1, none⟩ = some (.bool (A.get h).isSome) := (b2.frame hf (fun h => h)).cellOf (slot_used hA.ok hA.zl hlt)
    have ew : IntKind.i64.wrap ((h : Int) + 1) = ((h + 1 : Nat) : Int) := by rw [wrap_i64] <;> omega
    cases hs : (A.get h).isSome
    · rw [hs] at hu
      repeat' (first
        | (with_reducible first | refine seq_normal ?_ | (refine hK _ _ ?_; clear hK K) | refine x_seq (fun K hK => ?_) | refine x_nil ?_ | refine x_block ?_ | refine x_skip ?_ | refine x_exit ?_ | refine x_ret ?_ | refine x_label ?_ | refine x_scope ?_ | (refine seq_ret ?_; clear hK K) | (refine seq_exit ?_; clear hK K) | refine block_normal ?_ | refine block_ret ?_ | refine block_exit ?_ | refine loop_exit ?_ | refine loop_ret ?_)
        | ((with_reducible refine x_reg_lit ?hq ?_); case hq => rfl)
        | ((first | (with_reducible first | refine x_op (fun K hK => ?_) | refine end_ret ?_ | refine end_normal ?_) | ((with_reducible refine x_guard_yes ?hy (fun K hK => ?_)); case hy => rfl)); simp only [go_sem, Int.cast_ofNat_Int, Nat.reduceEqDiff, Nat.reduceAdd, Nat.reduceMul, Nat.reduceLeDiff, Nat.reduceLT, Int.reduceLT, Int.reduceLE, Int.reduceEq, Int.reduceNeg, Int.reduceToNat, Nat.reducePow, reduceIte, reduceCtorEq, i15, i3, e0, e14, h2', hu, hlt, ew])
        | ((with_reducible first | refine x_guard_no ?hy ?_ | refine x_cond_true ?hy ?_); case hy => rfl)
        | ((with_reducible first | refine x_guard_none ?hy ?_ | refine x_cond_false ?hy ?_); case hy => rfl)
        | ((with_reducible refine block_exit_ne ?hy ?_); case hy => decide))
      refine loop_normal (show A.vals.length - (h + 1) < _ by omega) ⟨h + 1, v, rfl, i3, hlt, rfl, ?_, hf⟩
      rw [range_filter, hs]
      simpa using hi
    · rw [hs] at hu
      repeat' (first
        | (with_reducible first | refine seq_normal ?_ | (refine hK _ _ ?_; clear hK K) | refine x_seq (fun K hK => ?_) | refine x_nil ?_ | refine x_block ?_ | refine x_skip ?_ | refine x_exit ?_ | refine x_ret ?_ | refine x_label ?_ | refine x_scope ?_ | (refine seq_ret ?_; clear hK K) | (refine seq_exit ?_; clear hK K) | refine block_normal ?_ | refine block_ret ?_ | refine block_exit ?_ | refine loop_exit ?_ | refine loop_ret ?_)
        | ((with_reducible refine x_reg_lit ?hq ?_); case hq => rfl)
        | ((first | (with_reducible first | refine x_op (fun K hK => ?_) | refine end_ret ?_ | refine end_normal ?_) | ((with_reducible refine x_guard_yes ?hy (fun K hK => ?_)); case hy => rfl)); simp only [go_sem, Int.cast_ofNat_Int, Nat.reduceEqDiff, Nat.reduceAdd, Nat.reduceMul, Nat.reduceLeDiff, Nat.reduceLT, Int.reduceLT, Int.reduceLE, Int.reduceEq, Int.reduceNeg, Int.reduceToNat, Nat.reducePow, reduceIte, reduceCtorEq, i15, i3, e0, e14, h2', hu, hlt, ew])
        | ((with_reducible first | refine x_guard_no ?hy ?_ | refine x_cond_true ?hy ?_); case hy => rfl)
        | ((with_reducible first | refine x_guard_none ?hy ?_ | refine x_cond_false ?hy ?_); case hy => rfl)
        | ((with_reducible refine block_exit_ne ?hy ?_); case hy => decide))
      have hsz := hf.size
      refine append_int elems22 tl3 hi rfl (by decide) hsz ?_ rfl ?_
      · have : ((List.range h).filter fun h => (A.get h).isSome).length ≤ h := by simpa using List.length_filter_le (fun h => (A.get h).isSome) (List.range h)
        simp only [List.length_map]
        omega
      · intro v' H2 hi2 hf2
        repeat' (first
          | (with_reducible first | refine seq_normal ?_ | (refine hK _ _ ?_; clear hK K) | refine x_seq (fun K hK => ?_) | refine x_nil ?_ | refine x_block ?_ | refine x_skip ?_ | refine x_exit ?_ | refine x_ret ?_ | refine x_label ?_ | refine x_scope ?_ | (refine seq_ret ?_; clear hK K) | (refine seq_exit ?_; clear hK K) | refine block_normal ?_ | refine block_ret ?_ | refine block_exit ?_ | refine loop_exit ?_ | refine loop_ret ?_)
          | ((with_reducible refine x_reg_lit ?hq ?_); case hq => rfl)
          | ((first | (with_reducible first | refine x_op (fun K hK => ?_) | refine end_ret ?_ | refine end_normal ?_) | ((with_reducible refine x_guard_yes ?hy (fun K hK => ?_)); case hy => rfl)); simp only [go_sem, Int.cast_ofNat_Int, Nat.reduceEqDiff, Nat.reduceAdd, Nat.reduceMul, Nat.reduceLeDiff, Nat.reduceLT, Int.reduceLT, Int.reduceLE, Int.reduceEq, Int.reduceNeg, Int.reduceToNat, Nat.reducePow, reduceIte, reduceCtorEq, i15, i3, e0, e14, ew])
          | ((with_reducible first | refine x_guard_no ?hy ?_ | refine x_cond_true ?hy ?_); case hy => rfl)
          | ((with_reducible first | refine x_guard_none ?hy ?_ | refine x_cond_false ?hy ?_); case hy => rfl)
          | ((with_reducible refine block_exit_ne ?hy ?_); case hy => decide))
        refine loop_normal (show A.vals.length - (h + 1) < _ by omega) ⟨h + 1, v', rfl, rfl, hlt, rfl, ?_, hf.trans' hf2 fun b hb h => by omega⟩
        rw [range_filter, hs]
        simpa using hi2
  · obtain rfl : h = A.vals.length := by omega
    have e2 : (A.vals.length < A.vals.length) = False := by simp
    repeat' (first
      | (with_reducible first | refine seq_normal ?_ | (refine hK _ _ ?_; clear hK K) | refine x_seq (fun K hK => ?_) | refine x_nil ?_ | refine x_block ?_ | refine x_skip ?_ | refine x_exit ?_ | refine x_ret ?_ | refine x_label ?_ | refine x_scope ?_ | (refine seq_ret ?_; clear hK K) | (refine seq_exit ?_; clear hK K) | refine block_normal ?_ | refine block_ret ?_ | refine block_exit ?_ | refine loop_exit ?_ | refine loop_ret ?_)
      | ((with_reducible refine x_reg_lit ?hq ?_); case hq => rfl)
      | ((first | (with_reducible first | refine x_op (fun K hK => ?_) | refine end_ret ?_ | refine end_normal ?_) | ((with_reducible refine x_guard_yes ?hy (fun K hK => ?_)); case hy => rfl)); simp only [go_sem, Int.cast_ofNat_Int, Nat.reduceEqDiff, Nat.reduceAdd, Nat.reduceMul, Nat.reduceLeDiff, Nat.reduceLT, Int.reduceLT, Int.reduceLE, Int.reduceEq, Int.reduceNeg, Int.reduceToNat, Nat.reducePow, reduceIte, reduceCtorEq, i15, i3, e0, e14, h2', e2])
      | ((with_reducible first | refine x_guard_no ?hy ?_ | refine x_cond_true ?hy ?_); case hy => rfl)
      | ((with_reducible first | refine x_guard_none ?hy ?_ | refine x_cond_false ?hy ?_); case hy => rfl)
      | ((with_reducible refine block_exit_ne ?hy ?_); case hy => decide))
    exact hk _ _ hi hf
end Go.Proofs.Ytkfcbgnodjgdcaa.ArStr
