/-
  The document's arena: All.
-/
import Derived.Test.YtkfcbgnodjgdcaaRfC
namespace Go.Hp
open Go
set_option linter.unusedVariables false
def Rf.upto (R : Rf) (j : Nat) : List Nat := (List.range j).filter fun h => decide (1 ≤ h) && R.used.getD h false
theorem Rf.upto_succ (R : Rf) (j : Nat) : R.upto (j + 1) = R.upto j ++ if decide (1 ≤ j) && R.used.getD j false then [j] else [] := by
  unfold Rf.upto
  rw [List.range_succ, List.filter_append]
  congr 1
  rw [List.filter_cons]; rfl
theorem rfOf_upto {A : Ar} {k : Nat} (ok : A.Ok k) : (rfOf A).upto A.vals.length = A.handles := by
  unfold Rf.upto Ar.handles
  apply List.filter_congr
  intro h hh
  have := rfOf_hasB A (h : Nat)
  unfold Rf.hasB Ar.hasB at this
  simp only [Int.toNat_natCast] at this
  have e : decide ((1 : Int) ≤ (h : Nat)) = decide (1 ≤ h) := by
    apply decide_eq_decide.2; omega
  rw [e] at this
  rw [this]
  by_cases h1 : 1 ≤ h
  · simp [h1]
  · obtain rfl : h = 0 := by omega
    have h0 := ok.zero
    unfold Ar.get
    rw [h0]
    simp
end Go.Hp
namespace Go.Proofs.Ytkfcbgnodjgdcaa
open Go Go.Hp
set_option linter.all false
set_option maxRecDepth 100000
set_option maxHeartbeats 1600000
section
variable {H : Heap} {p : Nat} {T : Nat → Prop} {R : Rf} {K : Value → Heap → Prop}
theorem rf_all (hM : RfM H p T R) (fin : ∀ v H' B, IR H' B v ((R.upto R.used.length).map Int.ofNat) → Fr (fun _ => False) H H' → (∀ g, B = some g → H.size ≤ g) → K v H') :
    CallsH Try.prog 40 #[.pointer (some ⟨p, 0, none⟩)] H K := by
  have hM' := hM
  obtain ⟨BU, BF, vU, vF, h1, h2, h3, h4, h5, h6, h7⟩ := hM
  obtain ⟨g, c, hB, hv, hc⟩ := h2.open h4.ne
  subst hB hv
  have hpos := List.length_pos_iff.2 h4.ne
  have hl := h4.len
  have hr := h4.room
  refine call40 (by simp) ?_
  simp only [Try.f40, Option.getD_some]
  repeat' (first
    | (with_reducible first | refine seq_normal ?_ | (refine hK _ _ ?_; clear hK K) | refine x_seq (fun K hK => ?_) | refine x_nil ?_ | refine x_block ?_ | refine x_skip ?_ | refine x_exit ?_ | refine x_ret ?_ | refine x_label ?_ | refine x_scope ?_ | (refine seq_ret ?_; clear hK K) | (refine seq_exit ?_; clear hK K) | refine block_normal ?_ | refine block_ret ?_ | refine block_exit ?_ | refine loop_exit ?_ | refine loop_ret ?_)
    | ((with_reducible refine x_reg_lit ?hq ?_); case hq => rfl)
    | ((first | (with_reducible first | refine x_op (fun K hK => ?_) | refine end_ret ?_ | refine end_normal ?_) | ((with_reducible refine x_guard_yes ?hy (fun K hK => ?_)); case hy => rfl)); simp only [go_sem, Int.cast_ofNat_Int, Nat.reduceEqDiff, Nat.reduceAdd, Nat.reduceMul, Nat.reduceLeDiff, Nat.reduceLT, Int.reduceLT, Int.reduceLE, Int.reduceEq, Int.reduceNeg, Int.reduceToNat, Nat.reducePow, reduceIte, reduceCtorEq])
    | ((with_reducible first | refine x_guard_no ?hy ?_ | refine x_cond_true ?hy ?_); case hy => rfl)
    | ((with_reducible first | refine x_guard_none ?hy ?_ | refine x_cond_false ?hy ?_); case hy => rfl)
    | ((with_reducible refine block_exit_ne ?hy ?_); case hy => decide))
  refine x_loop (fun m e' H' => ∃ (j : Nat) (B : Option Nat) (v : Value), e' 3 = v ∧ e' 4 = .int .i64 (j : Nat) ∧ 1 ≤ j ∧ j ≤ R.used.length ∧ IR H' B v ((R.upto j).map Int.ofNat) ∧ Fr (fun _ => False) H H' ∧ (∀ g, B = some g → H.size ≤ g) ∧ m = R.used.length - j) (R.used.length - 1)
    ⟨1, none, _, rfl, rfl, Nat.le_refl _, hpos, IR.nil _, Fr.refl _ _, (fun g h => by cases h), rfl⟩ ?_
  rintro m e1 H1 ⟨j, B, v, i3, i4, hj1, hj, hv, hf, hBn, rfl⟩ hoff
  have i0 := (hoff 0 rfl).trans rfl
  clear hoff
  obtain ⟨BU, BF, vU, vF, k1, k2, k3, -⟩ := hM'.grow hf
  obtain ⟨g', c', hB', hv', hc'⟩ := k2.open h4.ne
  subst hB' hv'
  have c1 := k1.cellOf (i := 1) rfl
  by_cases hlt : j < R.used.length
  · obtain ⟨x, hx⟩ : ∃ x, R.used[j]? = some x := ⟨_, List.getElem?_eq_getElem hlt⟩
    have cx := k2.cell hx
    have ew : IntKind.i64.wrap ((j : Int) + 1) = ((j + 1 : Nat) : Int) := by rw [wrap_i64] <;> omega
    have hs := R.upto_succ j
    rw [List.getD_eq_getElem?_getD, hx] at hs
    cases x with
    | true =>
      simp only [hj1, decide_true, Option.getD_some, Bool.and_self, if_true] at hs
      have hul : (R.upto j).length ≤ j := by
        unfold Rf.upto
        refine Nat.le_trans (List.length_filter_le _ _) ?_
        simp
      obtain ⟨a, n, rfl⟩ := hv.slice
      repeat' (first
        | (with_reducible first | refine seq_normal ?_ | (refine hK _ _ ?_; clear hK K) | refine x_seq (fun K hK => ?_) | refine x_nil ?_ | refine x_block ?_ | refine x_skip ?_ | refine x_exit ?_ | refine x_ret ?_ | refine x_label ?_ | refine x_scope ?_ | (refine seq_ret ?_; clear hK K) | (refine seq_exit ?_; clear hK K) | refine block_normal ?_ | refine block_ret ?_ | refine block_exit ?_ | refine loop_exit ?_ | refine loop_ret ?_)
        | ((with_reducible refine x_reg_lit ?hq ?_); case hq => rfl)
        | ((first | (with_reducible first | refine x_op (fun K hK => ?_) | refine end_ret ?_ | refine end_normal ?_) | ((with_reducible refine x_guard_yes ?hy (fun K hK => ?_)); case hy => rfl)); simp only [go_sem, Int.cast_ofNat_Int, Nat.reduceEqDiff, Nat.reduceAdd, Nat.reduceMul, Nat.reduceLeDiff, Nat.reduceLT, Int.reduceLT, Int.reduceLE, Int.reduceEq, Int.reduceNeg, Int.reduceToNat, Nat.reducePow, reduceIte, reduceCtorEq, i0, i3, i4, c1, hlt, cx, ew])
        | ((with_reducible first | refine x_guard_no ?hy ?_ | refine x_cond_true ?hy ?_); case hy => rfl)
        | ((with_reducible first | refine x_guard_none ?hy ?_ | refine x_cond_false ?hy ?_); case hy => rfl)
        | ((with_reducible refine block_exit_ne ?hy ?_); case hy => decide))
      refine append_ir elems22 tl3 hv rfl (by decide) (by simp; omega) rfl ?_
      intro v2 H2 B2 hv2 hf2 hB2
      repeat' (first
        | (with_reducible first | refine seq_normal ?_ | (refine hK _ _ ?_; clear hK K) | refine x_seq (fun K hK => ?_) | refine x_nil ?_ | refine x_block ?_ | refine x_skip ?_ | refine x_exit ?_ | refine x_ret ?_ | refine x_label ?_ | refine x_scope ?_ | (refine seq_ret ?_; clear hK K) | (refine seq_exit ?_; clear hK K) | refine block_normal ?_ | refine block_ret ?_ | refine block_exit ?_ | refine loop_exit ?_ | refine loop_ret ?_)
        | ((with_reducible refine x_reg_lit ?hq ?_); case hq => rfl)
        | ((first | (with_reducible first | refine x_op (fun K hK => ?_) | refine end_ret ?_ | refine end_normal ?_) | ((with_reducible refine x_guard_yes ?hy (fun K hK => ?_)); case hy => rfl)); simp only [go_sem, Int.cast_ofNat_Int, Nat.reduceEqDiff, Nat.reduceAdd, Nat.reduceMul, Nat.reduceLeDiff, Nat.reduceLT, Int.reduceLT, Int.reduceLE, Int.reduceEq, Int.reduceNeg, Int.reduceToNat, Nat.reducePow, reduceIte, reduceCtorEq, i0, i3, i4, ew])
        | ((with_reducible first | refine x_guard_no ?hy ?_ | refine x_cond_true ?hy ?_); case hy => rfl)
        | ((with_reducible first | refine x_guard_none ?hy ?_ | refine x_cond_false ?hy ?_); case hy => rfl)
        | ((with_reducible refine block_exit_ne ?hy ?_); case hy => decide))
      refine loop_normal (m' := R.used.length - (j + 1)) (by omega) ⟨j + 1, B2, v2, rfl, rfl, by omega, by omega, ?_, hf.trans' hf2 fun b hb h => by have := hBn b h; omega, ?_, rfl⟩
      · rw [hs, List.map_append]; exact hv2
      · intro g hg
        rcases hB2 with rfl | ⟨g', rfl, hg'⟩
        · exact hBn g hg
        · rw [← Option.some.inj hg]
          have := hf.size
          omega
    | false =>
      simp only [Option.getD_some, Bool.and_false, Bool.false_eq_true, if_false, List.append_nil] at hs
      repeat' (first
        | (with_reducible first | refine seq_normal ?_ | (refine hK _ _ ?_; clear hK K) | refine x_seq (fun K hK => ?_) | refine x_nil ?_ | refine x_block ?_ | refine x_skip ?_ | refine x_exit ?_ | refine x_ret ?_ | refine x_label ?_ | refine x_scope ?_ | (refine seq_ret ?_; clear hK K) | (refine seq_exit ?_; clear hK K) | refine block_normal ?_ | refine block_ret ?_ | refine block_exit ?_ | refine loop_exit ?_ | refine loop_ret ?_)
        | ((with_reducible refine x_reg_lit ?hq ?_); case hq => rfl)
        | ((first | (with_reducible first | refine x_op (fun K hK => ?_) | refine end_ret ?_ | refine end_normal ?_) | ((with_reducible refine x_guard_yes ?hy (fun K hK => ?_)); case hy => rfl)); simp only [go_sem, Int.cast_ofNat_Int, Nat.reduceEqDiff, Nat.reduceAdd, Nat.reduceMul, Nat.reduceLeDiff, Nat.reduceLT, Int.reduceLT, Int.reduceLE, Int.reduceEq, Int.reduceNeg, Int.reduceToNat, Nat.reducePow, reduceIte, reduceCtorEq, i0, i3, i4, c1, hlt, cx, ew])
        | ((with_reducible first | refine x_guard_no ?hy ?_ | refine x_cond_true ?hy ?_); case hy => rfl)
        | ((with_reducible first | refine x_guard_none ?hy ?_ | refine x_cond_false ?hy ?_); case hy => rfl)
        | ((with_reducible refine block_exit_ne ?hy ?_); case hy => decide))
      refine loop_normal (m' := R.used.length - (j + 1)) (by omega) ⟨j + 1, B, v, i3, rfl, by omega, by omega, by rw [hs]; exact hv, hf, hBn, rfl⟩
  · have t1 : (j < R.used.length) = False := by simp; omega
    have hj' : j = R.used.length := by omega
    rw [hj'] at hv
    repeat' (first
      | (with_reducible first | refine seq_normal ?_ | (refine hK _ _ ?_; clear hK K) | refine x_seq (fun K hK => ?_) | refine x_nil ?_ | refine x_block ?_ | refine x_skip ?_ | refine x_exit ?_ | refine x_ret ?_ | refine x_label ?_ | refine x_scope ?_ | (refine seq_ret ?_; clear hK K) | (refine seq_exit ?_; clear hK K) | refine block_normal ?_ | refine block_ret ?_ | refine block_exit ?_ | refine loop_exit ?_ | refine loop_ret ?_)
      | ((with_reducible refine x_reg_lit ?hq ?_); case hq => rfl)
      | ((first | (with_reducible first | refine x_op (fun K hK => ?_) | refine end_ret ?_ | refine end_normal ?_) | ((with_reducible refine x_guard_yes ?hy (fun K hK => ?_)); case hy => rfl)); simp only [go_sem, Int.cast_ofNat_Int, Nat.reduceEqDiff, Nat.reduceAdd, Nat.reduceMul, Nat.reduceLeDiff, Nat.reduceLT, Int.reduceLT, Int.reduceLE, Int.reduceEq, Int.reduceNeg, Int.reduceToNat, Nat.reducePow, reduceIte, reduceCtorEq, i0, i3, i4, c1, t1])
      | ((with_reducible first | refine x_guard_no ?hy ?_ | refine x_cond_true ?hy ?_); case hy => rfl)
      | ((with_reducible first | refine x_guard_none ?hy ?_ | refine x_cond_false ?hy ?_); case hy => rfl)
      | ((with_reducible refine block_exit_ne ?hy ?_); case hy => decide))
    exact fin _ _ B hv hf hBn
theorem rfa_all {A : Ar} {k : Nat} (hM : RfM H p T (rfOf A)) (ok : A.Ok k) (fin : ∀ v H' B, IR H' B v (A.handles.map Int.ofNat) → Fr (fun _ => False) H H' → (∀ g, B = some g → H.size ≤ g) → K v H') :
    CallsH Try.prog 40 #[.pointer (some ⟨p, 0, none⟩)] H K := by
  refine rf_all hM fun v H' B h1 h2 h3 => fin v H' B ?_ h2 h3
  have : (rfOf A).used.length = A.vals.length := by simp [rfOf]
  rw [this, rfOf_upto ok] at h1
  exact h1
end
end Go.Proofs.Ytkfcbgnodjgdcaa
