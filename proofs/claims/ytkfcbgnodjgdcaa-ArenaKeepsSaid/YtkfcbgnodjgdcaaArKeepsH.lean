/-
  The helpers of ArenaKeeps: again, gone; the equality of pairs of ints.
-/
import Derived.Test.YtkfcbgnodjgdcaaArL
import Derived.Test.YtkfcbgnodjgdcaaArTwoU
import Derived.Test.YtkfcbgnodjgdcaaArKeepsP
import Derived.Test.YtkfcbgnodjgdcaaHpR
namespace Go.Proofs.Ytkfcbgnodjgdcaa
open Go Go.Hp
set_option linter.all false
set_option maxRecDepth 100000

theorem again_ok {H : Heap} {B1 B2 : Option Nat} {v1 v2 : Value} {hs ws : List Int} {k j : Nat} {a w : Int} {K : Value → Heap → Prop}
    (h1 : IR H B1 v1 hs) (h2 : IR H B2 v2 ws) (hl : hs.length ≤ 1000) (hk : hs[k]? = some a) (hj : hs[j]? = some a) (hw : ws[j]? = some w) (h0 : 0 ≤ w) (hkj : k < j)
    (hlen : hs.length = ws.length) (hK : K (.bool true) H) : CallsH Try.prog 17 #[v1, v2, .int .i64 k] H K := by
  obtain ⟨g1, c1, rfl, rfl, r1⟩ := h1.read hj
  obtain ⟨g2, c2, rfl, rfl, r2⟩ := h2.read hw
  have rk := h1.cell hk
  have hjl := (List.getElem?_eq_some_iff.1 hj).1
  have ek : IntKind.i64.wrap ((k : Int) + 1) = ((k + 1 : Nat) : Int) := by rw [wrap_i64] <;> omega
  refine call17 (by simp) ?_
  simp only [Try.f17, Option.getD_some]
  repeat' (first
    | (with_reducible first | refine seq_normal ?_ | (refine hK _ _ ?_; clear hK K) | refine x_seq (fun K hK => ?_) | refine x_nil ?_ | refine x_block ?_ | refine x_skip ?_ | refine x_exit ?_ | refine x_ret ?_ | refine x_label ?_ | refine x_scope ?_ | (refine seq_ret ?_; clear hK K) | (refine seq_exit ?_; clear hK K) | refine block_normal ?_ | refine block_ret ?_ | refine block_exit ?_ | refine loop_exit ?_ | refine loop_ret ?_)
    | ((with_reducible refine x_reg_lit ?hq ?_); case hq => rfl)
    | ((first | (with_reducible first | refine x_op (fun K hK => ?_) | refine end_ret ?_ | refine end_normal ?_) | ((with_reducible refine x_guard_yes ?hy (fun K hK => ?_)); case hy => rfl)); simp only [go_sem, Nat.reduceEqDiff, Nat.reduceAdd, Nat.reduceMul, Nat.reduceLeDiff, Nat.reduceLT, Int.reduceLT, Int.reduceLE, Int.reduceEq, Int.reduceNeg, Int.reduceToNat, Nat.reducePow, reduceIte, reduceCtorEq, ek])
    | ((with_reducible first | refine x_guard_no ?hy ?_ | refine x_cond_true ?hy ?_); case hy => rfl)
    | ((with_reducible refine x_cond_false ?hy ?_); case hy => rfl)
    | ((with_reducible refine block_exit_ne ?hy ?_); case hy => decide))
  refine x_loop (fun m e' H' => ∃ i : Nat, H' = H ∧ e' 7 = .int .i64 i ∧ k < i ∧ i ≤ j ∧ m = j - i) (j - (k + 1)) ⟨k + 1, rfl, rfl, by omega, by omega, rfl⟩ ?_
  rintro m e1 _ ⟨i, rfl, i7, hi1, hi2, rfl⟩ hoff
  have e0 := (hoff 0 rfl).trans rfl
  have e1' := (hoff 1 rfl).trans rfl
  have e2 := (hoff 2 rfl).trans rfl
  have t1 : (i < hs.length) = True := by simp; omega
  have t2 : (k < hs.length) = True := by simp; omega
  have t3 : (i < ws.length) = True := by simp; omega
  obtain ⟨a', ha'⟩ : ∃ a', hs[i]? = some a' := ⟨_, List.getElem?_eq_getElem (by omega)⟩
  obtain ⟨w', hw'⟩ : ∃ w', ws[i]? = some w' := ⟨_, List.getElem?_eq_getElem (by omega)⟩
  have ri := h1.cell ha'
  have qi := h2.cell hw'
  have ew : IntKind.i64.wrap ((i : Int) + 1) = ((i + 1 : Nat) : Int) := by rw [wrap_i64] <;> omega
  by_cases hc : a' = a ∧ 0 ≤ w'
  · obtain ⟨rfl, hc⟩ := hc
    have c2 : (0 ≤ w') = True := by simp [hc]
    repeat' (first
      | (with_reducible first | refine seq_normal ?_ | (refine hK _ _ ?_; clear hK K) | refine x_seq (fun K hK => ?_) | refine x_nil ?_ | refine x_block ?_ | refine x_skip ?_ | refine x_exit ?_ | refine x_ret ?_ | refine x_label ?_ | refine x_scope ?_ | (refine seq_ret ?_; clear hK K) | (refine seq_exit ?_; clear hK K) | refine block_normal ?_ | refine block_ret ?_ | refine block_exit ?_ | refine loop_exit ?_ | refine loop_ret ?_)
      | ((with_reducible refine x_reg_lit ?hq ?_); case hq => rfl)
      | ((first | (with_reducible first | refine x_op (fun K hK => ?_) | refine end_ret ?_ | refine end_normal ?_) | ((with_reducible refine x_guard_yes ?hy (fun K hK => ?_)); case hy => rfl)); simp only [go_sem, Nat.reduceEqDiff, Nat.reduceAdd, Nat.reduceMul, Nat.reduceLeDiff, Nat.reduceLT, Int.reduceLT, Int.reduceLE, Int.reduceEq, Int.reduceNeg, Int.reduceToNat, Nat.reducePow, reduceIte, reduceCtorEq, i7, e0, e1', e2, t1, t2, t3, ri, qi, rk, c2])
      | ((with_reducible first | refine x_guard_no ?hy ?_ | refine x_cond_true ?hy ?_); case hy => rfl)
      | ((with_reducible refine x_cond_false ?hy ?_); case hy => rfl)
      | ((with_reducible refine block_exit_ne ?hy ?_); case hy => decide))
    exact hK
  · have hne : i ≠ j := fun e => by
      subst e
      rw [hj] at ha'; rw [hw] at hw'
      cases ha'; cases hw'
      exact hc ⟨rfl, h0⟩
    by_cases ha : a' = a
    · subst ha
      have c2 : (0 ≤ w') = False := by simp; omega
      repeat' (first
        | (with_reducible first | refine seq_normal ?_ | (refine hK _ _ ?_; clear hK K) | refine x_seq (fun K hK => ?_) | refine x_nil ?_ | refine x_block ?_ | refine x_skip ?_ | refine x_exit ?_ | refine x_ret ?_ | refine x_label ?_ | refine x_scope ?_ | (refine seq_ret ?_; clear hK K) | (refine seq_exit ?_; clear hK K) | refine block_normal ?_ | refine block_ret ?_ | refine block_exit ?_ | refine loop_exit ?_ | refine loop_ret ?_)
        | ((with_reducible refine x_reg_lit ?hq ?_); case hq => rfl)
        | ((first | (with_reducible first | refine x_op (fun K hK => ?_) | refine end_ret ?_ | refine end_normal ?_) | ((with_reducible refine x_guard_yes ?hy (fun K hK => ?_)); case hy => rfl)); simp only [go_sem, Nat.reduceEqDiff, Nat.reduceAdd, Nat.reduceMul, Nat.reduceLeDiff, Nat.reduceLT, Int.reduceLT, Int.reduceLE, Int.reduceEq, Int.reduceNeg, Int.reduceToNat, Nat.reducePow, reduceIte, reduceCtorEq, i7, e0, e1', e2, t1, t2, t3, ri, qi, rk, c2, ew])
        | ((with_reducible first | refine x_guard_no ?hy ?_ | refine x_cond_true ?hy ?_); case hy => rfl)
        | ((with_reducible refine x_cond_false ?hy ?_); case hy => rfl)
        | ((with_reducible refine block_exit_ne ?hy ?_); case hy => decide))
      exact loop_normal (show j - (i + 1) < _ by omega) ⟨i + 1, rfl, rfl, by omega, by omega, rfl⟩
    · have c1 : (a' == a) = false := by simp [ha]
      repeat' (first
        | (with_reducible first | refine seq_normal ?_ | (refine hK _ _ ?_; clear hK K) | refine x_seq (fun K hK => ?_) | refine x_nil ?_ | refine x_block ?_ | refine x_skip ?_ | refine x_exit ?_ | refine x_ret ?_ | refine x_label ?_ | refine x_scope ?_ | (refine seq_ret ?_; clear hK K) | (refine seq_exit ?_; clear hK K) | refine block_normal ?_ | refine block_ret ?_ | refine block_exit ?_ | refine loop_exit ?_ | refine loop_ret ?_)
        | ((with_reducible refine x_reg_lit ?hq ?_); case hq => rfl)
        | ((first | (with_reducible first | refine x_op (fun K hK => ?_) | refine end_ret ?_ | refine end_normal ?_) | ((with_reducible refine x_guard_yes ?hy (fun K hK => ?_)); case hy => rfl)); simp only [go_sem, Nat.reduceEqDiff, Nat.reduceAdd, Nat.reduceMul, Nat.reduceLeDiff, Nat.reduceLT, Int.reduceLT, Int.reduceLE, Int.reduceEq, Int.reduceNeg, Int.reduceToNat, Nat.reducePow, reduceIte, reduceCtorEq, i7, e0, e1', e2, t1, t2, t3, ri, rk, c1, ew])
        | ((with_reducible first | refine x_guard_no ?hy ?_ | refine x_cond_true ?hy ?_); case hy => rfl)
        | ((with_reducible refine x_cond_false ?hy ?_); case hy => rfl)
        | ((with_reducible refine block_exit_ne ?hy ?_); case hy => decide))
      exact loop_normal (show j - (i + 1) < _ by omega) ⟨i + 1, rfl, rfl, by omega, by omega, rfl⟩
theorem gone_ok {H : Heap} {B1 B2 : Option Nat} {v1 v2 : Value} {hs ws : List Int} {h : Int} {K : Value → Heap → Prop}
    (h1 : IR H B1 v1 hs) (h2 : IR H B2 v2 ws) (hl : hs.length ≤ 1000) (hlen : hs.length = ws.length) (hB : ∀ g, B1 = some g → B2 ≠ some g)
    (hK : ∀ H' ws', IR H' B2 v2 ws' → ws'.length = ws.length → (∀ (k : Nat) (a w : Int), hs[k]? = some a → ws[k]? = some w → ws'[k]? = some (if a = h then -1 else w)) → Fr (fun b => B2 = some b) H H' → K (.tuple #[]) H') :
    CallsH Try.prog 18 #[v1, v2, .int .i64 h] H K := by
  obtain ⟨a1, c1, s1⟩ := h1.slice
  refine call18 (by simp) ?_
  simp only [Try.f18, Option.getD_some]
  repeat' (first
    | (with_reducible first | refine seq_normal ?_ | (refine hK _ _ ?_; clear hK K) | refine x_seq (fun K hK => ?_) | refine x_nil ?_ | refine x_block ?_ | refine x_skip ?_ | refine x_exit ?_ | refine x_ret ?_ | refine x_label ?_ | refine x_scope ?_ | (refine seq_ret ?_; clear hK K) | (refine seq_exit ?_; clear hK K) | refine block_normal ?_ | refine block_ret ?_ | refine block_exit ?_ | refine loop_exit ?_ | refine loop_ret ?_)
    | ((with_reducible refine x_reg_lit ?hq ?_); case hq => rfl)
    | ((first | (with_reducible first | refine x_op (fun K hK => ?_) | refine end_ret ?_ | refine end_normal ?_) | ((with_reducible refine x_guard_yes ?hy (fun K hK => ?_)); case hy => rfl)); simp only [go_sem, Nat.reduceEqDiff, Nat.reduceAdd, Nat.reduceMul, Nat.reduceLeDiff, Nat.reduceLT, Int.reduceLT, Int.reduceLE, Int.reduceEq, Int.reduceNeg, Int.reduceToNat, Nat.reducePow, reduceIte, reduceCtorEq])
    | ((with_reducible first | refine x_guard_no ?hy ?_ | refine x_cond_true ?hy ?_); case hy => rfl)
    | ((with_reducible refine x_cond_false ?hy ?_); case hy => rfl)
    | ((with_reducible refine block_exit_ne ?hy ?_); case hy => decide))
  refine x_loop (fun m e' H' => ∃ (i : Nat) (ws' : List Int), e' 6 = .int .i64 i ∧ i ≤ hs.length ∧ m = hs.length - i ∧ IR H' B2 v2 ws' ∧ ws'.length = ws.length ∧
    (∀ (k : Nat) (a w : Int), hs[k]? = some a → ws[k]? = some w → ws'[k]? = some (if k < i ∧ a = h then -1 else w)) ∧ Fr (fun b => B2 = some b) H H') hs.length
    ⟨0, ws, rfl, Nat.zero_le _, rfl, h2, rfl, fun k a w _ hw => by rw [if_neg (by omega)]; exact hw, .refl _ _⟩ ?_
  rintro m e1 H1 ⟨i, ws', i6, hi, rfl, h2', hl', hw', hf⟩ hoff
  have e0 := (hoff 0 rfl).trans rfl
  have e1' := (hoff 1 rfl).trans rfl
  have e2 := (hoff 2 rfl).trans rfl
  have h1' := h1.frame hf (fun g hg => hB g hg)
  have ew : IntKind.i64.wrap ((i : Int) + 1) = ((i + 1 : Nat) : Int) := by rw [wrap_i64] <;> omega
  by_cases hlt : i < hs.length
  · obtain ⟨a', ha'⟩ : ∃ a', hs[i]? = some a' := ⟨_, List.getElem?_eq_getElem hlt⟩
    obtain ⟨w', hww⟩ : ∃ w', ws'[i]? = some w' := ⟨_, List.getElem?_eq_getElem (by omega)⟩
    obtain ⟨g1, c1', rfl, hv1, r1⟩ := h1'.read ha'
    obtain ⟨g2, c2, rfl, hv2, r2⟩ := h2'.read hww
    subst hv1
    subst hv2
    have t3 : (i < ws'.length) = True := by simp; omega
    obtain ⟨wk, wr⟩ := h2'.write (i := i) (by omega) (-1)
    by_cases hah : a' = h
    · subst hah
      repeat' (first
        | (with_reducible first | refine seq_normal ?_ | (refine hK _ _ ?_; clear hK K) | refine x_seq (fun K hK => ?_) | refine x_nil ?_ | refine x_block ?_ | refine x_skip ?_ | refine x_exit ?_ | refine x_ret ?_ | refine x_label ?_ | refine x_scope ?_ | (refine seq_ret ?_; clear hK K) | (refine seq_exit ?_; clear hK K) | refine block_normal ?_ | refine block_ret ?_ | refine block_exit ?_ | refine loop_exit ?_ | refine loop_ret ?_)
        | ((with_reducible refine x_reg_lit ?hq ?_); case hq => rfl)
        | ((first | (with_reducible first | refine x_op (fun K hK => ?_) | refine end_ret ?_ | refine end_normal ?_) | ((with_reducible refine x_guard_yes ?hy (fun K hK => ?_)); case hy => rfl)); simp only [go_sem, Nat.reduceEqDiff, Nat.reduceAdd, Nat.reduceMul, Nat.reduceLeDiff, Nat.reduceLT, Int.reduceLT, Int.reduceLE, Int.reduceEq, Int.reduceNeg, Int.reduceToNat, Nat.reducePow, reduceIte, reduceCtorEq, i6, e0, e1', e2, hlt, t3, r1, wk, ew])
        | ((with_reducible first | refine x_guard_no ?hy ?_ | refine x_cond_true ?hy ?_); case hy => rfl)
        | ((with_reducible refine x_cond_false ?hy ?_); case hy => rfl)
        | ((with_reducible refine block_exit_ne ?hy ?_); case hy => decide))
      refine loop_normal (show hs.length - (i + 1) < _ by omega) ⟨i + 1, _, rfl, hlt, rfl, wr, by simp [hl'], ?_, hf.trans (Fr.set (Fr.refl (fun b => some g2 = some b) H1) (.inl rfl) _)⟩
      intro k a w hk hwk
      by_cases hki : k = i
      · subst hki
        rw [ha'] at hk
        cases hk
        rw [List.getElem?_set_self (by omega), if_pos ⟨by omega, rfl⟩]
      · rw [List.getElem?_set_ne (Ne.symm hki), hw' k a w hk hwk]
        have : (k < i ∧ a = a') ↔ (k < i + 1 ∧ a = a') := by constructor <;> (rintro ⟨x, y⟩; exact ⟨by omega, y⟩)
        simp only [this]
    · have c1 : (a' == h) = false := by simp [hah]
      repeat' (first
        | (with_reducible first | refine seq_normal ?_ | (refine hK _ _ ?_; clear hK K) | refine x_seq (fun K hK => ?_) | refine x_nil ?_ | refine x_block ?_ | refine x_skip ?_ | refine x_exit ?_ | refine x_ret ?_ | refine x_label ?_ | refine x_scope ?_ | (refine seq_ret ?_; clear hK K) | (refine seq_exit ?_; clear hK K) | refine block_normal ?_ | refine block_ret ?_ | refine block_exit ?_ | refine loop_exit ?_ | refine loop_ret ?_)
        | ((with_reducible refine x_reg_lit ?hq ?_); case hq => rfl)
        | ((first | (with_reducible first | refine x_op (fun K hK => ?_) | refine end_ret ?_ | refine end_normal ?_) | ((with_reducible refine x_guard_yes ?hy (fun K hK => ?_)); case hy => rfl)); simp only [go_sem, Nat.reduceEqDiff, Nat.reduceAdd, Nat.reduceMul, Nat.reduceLeDiff, Nat.reduceLT, Int.reduceLT, Int.reduceLE, Int.reduceEq, Int.reduceNeg, Int.reduceToNat, Nat.reducePow, reduceIte, reduceCtorEq, i6, e0, e1', e2, hlt, t3, r1, c1, ew])
        | ((with_reducible first | refine x_guard_no ?hy ?_ | refine x_cond_true ?hy ?_); case hy => rfl)
        | ((with_reducible refine x_cond_false ?hy ?_); case hy => rfl)
        | ((with_reducible refine block_exit_ne ?hy ?_); case hy => decide))
      refine loop_normal (show hs.length - (i + 1) < _ by omega) ⟨i + 1, _, rfl, hlt, rfl, h2', hl', ?_, hf⟩
      intro k a w hk hwk
      rw [hw' k a w hk hwk]
      have : (k < i ∧ a = h) ↔ (k < i + 1 ∧ a = h) := by
        constructor
        · rintro ⟨x, y⟩; exact ⟨by omega, y⟩
        · rintro ⟨x, y⟩
          refine ⟨?_, y⟩
          rcases Nat.lt_or_ge k i with h | h
          · exact h
          · obtain rfl : k = i := by omega
            rw [ha'] at hk
            cases hk
            exact absurd y hah
      simp only [this]
  · obtain rfl : i = hs.length := by omega
    subst s1
    have t1 : (hs.length < hs.length) = False := by simp
    repeat' (first
      | (with_reducible first | refine seq_normal ?_ | (refine hK _ _ ?_; clear hK K) | refine x_seq (fun K hK => ?_) | refine x_nil ?_ | refine x_block ?_ | refine x_skip ?_ | refine x_exit ?_ | refine x_ret ?_ | refine x_label ?_ | refine x_scope ?_ | (refine seq_ret ?_; clear hK K) | (refine seq_exit ?_; clear hK K) | refine block_normal ?_ | refine block_ret ?_ | refine block_exit ?_ | refine loop_exit ?_ | refine loop_ret ?_)
      | ((with_reducible refine x_reg_lit ?hq ?_); case hq => rfl)
      | ((first | (with_reducible first | refine x_op (fun K hK => ?_) | refine end_ret ?_ | refine end_normal ?_) | ((with_reducible refine x_guard_yes ?hy (fun K hK => ?_)); case hy => rfl)); simp only [go_sem, Nat.reduceEqDiff, Nat.reduceAdd, Nat.reduceMul, Nat.reduceLeDiff, Nat.reduceLT, Int.reduceLT, Int.reduceLE, Int.reduceEq, Int.reduceNeg, Int.reduceToNat, Nat.reducePow, reduceIte, reduceCtorEq, i6, e0, t1])
      | ((with_reducible first | refine x_guard_no ?hy ?_ | refine x_cond_true ?hy ?_); case hy => rfl)
      | ((with_reducible refine x_cond_false ?hy ?_); case hy => rfl)
      | ((with_reducible refine block_exit_ne ?hy ?_); case hy => decide))
    refine hK _ _ h2' hl' (fun k a w hk hwk => ?_) hf
    rw [hw' k a w hk hwk]
    have := (List.getElem?_eq_some_iff.1 hk).1
    simp only [this, true_and]
end Go.Proofs.Ytkfcbgnodjgdcaa
