/-
  SplayReverse returns true, whatever it is given, and writes nothing that was there.
-/
import Derived.Test.YtndkbhlfbeiniaaM6
namespace Go.Proofs.Ytndkbhlfbeiniaa
open Go Go.Hp Go.Sp
set_option linter.all false
set_option maxRecDepth 100000
set_option maxHeartbeats 1600000

def singles (l : List Nat) : List (List Nat) := l.map fun x => [x]
theorem singles_flat (l : List Nat) : (singles l).flatten = l := by
  induction l with
  | nil => rfl
  | cons x l ih => simp [singles] at ih ⊢; exact ih
theorem singles_append (l r : List Nat) : singles (l ++ r) = singles l ++ singles r := by simp [singles]
/-- A sequence cut ahead of all of its nodes up to one. -/
def CutTo (S : Sq) (all : List Nat) (i : Nat) : Prop := S.rows.Perm (all.drop (i - 1) :: singles (all.take (i - 1)))
theorem cut_step {S : Sq} {all : List Nat} {i x : Nat} (h : CutTo S all i) (hx : all[i]? = some x) (hi : i ≠ 0) : ∃ y, S.rows.Perm (([y] ++ x :: all.drop (i + 1)) :: singles (all.take (i - 1))) ∧
    ∀ S' : Sq, S'.rows = [y] :: (x :: all.drop (i + 1)) :: singles (all.take (i - 1)) → CutTo S' all (i + 1) := by
  have hlt := (List.getElem?_eq_some_iff.1 hx).1
  have ex := (List.getElem?_eq_some_iff.1 hx).2
  have hd : all.drop (i - 1) = all[i - 1] :: x :: all.drop (i + 1) := by
    rw [List.drop_eq_getElem_cons (show i - 1 < all.length by omega), show i - 1 + 1 = i by omega, List.drop_eq_getElem_cons hlt, ex]
  refine ⟨all[i - 1], by unfold CutTo at h; rw [hd] at h; exact h, fun S' hr => ?_⟩
  unfold CutTo
  rw [hr, Nat.add_sub_cancel, List.drop_eq_getElem_cons hlt, ex]
  have ht : all.take i = all.take (i - 1) ++ [all[i - 1]] := by
    conv => lhs; rw [show i = i - 1 + 1 by omega, List.take_add_one]
    rw [List.getElem?_eq_getElem (by omega)]; rfl
  rw [ht, singles_append]
  refine (List.Perm.swap _ _ _).trans (List.Perm.cons _ ?_)
  exact (List.perm_append_singleton _ _).symm
theorem cut_end {S : Sq} {all : List Nat} (h : CutTo S all all.length) (hne : all ≠ []) : S.rows.Perm (singles all) := by
  have hpos := List.length_pos_iff.2 hne
  have hd : all.drop (all.length - 1) = [all[all.length - 1]] := by
    rw [List.drop_eq_getElem_cons (by omega), show all.length - 1 + 1 = all.length by omega, List.drop_length]
  have ht : all = all.take (all.length - 1) ++ [all[all.length - 1]] := by
    rw [← hd, List.take_append_drop]
  unfold CutTo at h
  rw [hd] at h
  refine h.trans ?_
  conv => rhs; rw [ht]
  rw [singles_append]
  exact (List.perm_append_singleton _ _).symm
section
variable {H0 H : Heap} {e : Env} {Q : HX → Env → Heap → Prop} {f : Nat} {T : Nat → Prop} {S : Sq} {B : Option Nat} {v : Value} {all : List Nat}
theorem revA (hM : RM H0 H f T S B v all) (hr : S.rows = [all]) (hne : all ≠ []) (hf0 : S.free = []) (e6 : e 6 = .pointer (some ⟨f, 0, none⟩)) (e7 : e 7 = v) (e8 : e 8 = .int .i64 0)
    (hQ : ∀ e' H' S', e' 6 = .pointer (some ⟨f, 0, none⟩) → e' 7 = v → RM H0 H' f T S' B v all → S'.rows = singles all → S'.free = S.free ∧ S'.room = S.room → Q .normal e' H') :
    codeX Try.prog [15] (loopAt Try.f8.body 0) (blockQ 0 Q) e H := by
  obtain ⟨g, c, rfl, rfl, hc⟩ := hM.open hne
  have hlen : all.length ≤ 4096 := by have := hM.fo.len; rw [hr] at this; simpa using this
  refine x_loop (fun m e' H' => ∃ (i : Nat) (S' : Sq), e' 8 = .int .i64 (i : Nat) ∧ RM H0 H' f T S' (some g) (.slice (some ⟨g, 0, none⟩) all.length c) all ∧ CutTo S' all i ∧ (S'.free = S.free ∧ S'.room = S.room) ∧ i ≤ all.length ∧ m = all.length - i)
    all.length ⟨0, S, e8, hM, by unfold CutTo; rw [hr]; exact .refl _, ⟨rfl, rfl⟩, Nat.zero_le _, rfl⟩ ?_
  rintro m e1 H1 ⟨i, S', i8, hM1, hcut, hfr, hi, rfl⟩ hoff
  have i6 := (hoff 6 rfl).trans e6
  have i7 := (hoff 7 rfl).trans e7
  clear hoff e6 e7 e8
  by_cases hlt : i < all.length
  · obtain ⟨x, hx⟩ : ∃ x, all[i]? = some x := ⟨_, List.getElem?_eq_getElem hlt⟩
    have cx := hM1.cell hx
    have ew : IntKind.i64.wrap ((i : Int) + 1) = ((i + 1 : Nat) : Int) := by rw [wrap_i64] <;> omega
    repeat' (first
      | (with_reducible first | refine seq_normal ?_ | (refine hK _ _ ?_; clear hK K) | refine x_seq (fun K hK => ?_) | refine x_nil ?_ | refine x_block ?_ | refine x_skip ?_ | refine x_exit ?_ | refine x_ret ?_ | refine x_label ?_ | refine x_scope ?_ | (refine seq_ret ?_; clear hK K) | (refine seq_exit ?_; clear hK K) | refine block_normal ?_ | refine block_ret ?_ | refine block_exit ?_ | refine loop_exit ?_ | refine loop_ret ?_)
      | ((with_reducible refine x_reg_lit ?hq ?_); case hq => rfl)
      | ((first | (with_reducible first | refine x_op (fun K hK => ?_) | refine end_ret ?_ | refine end_normal ?_) | ((with_reducible refine x_guard_yes ?hy (fun K hK => ?_)); case hy => rfl)); simp only [go_sem, Int.cast_ofNat_Int, Nat.reduceEqDiff, Nat.reduceAdd, Nat.reduceMul, Nat.reduceLeDiff, Nat.reduceLT, Int.reduceLT, Int.reduceLE, Int.reduceEq, Int.reduceNeg, Int.reduceToNat, Nat.reducePow, reduceIte, reduceCtorEq, i6, i7, i8, hlt, cx])
      | ((with_reducible first | refine x_guard_no ?hy ?_ | refine x_cond_true ?hy ?_); case hy => rfl)
      | ((with_reducible first | refine x_guard_none ?hy ?_ | refine x_cond_false ?hy ?_); case hy => rfl)
      | ((with_reducible refine block_exit_ne ?hy ?_); case hy => decide))
    by_cases hi0 : i = 0
    · subst hi0
      have ed : all.drop 0 = x :: all.drop 1 := by rw [List.drop_zero]; exact split_at' hx
      refine m_split_first (k := x) (r := all.drop 1) hM1.fo ?_ ?_
      · rw [← ed]
        exact hcut.mem_iff.2 (.head _)
      · intro H2 hF2 hf2
        repeat' (first
          | (with_reducible first | refine seq_normal ?_ | (refine hK _ _ ?_; clear hK K) | refine x_seq (fun K hK => ?_) | refine x_nil ?_ | refine x_block ?_ | refine x_skip ?_ | refine x_exit ?_ | refine x_ret ?_ | refine x_label ?_ | refine x_scope ?_ | (refine seq_ret ?_; clear hK K) | (refine seq_exit ?_; clear hK K) | refine block_normal ?_ | refine block_ret ?_ | refine block_exit ?_ | refine loop_exit ?_ | refine loop_ret ?_)
          | ((with_reducible refine x_reg_lit ?hq ?_); case hq => rfl)
          | ((first | (with_reducible first | refine x_op (fun K hK => ?_) | refine end_ret ?_ | refine end_normal ?_) | ((with_reducible refine x_guard_yes ?hy (fun K hK => ?_)); case hy => rfl)); simp only [go_sem, Int.cast_ofNat_Int, Nat.reduceEqDiff, Nat.reduceAdd, Nat.reduceMul, Nat.reduceLeDiff, Nat.reduceLT, Int.reduceLT, Int.reduceLE, Int.reduceEq, Int.reduceNeg, Int.reduceToNat, Nat.reducePow, reduceIte, reduceCtorEq, i8, ew])
          | ((with_reducible first | refine x_guard_no ?hy ?_ | refine x_cond_true ?hy ?_); case hy => rfl)
          | ((with_reducible first | refine x_guard_none ?hy ?_ | refine x_cond_false ?hy ?_); case hy => rfl)
          | ((with_reducible refine block_exit_ne ?hy ?_); case hy => decide))
        exact loop_normal (m' := all.length - 1) (by omega) ⟨1, S', rfl, hM1.op hF2 hf2, hcut, hfr, by omega, rfl⟩
    · obtain ⟨y, hp, hstep⟩ := cut_step hcut hx hi0
      refine m_split (k := x) (l := [y]) (r := all.drop (i + 1)) hM1.fo hp (by simp) ?_
      intro H2 hF2 hf2
      repeat' (first
        | (with_reducible first | refine seq_normal ?_ | (refine hK _ _ ?_; clear hK K) | refine x_seq (fun K hK => ?_) | refine x_nil ?_ | refine x_block ?_ | refine x_skip ?_ | refine x_exit ?_ | refine x_ret ?_ | refine x_label ?_ | refine x_scope ?_ | (refine seq_ret ?_; clear hK K) | (refine seq_exit ?_; clear hK K) | refine block_normal ?_ | refine block_ret ?_ | refine block_exit ?_ | refine loop_exit ?_ | refine loop_ret ?_)
        | ((with_reducible refine x_reg_lit ?hq ?_); case hq => rfl)
        | ((first | (with_reducible first | refine x_op (fun K hK => ?_) | refine end_ret ?_ | refine end_normal ?_) | ((with_reducible refine x_guard_yes ?hy (fun K hK => ?_)); case hy => rfl)); simp only [go_sem, Int.cast_ofNat_Int, Nat.reduceEqDiff, Nat.reduceAdd, Nat.reduceMul, Nat.reduceLeDiff, Nat.reduceLT, Int.reduceLT, Int.reduceLE, Int.reduceEq, Int.reduceNeg, Int.reduceToNat, Nat.reducePow, reduceIte, reduceCtorEq, i8, ew])
        | ((with_reducible first | refine x_guard_no ?hy ?_ | refine x_cond_true ?hy ?_); case hy => rfl)
        | ((with_reducible first | refine x_guard_none ?hy ?_ | refine x_cond_false ?hy ?_); case hy => rfl)
        | ((with_reducible refine block_exit_ne ?hy ?_); case hy => decide))
      exact loop_normal (m' := all.length - (i + 1)) (by omega) ⟨i + 1, _, rfl, hM1.op hF2 hf2, hstep _ rfl, hfr, by omega, rfl⟩
  · have t1 : (i < all.length) = False := by simp; omega
    have hi' : i = all.length := by omega
    subst hi'
    repeat' (first
      | (with_reducible first | refine seq_normal ?_ | (refine hK _ _ ?_; clear hK K) | refine x_seq (fun K hK => ?_) | refine x_nil ?_ | refine x_block ?_ | refine x_skip ?_ | refine x_exit ?_ | refine x_ret ?_ | refine x_label ?_ | refine x_scope ?_ | (refine seq_ret ?_; clear hK K) | (refine seq_exit ?_; clear hK K) | refine block_normal ?_ | refine block_ret ?_ | refine block_exit ?_ | refine loop_exit ?_ | refine loop_ret ?_)
      | ((with_reducible refine x_reg_lit ?hq ?_); case hq => rfl)
      | ((first | (with_reducible first | refine x_op (fun K hK => ?_) | refine end_ret ?_ | refine end_normal ?_) | ((with_reducible refine x_guard_yes ?hy (fun K hK => ?_)); case hy => rfl)); simp only [go_sem, Int.cast_ofNat_Int, Nat.reduceEqDiff, Nat.reduceAdd, Nat.reduceMul, Nat.reduceLeDiff, Nat.reduceLT, Int.reduceLT, Int.reduceLE, Int.reduceEq, Int.reduceNeg, Int.reduceToNat, Nat.reducePow, reduceIte, reduceCtorEq, i7, i8, t1])
      | ((with_reducible first | refine x_guard_no ?hy ?_ | refine x_cond_true ?hy ?_); case hy => rfl)
      | ((with_reducible first | refine x_guard_none ?hy ?_ | refine x_cond_false ?hy ?_); case hy => rfl)
      | ((with_reducible refine block_exit_ne ?hy ?_); case hy => decide))
    have hp := cut_end hcut hne
    exact hQ _ _ _ i6 i7 (hM1.op (hM1.fo.perm hp) (.refl _ _)) rfl hfr
theorem revC (hM : RM H0 H f T S B v all) (hr : S.rows = [all]) (hne : all ≠ []) (e6 : e 6 = .pointer (some ⟨f, 0, none⟩)) (e7 : e 9 = v) (e8 : e 12 = .int .i64 0)
    (hQ : ∀ e' H' S', e' 6 = .pointer (some ⟨f, 0, none⟩) → e' 9 = v → RM H0 H' f T S' B v all → S'.rows = singles all → S'.free = S.free ∧ S'.room = S.room → Q .normal e' H') :
    codeX Try.prog [15] (loopAt Try.f8.body 2) (blockQ 4 Q) e H := by
  obtain ⟨g, c, rfl, rfl, hc⟩ := hM.open hne
  have hlen : all.length ≤ 4096 := by have := hM.fo.len; rw [hr] at this; simpa using this
  refine x_loop (fun m e' H' => ∃ (i : Nat) (S' : Sq), e' 12 = .int .i64 (i : Nat) ∧ RM H0 H' f T S' (some g) (.slice (some ⟨g, 0, none⟩) all.length c) all ∧ CutTo S' all i ∧ (S'.free = S.free ∧ S'.room = S.room) ∧ i ≤ all.length ∧ m = all.length - i)
    all.length ⟨0, S, e8, hM, by unfold CutTo; rw [hr]; exact .refl _, ⟨rfl, rfl⟩, Nat.zero_le _, rfl⟩ ?_
  rintro m e1 H1 ⟨i, S', i8, hM1, hcut, hfr, hi, rfl⟩ hoff
  have i6 := (hoff 6 rfl).trans e6
  have i7 := (hoff 9 rfl).trans e7
  clear hoff e6 e7 e8
  by_cases hlt : i < all.length
  · obtain ⟨x, hx⟩ : ∃ x, all[i]? = some x := ⟨_, List.getElem?_eq_getElem hlt⟩
    have cx := hM1.cell hx
    have ew : IntKind.i64.wrap ((i : Int) + 1) = ((i + 1 : Nat) : Int) := by rw [wrap_i64] <;> omega
    repeat' (first
      | (with_reducible first | refine seq_normal ?_ | (refine hK _ _ ?_; clear hK K) | refine x_seq (fun K hK => ?_) | refine x_nil ?_ | refine x_block ?_ | refine x_skip ?_ | refine x_exit ?_ | refine x_ret ?_ | refine x_label ?_ | refine x_scope ?_ | (refine seq_ret ?_; clear hK K) | (refine seq_exit ?_; clear hK K) | refine block_normal ?_ | refine block_ret ?_ | refine block_exit ?_ | refine loop_exit ?_ | refine loop_ret ?_)
      | ((with_reducible refine x_reg_lit ?hq ?_); case hq => rfl)
      | ((first | (with_reducible first | refine x_op (fun K hK => ?_) | refine end_ret ?_ | refine end_normal ?_) | ((with_reducible refine x_guard_yes ?hy (fun K hK => ?_)); case hy => rfl)); simp only [go_sem, Int.cast_ofNat_Int, Nat.reduceEqDiff, Nat.reduceAdd, Nat.reduceMul, Nat.reduceLeDiff, Nat.reduceLT, Int.reduceLT, Int.reduceLE, Int.reduceEq, Int.reduceNeg, Int.reduceToNat, Nat.reducePow, reduceIte, reduceCtorEq, i6, i7, i8, hlt, cx])
      | ((with_reducible first | refine x_guard_no ?hy ?_ | refine x_cond_true ?hy ?_); case hy => rfl)
      | ((with_reducible first | refine x_guard_none ?hy ?_ | refine x_cond_false ?hy ?_); case hy => rfl)
      | ((with_reducible refine block_exit_ne ?hy ?_); case hy => decide))
    by_cases hi0 : i = 0
    · subst hi0
      have ed : all.drop 0 = x :: all.drop 1 := by rw [List.drop_zero]; exact split_at' hx
      refine m_split_first (k := x) (r := all.drop 1) hM1.fo ?_ ?_
      · rw [← ed]
        exact hcut.mem_iff.2 (.head _)
      · intro H2 hF2 hf2
        repeat' (first
          | (with_reducible first | refine seq_normal ?_ | (refine hK _ _ ?_; clear hK K) | refine x_seq (fun K hK => ?_) | refine x_nil ?_ | refine x_block ?_ | refine x_skip ?_ | refine x_exit ?_ | refine x_ret ?_ | refine x_label ?_ | refine x_scope ?_ | (refine seq_ret ?_; clear hK K) | (refine seq_exit ?_; clear hK K) | refine block_normal ?_ | refine block_ret ?_ | refine block_exit ?_ | refine loop_exit ?_ | refine loop_ret ?_)
          | ((with_reducible refine x_reg_lit ?hq ?_); case hq => rfl)
          | ((first | (with_reducible first | refine x_op (fun K hK => ?_) | refine end_ret ?_ | refine end_normal ?_) | ((with_reducible refine x_guard_yes ?hy (fun K hK => ?_)); case hy => rfl)); simp only [go_sem, Int.cast_ofNat_Int, Nat.reduceEqDiff, Nat.reduceAdd, Nat.reduceMul, Nat.reduceLeDiff, Nat.reduceLT, Int.reduceLT, Int.reduceLE, Int.reduceEq, Int.reduceNeg, Int.reduceToNat, Nat.reducePow, reduceIte, reduceCtorEq, i8, ew])
          | ((with_reducible first | refine x_guard_no ?hy ?_ | refine x_cond_true ?hy ?_); case hy => rfl)
          | ((with_reducible first | refine x_guard_none ?hy ?_ | refine x_cond_false ?hy ?_); case hy => rfl)
          | ((with_reducible refine block_exit_ne ?hy ?_); case hy => decide))
        exact loop_normal (m' := all.length - 1) (by omega) ⟨1, S', rfl, hM1.op hF2 hf2, hcut, hfr, by omega, rfl⟩
    · obtain ⟨y, hp, hstep⟩ := cut_step hcut hx hi0
      refine m_split (k := x) (l := [y]) (r := all.drop (i + 1)) hM1.fo hp (by simp) ?_
      intro H2 hF2 hf2
      repeat' (first
        | (with_reducible first | refine seq_normal ?_ | (refine hK _ _ ?_; clear hK K) | refine x_seq (fun K hK => ?_) | refine x_nil ?_ | refine x_block ?_ | refine x_skip ?_ | refine x_exit ?_ | refine x_ret ?_ | refine x_label ?_ | refine x_scope ?_ | (refine seq_ret ?_; clear hK K) | (refine seq_exit ?_; clear hK K) | refine block_normal ?_ | refine block_ret ?_ | refine block_exit ?_ | refine loop_exit ?_ | refine loop_ret ?_)
        | ((with_reducible refine x_reg_lit ?hq ?_); case hq => rfl)
        | ((first | (with_reducible first | refine x_op (fun K hK => ?_) | refine end_ret ?_ | refine end_normal ?_) | ((with_reducible refine x_guard_yes ?hy (fun K hK => ?_)); case hy => rfl)); simp only [go_sem, Int.cast_ofNat_Int, Nat.reduceEqDiff, Nat.reduceAdd, Nat.reduceMul, Nat.reduceLeDiff, Nat.reduceLT, Int.reduceLT, Int.reduceLE, Int.reduceEq, Int.reduceNeg, Int.reduceToNat, Nat.reducePow, reduceIte, reduceCtorEq, i8, ew])
        | ((with_reducible first | refine x_guard_no ?hy ?_ | refine x_cond_true ?hy ?_); case hy => rfl)
        | ((with_reducible first | refine x_guard_none ?hy ?_ | refine x_cond_false ?hy ?_); case hy => rfl)
        | ((with_reducible refine block_exit_ne ?hy ?_); case hy => decide))
      exact loop_normal (m' := all.length - (i + 1)) (by omega) ⟨i + 1, _, rfl, hM1.op hF2 hf2, hstep _ rfl, hfr, by omega, rfl⟩
  · have t1 : (i < all.length) = False := by simp; omega
    have hi' : i = all.length := by omega
    subst hi'
    repeat' (first
      | (with_reducible first | refine seq_normal ?_ | (refine hK _ _ ?_; clear hK K) | refine x_seq (fun K hK => ?_) | refine x_nil ?_ | refine x_block ?_ | refine x_skip ?_ | refine x_exit ?_ | refine x_ret ?_ | refine x_label ?_ | refine x_scope ?_ | (refine seq_ret ?_; clear hK K) | (refine seq_exit ?_; clear hK K) | refine block_normal ?_ | refine block_ret ?_ | refine block_exit ?_ | refine loop_exit ?_ | refine loop_ret ?_)
      | ((with_reducible refine x_reg_lit ?hq ?_); case hq => rfl)
      | ((first | (with_reducible first | refine x_op (fun K hK => ?_) | refine end_ret ?_ | refine end_normal ?_) | ((with_reducible refine x_guard_yes ?hy (fun K hK => ?_)); case hy => rfl)); simp only [go_sem, Int.cast_ofNat_Int, Nat.reduceEqDiff, Nat.reduceAdd, Nat.reduceMul, Nat.reduceLeDiff, Nat.reduceLT, Int.reduceLT, Int.reduceLE, Int.reduceEq, Int.reduceNeg, Int.reduceToNat, Nat.reducePow, reduceIte, reduceCtorEq, i7, i8, t1])
      | ((with_reducible first | refine x_guard_no ?hy ?_ | refine x_cond_true ?hy ?_); case hy => rfl)
      | ((with_reducible first | refine x_guard_none ?hy ?_ | refine x_cond_false ?hy ?_); case hy => rfl)
      | ((with_reducible refine block_exit_ne ?hy ?_); case hy => decide))
    have hp := cut_end hcut hne
    exact hQ _ _ _ i6 i7 (hM1.op (hM1.fo.perm hp) (.refl _ _)) rfl hfr
/-- Joined the other way round. -/
theorem revB (hM : RM H0 H f T S B v all) (hr : S.rows = singles all) (hne : all ≠ []) (hlen : all.length ≤ 1000) (e6 : e 6 = .pointer (some ⟨f, 0, none⟩)) (e7 : e 7 = v) (e9 : e 9 = .slice none 0 0) (e10 : e 10 = .int .i64 ((all.length : Int) - 1))
    (hQ : ∀ e' H' S' B' v', e' 6 = .pointer (some ⟨f, 0, none⟩) → e' 9 = v' → RM H0 H' f T S' B' v' all.reverse → S'.rows = [all.reverse] → S'.free = S.free ∧ S'.room = S.room → Q .normal e' H') :
    codeX Try.prog [15] (loopAt Try.f8.body 1) (blockQ 2 Q) e H := by
  obtain ⟨g, c, rfl, rfl, hc⟩ := hM.open hne
  refine x_loop (fun m e' H' => ∃ (S' : Sq) (B9 : Option Nat) (v9 : Value), e' 9 = v9 ∧ e' 10 = .int .i64 ((m : Int) - 1) ∧ RM H0 H' f T S' (some g) (.slice (some ⟨g, 0, none⟩) all.length c) all ∧ IR H' B9 v9 ((all.drop m).reverse.map Int.ofNat) ∧
      (∀ b, B9 = some b → H0.size ≤ b ∧ ¬ T b ∧ some g ≠ some b) ∧ S'.rows.Perm ((if m = all.length then [] else [(all.drop m).reverse]) ++ singles (all.take m)) ∧ (S'.free = S.free ∧ S'.room = S.room) ∧ m ≤ all.length)
    all.length ⟨S, none, _, e9, e10, hM, by rw [List.drop_length]; exact IR.nil H, (fun b h => by cases h), by rw [if_pos rfl, List.take_length, hr]; exact .refl _, ⟨rfl, rfl⟩, Nat.le_refl _⟩ ?_
  rintro m e1 H1 ⟨S', B9, v9, i9, i10, hM1, hi9, hB9, hp, hfr, hm⟩ hoff
  have i6 := (hoff 6 rfl).trans e6
  have i7 := (hoff 7 rfl).trans e7
  clear hoff e6 e7 e9 e10
  cases m with
  | zero =>
    have t1 : ((0 : Int) ≤ ((0 : Nat) : Int) - 1) = False := by simp
    repeat' (first
      | (with_reducible first | refine seq_normal ?_ | (refine hK _ _ ?_; clear hK K) | refine x_seq (fun K hK => ?_) | refine x_nil ?_ | refine x_block ?_ | refine x_skip ?_ | refine x_exit ?_ | refine x_ret ?_ | refine x_label ?_ | refine x_scope ?_ | (refine seq_ret ?_; clear hK K) | (refine seq_exit ?_; clear hK K) | refine block_normal ?_ | refine block_ret ?_ | refine block_exit ?_ | refine loop_exit ?_ | refine loop_ret ?_)
      | ((with_reducible refine x_reg_lit ?hq ?_); case hq => rfl)
      | ((first | (with_reducible first | refine x_op (fun K hK => ?_) | refine end_ret ?_ | refine end_normal ?_) | ((with_reducible refine x_guard_yes ?hy (fun K hK => ?_)); case hy => rfl)); simp only [go_sem, Int.cast_ofNat_Int, Nat.reduceEqDiff, Nat.reduceAdd, Nat.reduceMul, Nat.reduceLeDiff, Nat.reduceLT, Int.reduceLT, Int.reduceLE, Int.reduceEq, Int.reduceNeg, Int.reduceToNat, Nat.reducePow, reduceIte, reduceCtorEq, i10, t1])
      | ((with_reducible first | refine x_guard_no ?hy ?_ | refine x_cond_true ?hy ?_); case hy => rfl)
      | ((with_reducible first | refine x_guard_none ?hy ?_ | refine x_cond_false ?hy ?_); case hy => rfl)
      | ((with_reducible refine block_exit_ne ?hy ?_); case hy => decide))
    have hpos := List.length_pos_iff.2 hne
    rw [if_neg (by omega)] at hp
    simp only [List.drop_zero, List.take_zero, singles, List.map_nil, List.append_nil] at hp hi9
    have hM2 : RM H0 H1 f T { S' with rows := [all.reverse] } B9 v9 all.reverse := ⟨hM1.fo.perm hp, hi9, hM1.fr, hM1.tb, fun b hb => ⟨(hB9 b hb).1, (hB9 b hb).2.1⟩⟩
    exact hQ _ _ _ _ _ i6 i9 hM2 rfl hfr
  | succ k =>
    have hk : k < all.length := by omega
    obtain ⟨x, hx⟩ : ∃ x, all[k]? = some x := ⟨_, List.getElem?_eq_getElem hk⟩
    have ex := (List.getElem?_eq_some_iff.1 hx).2
    have cx := hM1.cell hx
    have e1k : ((k + 1 : Nat) : Int) - 1 = (k : Int) := by omega
    rw [e1k] at i10
    have t1 : ((0 : Int) ≤ (k : Int)) = True := by simp
    have hrev : (all.drop k).reverse = (all.drop (k + 1)).reverse ++ [x] := by rw [List.drop_eq_getElem_cons hk, ex, List.reverse_cons]
    have htk : all.take (k + 1) = all.take k ++ [x] := by rw [List.take_add_one, hx]; rfl
    have hll : (all.drop (k + 1)).reverse.length = all.length - (k + 1) := by simp
    repeat' (first
      | (with_reducible first | refine seq_normal ?_ | (refine hK _ _ ?_; clear hK K) | refine x_seq (fun K hK => ?_) | refine x_nil ?_ | refine x_block ?_ | refine x_skip ?_ | refine x_exit ?_ | refine x_ret ?_ | refine x_label ?_ | refine x_scope ?_ | (refine seq_ret ?_; clear hK K) | (refine seq_exit ?_; clear hK K) | refine block_normal ?_ | refine block_ret ?_ | refine block_exit ?_ | refine loop_exit ?_ | refine loop_ret ?_)
      | ((with_reducible refine x_reg_lit ?hq ?_); case hq => rfl)
      | ((first | (with_reducible first | refine x_op (fun K hK => ?_) | refine end_ret ?_ | refine end_normal ?_) | ((with_reducible refine x_guard_yes ?hy (fun K hK => ?_)); case hy => rfl)); simp only [go_sem, Int.cast_ofNat_Int, Nat.reduceEqDiff, Nat.reduceAdd, Nat.reduceMul, Nat.reduceLeDiff, Nat.reduceLT, Int.reduceLT, Int.reduceLE, Int.reduceEq, Int.reduceNeg, Int.reduceToNat, Nat.reducePow, reduceIte, reduceCtorEq, i6, i7, i9, i10, t1, hk, cx])
      | ((with_reducible first | refine x_guard_no ?hy ?_ | refine x_cond_true ?hy ?_); case hy => rfl)
      | ((with_reducible first | refine x_guard_none ?hy ?_ | refine x_cond_false ?hy ?_); case hy => rfl)
      | ((with_reducible refine block_exit_ne ?hy ?_); case hy => decide))
    refine append_ir elems23 tl3 hi9 rfl (by decide) (by rw [List.length_map, hll]; simp only []; omega) rfl ?_
    intro v' H2 B' hi2 hf2 hB2
    have hM2 := hM1.other hf2 hB9
    have hi2' : IR H2 B' v' ((all.drop k).reverse.map Int.ofNat) := by rw [hrev]; simpa using hi2
    have hB' : ∀ b, B' = some b → H0.size ≤ b ∧ ¬ T b ∧ some g ≠ some b := fun b hb => by
      rcases hB2 with h | ⟨g', h1, h2⟩
      · exact hB9 b (h ▸ hb)
      · rw [h1] at hb
        obtain rfl := Option.some.inj hb
        have h3 := hM1.fr.size
        have h4 := hM1.ir.lt rfl
        exact ⟨by omega, fun e => by have := hM1.fo.lt e; omega, fun e => by obtain rfl := Option.some.inj e; omega⟩
    have hll2 : ((all.drop k).reverse.map Int.ofNat).length = all.length - k := by simp
    obtain ⟨a9, c9, hv9⟩ := hi2'.slice
    rw [hll2] at hv9
    have ew : IntKind.i64.wrap ((k : Int) - 1) = (k : Int) - 1 := by rw [wrap_i64] <;> omega
    by_cases hlast : k + 1 = all.length
    · have hone : all.length - k = 1 := by omega
      rw [hone] at hv9
      subst hv9
      have t2 : ((1 : Int) < ((1 : Nat) : Int)) = False := by simp
      repeat' (first
        | (with_reducible first | refine seq_normal ?_ | (refine hK _ _ ?_; clear hK K) | refine x_seq (fun K hK => ?_) | refine x_nil ?_ | refine x_block ?_ | refine x_skip ?_ | refine x_exit ?_ | refine x_ret ?_ | refine x_label ?_ | refine x_scope ?_ | (refine seq_ret ?_; clear hK K) | (refine seq_exit ?_; clear hK K) | refine block_normal ?_ | refine block_ret ?_ | refine block_exit ?_ | refine loop_exit ?_ | refine loop_ret ?_)
        | ((with_reducible refine x_reg_lit ?hq ?_); case hq => rfl)
        | ((first | (with_reducible first | refine x_op (fun K hK => ?_) | refine end_ret ?_ | refine end_normal ?_) | ((with_reducible refine x_guard_yes ?hy (fun K hK => ?_)); case hy => rfl)); simp only [go_sem, Int.cast_ofNat_Int, Nat.reduceEqDiff, Nat.reduceAdd, Nat.reduceMul, Nat.reduceLeDiff, Nat.reduceLT, Int.reduceLT, Int.reduceLE, Int.reduceEq, Int.reduceNeg, Int.reduceToNat, Nat.reducePow, reduceIte, reduceCtorEq, i6, i7, i10, t2, ew])
        | ((with_reducible first | refine x_guard_no ?hy ?_ | refine x_cond_true ?hy ?_); case hy => rfl)
        | ((with_reducible first | refine x_guard_none ?hy ?_ | refine x_cond_false ?hy ?_); case hy => rfl)
        | ((with_reducible refine block_exit_ne ?hy ?_); case hy => decide))
      refine loop_normal (m' := k) (by omega) ⟨S', B', _, rfl, rfl, hM2, hi2', hB', ?_, hfr, by omega⟩
      rw [if_pos hlast, List.nil_append, htk, singles_append] at hp
      rw [if_neg (by omega)]
      have hdk : (all.drop k).reverse = [x] := by rw [hrev, hlast, List.drop_length]; rfl
      rw [hdk]
      exact hp.trans List.perm_append_comm
    · have t2 : ((1 : Int) < ((all.length - k : Nat) : Int)) = True := by simp; omega
      have t3 : (0 < all.length - k) = True := by simp; omega
      have t4 : ((0 : Int) < ((all.length - k : Nat) : Int)) = True := by simp; omega
      obtain ⟨g9, c9', hg9, hv9', hr9, _⟩ := hi2'.rowAt (i := 0) (by rw [hll2]; omega)
      rw [hll2] at hv9'
      obtain ⟨w, hw⟩ : ∃ w, (all.drop (k + 1)).reverse[0]? = some w := ⟨_, List.getElem?_eq_getElem (by rw [hll]; omega)⟩
      have cw := hr9 0 (w : Int) (by
        rw [hrev, List.getElem?_map, List.getElem?_append_left (by rw [hll]; omega), hw]; rfl)
      have cx2 := hM2.cell hx
      subst hv9'
      repeat' (first
        | (with_reducible first | refine seq_normal ?_ | (refine hK _ _ ?_; clear hK K) | refine x_seq (fun K hK => ?_) | refine x_nil ?_ | refine x_block ?_ | refine x_skip ?_ | refine x_exit ?_ | refine x_ret ?_ | refine x_label ?_ | refine x_scope ?_ | (refine seq_ret ?_; clear hK K) | (refine seq_exit ?_; clear hK K) | refine block_normal ?_ | refine block_ret ?_ | refine block_exit ?_ | refine loop_exit ?_ | refine loop_ret ?_)
        | ((with_reducible refine x_reg_lit ?hq ?_); case hq => rfl)
        | ((first | (with_reducible first | refine x_op (fun K hK => ?_) | refine end_ret ?_ | refine end_normal ?_) | ((with_reducible refine x_guard_yes ?hy (fun K hK => ?_)); case hy => rfl)); simp only [go_sem, Int.cast_ofNat_Int, Nat.reduceEqDiff, Nat.reduceAdd, Nat.reduceMul, Nat.reduceLeDiff, Nat.reduceLT, Int.reduceLT, Int.reduceLE, Int.reduceEq, Int.reduceNeg, Int.reduceToNat, Nat.reducePow, reduceIte, reduceCtorEq, i6, i7, i10, t2, t3, t4, hk, cw, cx2])
        | ((with_reducible first | refine x_guard_no ?hy ?_ | refine x_cond_true ?hy ?_); case hy => rfl)
        | ((with_reducible first | refine x_guard_none ?hy ?_ | refine x_cond_false ?hy ?_); case hy => rfl)
        | ((with_reducible refine block_exit_ne ?hy ?_); case hy => decide))
      rw [if_neg hlast, htk, singles_append] at hp
      refine m_join (k := w) (j := x) (xs := (all.drop (k + 1)).reverse) (ys := [x]) (R := singles (all.take k)) hM2.fo (hp.trans ?_) (List.mem_of_getElem? hw) (.head _) ?_
      · show ((all.drop (k + 1)).reverse :: (singles (all.take k) ++ [[x]])).Perm _
        exact List.Perm.cons _ (List.perm_append_comm (l₁ := singles (all.take k)) (l₂ := [[x]]))
      · intro H3 hF3 hf3
        have hM3 := hM2.op hF3 hf3
        have hi3 := hi2'.frame hf3 fun b hb => (hB' b hb).2.1
        repeat' (first
          | (with_reducible first | refine seq_normal ?_ | (refine hK _ _ ?_; clear hK K) | refine x_seq (fun K hK => ?_) | refine x_nil ?_ | refine x_block ?_ | refine x_skip ?_ | refine x_exit ?_ | refine x_ret ?_ | refine x_label ?_ | refine x_scope ?_ | (refine seq_ret ?_; clear hK K) | (refine seq_exit ?_; clear hK K) | refine block_normal ?_ | refine block_ret ?_ | refine block_exit ?_ | refine loop_exit ?_ | refine loop_ret ?_)
          | ((with_reducible refine x_reg_lit ?hq ?_); case hq => rfl)
          | ((first | (with_reducible first | refine x_op (fun K hK => ?_) | refine end_ret ?_ | refine end_normal ?_) | ((with_reducible refine x_guard_yes ?hy (fun K hK => ?_)); case hy => rfl)); simp only [go_sem, Int.cast_ofNat_Int, Nat.reduceEqDiff, Nat.reduceAdd, Nat.reduceMul, Nat.reduceLeDiff, Nat.reduceLT, Int.reduceLT, Int.reduceLE, Int.reduceEq, Int.reduceNeg, Int.reduceToNat, Nat.reducePow, reduceIte, reduceCtorEq, i10, ew])
          | ((with_reducible first | refine x_guard_no ?hy ?_ | refine x_cond_true ?hy ?_); case hy => rfl)
          | ((with_reducible first | refine x_guard_none ?hy ?_ | refine x_cond_false ?hy ?_); case hy => rfl)
          | ((with_reducible refine block_exit_ne ?hy ?_); case hy => decide))
        refine loop_normal (m' := k) (by omega) ⟨_, B', _, rfl, rfl, hM3, hi3, hB', ?_, hfr, by omega⟩
        rw [if_neg (by omega), hrev]
        exact .refl _
/-- All freed, each once more. -/
theorem revD (hM : RM H0 H f T S B v all) (hr : S.rows = singles all) (hne : all ≠ []) (hf0 : S.free = []) (e6 : e 6 = .pointer (some ⟨f, 0, none⟩)) (e9 : e 9 = v) (e13 : e 13 = .int .i64 0)
    (hQ : ∀ e' H' S', e' 6 = .pointer (some ⟨f, 0, none⟩) → e' 9 = v → RM H0 H' f T S' B v all → S'.rows = [] → S'.free = all.reverse → S'.room = S.room → Q .normal e' H') :
    codeX Try.prog [15] (loopAt Try.f8.body 3) (blockQ 6 Q) e H := by
  obtain ⟨g, c, rfl, rfl, hc⟩ := hM.open hne
  have hnd : all.Nodup := by have := hM.fo.nodup; rw [hr, singles_flat] at this; exact this
  have hlen : all.length ≤ 4096 := by have := hM.fo.len; rw [hr, singles_flat] at this; exact this
  refine x_loop (fun m e' H' => ∃ (i : Nat) (S' : Sq), e' 13 = .int .i64 (i : Nat) ∧ RM H0 H' f T S' (some g) (.slice (some ⟨g, 0, none⟩) all.length c) all ∧ S'.rows = singles (all.drop i) ∧ S'.free = (all.take i).reverse ∧ S'.room = S.room ∧ i ≤ all.length ∧ m = all.length - i)
    all.length ⟨0, S, e13, hM, by rw [hr]; rfl, hf0, rfl, Nat.zero_le _, rfl⟩ ?_
  rintro m e1 H1 ⟨i, S', i13, hM1, hrows, hfree, hroom, hi, rfl⟩ hoff
  have i6 := (hoff 6 rfl).trans e6
  have i9 := (hoff 9 rfl).trans e9
  clear hoff e6 e9 e13
  by_cases hlt : i < all.length
  · obtain ⟨x, hx⟩ : ∃ x, all[i]? = some x := ⟨_, List.getElem?_eq_getElem hlt⟩
    have ex := (List.getElem?_eq_some_iff.1 hx).2
    have cx := hM1.cell hx
    have ew : IntKind.i64.wrap ((i : Int) + 1) = ((i + 1 : Nat) : Int) := by rw [wrap_i64] <;> omega
    have hd : all.drop i = x :: all.drop (i + 1) := by rw [List.drop_eq_getElem_cons hlt, ex]
    repeat' (first
      | (with_reducible first | refine seq_normal ?_ | (refine hK _ _ ?_; clear hK K) | refine x_seq (fun K hK => ?_) | refine x_nil ?_ | refine x_block ?_ | refine x_skip ?_ | refine x_exit ?_ | refine x_ret ?_ | refine x_label ?_ | refine x_scope ?_ | (refine seq_ret ?_; clear hK K) | (refine seq_exit ?_; clear hK K) | refine block_normal ?_ | refine block_ret ?_ | refine block_exit ?_ | refine loop_exit ?_ | refine loop_ret ?_)
      | ((with_reducible refine x_reg_lit ?hq ?_); case hq => rfl)
      | ((first | (with_reducible first | refine x_op (fun K hK => ?_) | refine end_ret ?_ | refine end_normal ?_) | ((with_reducible refine x_guard_yes ?hy (fun K hK => ?_)); case hy => rfl)); simp only [go_sem, Int.cast_ofNat_Int, Nat.reduceEqDiff, Nat.reduceAdd, Nat.reduceMul, Nat.reduceLeDiff, Nat.reduceLT, Int.reduceLT, Int.reduceLE, Int.reduceEq, Int.reduceNeg, Int.reduceToNat, Nat.reducePow, reduceIte, reduceCtorEq, i6, i9, i13, hlt, cx])
      | ((with_reducible first | refine x_guard_no ?hy ?_ | refine x_cond_true ?hy ?_); case hy => rfl)
      | ((with_reducible first | refine x_guard_none ?hy ?_ | refine x_cond_false ?hy ?_); case hy => rfl)
      | ((with_reducible refine block_exit_ne ?hy ?_); case hy => decide))
    refine free_ok (k := x) (R := singles (all.drop (i + 1))) hM1.fo (by rw [hrows, hd]; exact .refl _) ?_
    intro H2 hF2 hf2
    have hM2 := hM1.op hF2 hf2
    have cx2 := hM2.cell hx
    repeat' (first
      | (with_reducible first | refine seq_normal ?_ | (refine hK _ _ ?_; clear hK K) | refine x_seq (fun K hK => ?_) | refine x_nil ?_ | refine x_block ?_ | refine x_skip ?_ | refine x_exit ?_ | refine x_ret ?_ | refine x_label ?_ | refine x_scope ?_ | (refine seq_ret ?_; clear hK K) | (refine seq_exit ?_; clear hK K) | refine block_normal ?_ | refine block_ret ?_ | refine block_exit ?_ | refine loop_exit ?_ | refine loop_ret ?_)
      | ((with_reducible refine x_reg_lit ?hq ?_); case hq => rfl)
      | ((first | (with_reducible first | refine x_op (fun K hK => ?_) | refine end_ret ?_ | refine end_normal ?_) | ((with_reducible refine x_guard_yes ?hy (fun K hK => ?_)); case hy => rfl)); simp only [go_sem, Int.cast_ofNat_Int, Nat.reduceEqDiff, Nat.reduceAdd, Nat.reduceMul, Nat.reduceLeDiff, Nat.reduceLT, Int.reduceLT, Int.reduceLE, Int.reduceEq, Int.reduceNeg, Int.reduceToNat, Nat.reducePow, reduceIte, reduceCtorEq, i6, i9, i13, hlt, cx2])
      | ((with_reducible first | refine x_guard_no ?hy ?_ | refine x_cond_true ?hy ?_); case hy => rfl)
      | ((with_reducible first | refine x_guard_none ?hy ?_ | refine x_cond_false ?hy ?_); case hy => rfl)
      | ((with_reducible refine block_exit_ne ?hy ?_); case hy => decide))
    refine free_none (i := (x : Int)) hM2.fo ?_ ?_
    · rintro ⟨k, hk, hk2⟩
      obtain rfl : k = x := by omega
      have hk3 : k ∈ (singles (all.drop (i + 1))).flatten := hk2
      rw [singles_flat] at hk3
      have hnd2 := (List.drop_sublist i all).nodup hnd
      rw [hd, List.nodup_cons] at hnd2
      exact hnd2.1 hk3
    · repeat' (first
      | (with_reducible first | refine seq_normal ?_ | (refine hK _ _ ?_; clear hK K) | refine x_seq (fun K hK => ?_) | refine x_nil ?_ | refine x_block ?_ | refine x_skip ?_ | refine x_exit ?_ | refine x_ret ?_ | refine x_label ?_ | refine x_scope ?_ | (refine seq_ret ?_; clear hK K) | (refine seq_exit ?_; clear hK K) | refine block_normal ?_ | refine block_ret ?_ | refine block_exit ?_ | refine loop_exit ?_ | refine loop_ret ?_)
      | ((with_reducible refine x_reg_lit ?hq ?_); case hq => rfl)
      | ((first | (with_reducible first | refine x_op (fun K hK => ?_) | refine end_ret ?_ | refine end_normal ?_) | ((with_reducible refine x_guard_yes ?hy (fun K hK => ?_)); case hy => rfl)); simp only [go_sem, Int.cast_ofNat_Int, Nat.reduceEqDiff, Nat.reduceAdd, Nat.reduceMul, Nat.reduceLeDiff, Nat.reduceLT, Int.reduceLT, Int.reduceLE, Int.reduceEq, Int.reduceNeg, Int.reduceToNat, Nat.reducePow, reduceIte, reduceCtorEq, i13, ew])
      | ((with_reducible first | refine x_guard_no ?hy ?_ | refine x_cond_true ?hy ?_); case hy => rfl)
      | ((with_reducible first | refine x_guard_none ?hy ?_ | refine x_cond_false ?hy ?_); case hy => rfl)
      | ((with_reducible refine block_exit_ne ?hy ?_); case hy => decide))
      refine loop_normal (m' := all.length - (i + 1)) (by omega) ⟨i + 1, _, rfl, hM2, rfl, ?_, hroom, by omega, rfl⟩
      show x :: S'.free = _
      rw [hfree, List.take_add_one, hx]
      simp
  · have t1 : (i < all.length) = False := by simp; omega
    have hi' : i = all.length := by omega
    subst hi'
    repeat' (first
      | (with_reducible first | refine seq_normal ?_ | (refine hK _ _ ?_; clear hK K) | refine x_seq (fun K hK => ?_) | refine x_nil ?_ | refine x_block ?_ | refine x_skip ?_ | refine x_exit ?_ | refine x_ret ?_ | refine x_label ?_ | refine x_scope ?_ | (refine seq_ret ?_; clear hK K) | (refine seq_exit ?_; clear hK K) | refine block_normal ?_ | refine block_ret ?_ | refine block_exit ?_ | refine loop_exit ?_ | refine loop_ret ?_)
      | ((with_reducible refine x_reg_lit ?hq ?_); case hq => rfl)
      | ((first | (with_reducible first | refine x_op (fun K hK => ?_) | refine end_ret ?_ | refine end_normal ?_) | ((with_reducible refine x_guard_yes ?hy (fun K hK => ?_)); case hy => rfl)); simp only [go_sem, Int.cast_ofNat_Int, Nat.reduceEqDiff, Nat.reduceAdd, Nat.reduceMul, Nat.reduceLeDiff, Nat.reduceLT, Int.reduceLT, Int.reduceLE, Int.reduceEq, Int.reduceNeg, Int.reduceToNat, Nat.reducePow, reduceIte, reduceCtorEq, i9, i13, t1])
      | ((with_reducible first | refine x_guard_no ?hy ?_ | refine x_cond_true ?hy ?_); case hy => rfl)
      | ((with_reducible first | refine x_guard_none ?hy ?_ | refine x_cond_false ?hy ?_); case hy => rfl)
      | ((with_reducible refine block_exit_ne ?hy ?_); case hy => decide))
    rw [List.drop_length] at hrows
    rw [List.take_length] at hfree
    exact hQ _ _ _ i6 i9 hM1 hrows hfree hroom
/-- All given again. -/
theorem revE (hM : RM H0 H f T S B v all) (hr : S.rows = []) (hne : all ≠ []) (hlen : all.length ≤ 1000) (hf0 : S.free = all.reverse) (hroom : S.room = 1024) (e6 : e 6 = .pointer (some ⟨f, 0, none⟩)) (e9 : e 9 = v) (e14 : e 14 = .int .i64 ((all.length : Int) - 1))
    (hQ : ∀ e' H', Fr (fun _ => False) H0 H' → Q .normal e' H') :
    codeX Try.prog [15] (loopAt Try.f8.body 4) (blockQ 8 Q) e H := by
  obtain ⟨g, c, rfl, rfl, hc⟩ := hM.open hne
  refine x_loop (fun m e' H' => ∃ (S' : Sq) (T' : Nat → Prop), e' 14 = .int .i64 ((m : Int) - 1) ∧ RM H0 H' f T' S' (some g) (.slice (some ⟨g, 0, none⟩) all.length c) all ∧ S'.free = (all.take m).reverse ∧ S'.rows.flatten.length = all.length - m ∧ S'.room = 1024 ∧ m ≤ all.length)
    all.length ⟨S, T, e14, hM, by rw [List.take_length]; exact hf0, by rw [hr]; simp, hroom, Nat.le_refl _⟩ ?_
  rintro m e1 H1 ⟨S', T', i14, hM1, hfree, hcount, hroom1, hm⟩ hoff
  have i6 := (hoff 6 rfl).trans e6
  have i9 := (hoff 9 rfl).trans e9
  clear hoff e6 e9 e14
  cases m with
  | zero =>
    have t1 : ((0 : Int) ≤ ((0 : Nat) : Int) - 1) = False := by simp
    repeat' (first
      | (with_reducible first | refine seq_normal ?_ | (refine hK _ _ ?_; clear hK K) | refine x_seq (fun K hK => ?_) | refine x_nil ?_ | refine x_block ?_ | refine x_skip ?_ | refine x_exit ?_ | refine x_ret ?_ | refine x_label ?_ | refine x_scope ?_ | (refine seq_ret ?_; clear hK K) | (refine seq_exit ?_; clear hK K) | refine block_normal ?_ | refine block_ret ?_ | refine block_exit ?_ | refine loop_exit ?_ | refine loop_ret ?_)
      | ((with_reducible refine x_reg_lit ?hq ?_); case hq => rfl)
      | ((first | (with_reducible first | refine x_op (fun K hK => ?_) | refine end_ret ?_ | refine end_normal ?_) | ((with_reducible refine x_guard_yes ?hy (fun K hK => ?_)); case hy => rfl)); simp only [go_sem, Int.cast_ofNat_Int, Nat.reduceEqDiff, Nat.reduceAdd, Nat.reduceMul, Nat.reduceLeDiff, Nat.reduceLT, Int.reduceLT, Int.reduceLE, Int.reduceEq, Int.reduceNeg, Int.reduceToNat, Nat.reducePow, reduceIte, reduceCtorEq, i14, t1])
      | ((with_reducible first | refine x_guard_no ?hy ?_ | refine x_cond_true ?hy ?_); case hy => rfl)
      | ((with_reducible first | refine x_guard_none ?hy ?_ | refine x_cond_false ?hy ?_); case hy => rfl)
      | ((with_reducible refine block_exit_ne ?hy ?_); case hy => decide))
    exact hQ _ _ hM1.fr
  | succ k =>
    have hk : k < all.length := by omega
    obtain ⟨x, hx⟩ : ∃ x, all[k]? = some x := ⟨_, List.getElem?_eq_getElem hk⟩
    have e1k : ((k + 1 : Nat) : Int) - 1 = (k : Int) := by omega
    rw [e1k] at i14
    have t1 : ((0 : Int) ≤ (k : Int)) = True := by simp
    have htk : (all.take (k + 1)).reverse = x :: (all.take k).reverse := by rw [List.take_add_one, hx]; simp
    have ew : IntKind.i64.wrap ((k : Int) - 1) = (k : Int) - 1 := by rw [wrap_i64] <;> omega
    have hmay : May ⟨(k : Int), false, 0⟩ := ⟨by simp only []; omega, by simp only []; omega, Int.le_refl 0, by simp only []; omega⟩
    have hnext : S'.next = x := by unfold Sq.next; rw [hfree, htk]; rfl
    repeat' (first
      | (with_reducible first | refine seq_normal ?_ | (refine hK _ _ ?_; clear hK K) | refine x_seq (fun K hK => ?_) | refine x_nil ?_ | refine x_block ?_ | refine x_skip ?_ | refine x_exit ?_ | refine x_ret ?_ | refine x_label ?_ | refine x_scope ?_ | (refine seq_ret ?_; clear hK K) | (refine seq_exit ?_; clear hK K) | refine block_normal ?_ | refine block_ret ?_ | refine block_exit ?_ | refine loop_exit ?_ | refine loop_ret ?_)
      | ((with_reducible refine x_reg_lit ?hq ?_); case hq => rfl)
      | ((first | (with_reducible first | refine x_op (fun K hK => ?_) | refine end_ret ?_ | refine end_normal ?_) | ((with_reducible refine x_guard_yes ?hy (fun K hK => ?_)); case hy => rfl)); simp only [go_sem, Int.cast_ofNat_Int, Nat.reduceEqDiff, Nat.reduceAdd, Nat.reduceMul, Nat.reduceLeDiff, Nat.reduceLT, Int.reduceLT, Int.reduceLE, Int.reduceEq, Int.reduceNeg, Int.reduceToNat, Nat.reducePow, reduceIte, reduceCtorEq, i6, i9, i14, t1])
      | ((with_reducible first | refine x_guard_no ?hy ?_ | refine x_cond_true ?hy ?_); case hy => rfl)
      | ((with_reducible first | refine x_guard_none ?hy ?_ | refine x_cond_false ?hy ?_); case hy => rfl)
      | ((with_reducible refine block_exit_ne ?hy ?_); case hy => decide))
    refine make_ok (x := ⟨(k : Int), false, 0⟩) hM1.fo (May.fits hmay) hmay (by rw [hcount, hroom1]; omega) ?_
    intro H2 T2 hF2 hf2 hT2 _
    have hM2 := hM1.op' hF2 hf2 hT2
    have cx2 := hM2.cell hx
    rw [hnext]
    have z1 : ((x : Int) != (x : Int)) = false := by simp
    repeat' (first
      | (with_reducible first | refine seq_normal ?_ | (refine hK _ _ ?_; clear hK K) | refine x_seq (fun K hK => ?_) | refine x_nil ?_ | refine x_block ?_ | refine x_skip ?_ | refine x_exit ?_ | refine x_ret ?_ | refine x_label ?_ | refine x_scope ?_ | (refine seq_ret ?_; clear hK K) | (refine seq_exit ?_; clear hK K) | refine block_normal ?_ | refine block_ret ?_ | refine block_exit ?_ | refine loop_exit ?_ | refine loop_ret ?_)
      | ((with_reducible refine x_reg_lit ?hq ?_); case hq => rfl)
      | ((first | (with_reducible first | refine x_op (fun K hK => ?_) | refine end_ret ?_ | refine end_normal ?_) | ((with_reducible refine x_guard_yes ?hy (fun K hK => ?_)); case hy => rfl)); simp only [go_sem, Int.cast_ofNat_Int, Nat.reduceEqDiff, Nat.reduceAdd, Nat.reduceMul, Nat.reduceLeDiff, Nat.reduceLT, Int.reduceLT, Int.reduceLE, Int.reduceEq, Int.reduceNeg, Int.reduceToNat, Nat.reducePow, reduceIte, reduceCtorEq, i6, i9, i14, hk, cx2, z1, ew])
      | ((with_reducible first | refine x_guard_no ?hy ?_ | refine x_cond_true ?hy ?_); case hy => rfl)
      | ((with_reducible first | refine x_guard_none ?hy ?_ | refine x_cond_false ?hy ?_); case hy => rfl)
      | ((with_reducible refine block_exit_ne ?hy ?_); case hy => decide))
    refine loop_normal (m' := k) (by omega) ⟨_, T2, rfl, hM2, ?_, ?_, hroom1, by omega⟩
    · show S'.free.tail = _
      rw [hfree, htk]; rfl
    · show ([S'.next] :: S'.rows).flatten.length = _
      rw [List.flatten_cons, List.length_append, hcount]; simp; omega
end
theorem splayReverse {H : Heap} {a0 a1 : Option Addr} {n0 c0 n1 c1 : Nat} {z0 : Nat → Sp.Item} {z1 : Nat → Int} {K : Value → Heap → Prop} (h0 : InItems H a0 n0 z0) (l0 : n0 ≤ 9223372036854775807) (h1 : InInts H a1 n1 z1) (l1 : n1 ≤ 9223372036854775807)
    (fin : ∀ H', Fr (fun _ => False) H H' → K (.bool true) H') :
    CallsH Try.prog 8 #[.slice a0 n0 c0, .slice a1 n1 c1] H K := by
  refine call8 (by simp) ?_
  simp only [Try.f8, Option.getD_some]
  repeat' (first
    | (with_reducible first | refine seq_normal ?_ | (refine hK _ _ ?_; clear hK K) | refine x_seq (fun K hK => ?_) | refine x_nil ?_ | refine x_block ?_ | refine x_skip ?_ | refine x_exit ?_ | refine x_ret ?_ | refine x_label ?_ | refine x_scope ?_ | (refine seq_ret ?_; clear hK K) | (refine seq_exit ?_; clear hK K) | refine block_normal ?_ | refine block_ret ?_ | refine block_exit ?_ | refine loop_exit ?_ | refine loop_ret ?_)
    | ((with_reducible refine x_reg_lit ?hq ?_); case hq => rfl)
    | ((first | (with_reducible first | refine x_op (fun K hK => ?_) | refine end_ret ?_ | refine end_normal ?_) | ((with_reducible refine x_guard_yes ?hy (fun K hK => ?_)); case hy => rfl)); simp only [go_sem, Int.cast_ofNat_Int, Nat.reduceEqDiff, Nat.reduceAdd, Nat.reduceMul, Nat.reduceLeDiff, Nat.reduceLT, Int.reduceLT, Int.reduceLE, Int.reduceEq, Int.reduceNeg, Int.reduceToNat, Nat.reducePow, reduceIte, reduceCtorEq])
    | ((with_reducible first | refine x_guard_no ?hy ?_ | refine x_cond_true ?hy ?_); case hy => rfl)
    | ((with_reducible first | refine x_guard_none ?hy ?_ | refine x_cond_false ?hy ?_); case hy => rfl)
    | ((with_reducible refine block_exit_ne ?hy ?_); case hy => decide))
  refine awake_ok ?_
  intro H1 hf1
  repeat' (first
    | (with_reducible first | refine seq_normal ?_ | (refine hK _ _ ?_; clear hK K) | refine x_seq (fun K hK => ?_) | refine x_nil ?_ | refine x_block ?_ | refine x_skip ?_ | refine x_exit ?_ | refine x_ret ?_ | refine x_label ?_ | refine x_scope ?_ | (refine seq_ret ?_; clear hK K) | (refine seq_exit ?_; clear hK K) | refine block_normal ?_ | refine block_ret ?_ | refine block_exit ?_ | refine loop_exit ?_ | refine loop_ret ?_)
    | ((with_reducible refine x_reg_lit ?hq ?_); case hq => rfl)
    | ((first | (with_reducible first | refine x_op (fun K hK => ?_) | refine end_ret ?_ | refine end_normal ?_) | ((with_reducible refine x_guard_yes ?hy (fun K hK => ?_)); case hy => rfl)); simp only [go_sem, Int.cast_ofNat_Int, Nat.reduceEqDiff, Nat.reduceAdd, Nat.reduceMul, Nat.reduceLeDiff, Nat.reduceLT, Int.reduceLT, Int.reduceLE, Int.reduceEq, Int.reduceNeg, Int.reduceToNat, Nat.reducePow, reduceIte, reduceCtorEq])
    | ((with_reducible first | refine x_guard_no ?hy ?_ | refine x_cond_true ?hy ?_); case hy => rfl)
    | ((with_reducible first | refine x_guard_none ?hy ?_ | refine x_cond_false ?hy ?_); case hy => rfl)
    | ((with_reducible refine block_exit_ne ?hy ?_); case hy => decide))
  refine items_ok (most := 80) (h0.frame hf1) l0 (by omega) (by omega) ?_
  intro H2 B2 v2 xs hi2 hB2 hx1 hx2 hm hf2
  have hf02 := hf1.trans hf2
  repeat' (first
    | (with_reducible first | refine seq_normal ?_ | (refine hK _ _ ?_; clear hK K) | refine x_seq (fun K hK => ?_) | refine x_nil ?_ | refine x_block ?_ | refine x_skip ?_ | refine x_exit ?_ | refine x_ret ?_ | refine x_label ?_ | refine x_scope ?_ | (refine seq_ret ?_; clear hK K) | (refine seq_exit ?_; clear hK K) | refine block_normal ?_ | refine block_ret ?_ | refine block_exit ?_ | refine loop_exit ?_ | refine loop_ret ?_)
    | ((with_reducible refine x_reg_lit ?hq ?_); case hq => rfl)
    | ((first | (with_reducible first | refine x_op (fun K hK => ?_) | refine end_ret ?_ | refine end_normal ?_) | ((with_reducible refine x_guard_yes ?hy (fun K hK => ?_)); case hy => rfl)); simp only [go_sem, Int.cast_ofNat_Int, Nat.reduceEqDiff, Nat.reduceAdd, Nat.reduceMul, Nat.reduceLeDiff, Nat.reduceLT, Int.reduceLT, Int.reduceLE, Int.reduceEq, Int.reduceNeg, Int.reduceToNat, Nat.reducePow, reduceIte, reduceCtorEq])
    | ((with_reducible first | refine x_guard_no ?hy ?_ | refine x_cond_true ?hy ?_); case hy => rfl)
    | ((with_reducible first | refine x_guard_none ?hy ?_ | refine x_cond_false ?hy ?_); case hy => rfl)
    | ((with_reducible refine block_exit_ne ?hy ?_); case hy => decide))
  refine row_ok (h1.frame hf02) l1 hi2 hm (by omega) hx1 ?_
  intro H3 f T S B v all hM hr hall hfree htop hroom hperm
  have hM := hM.base hf02
  have hne : all ≠ [] := fun h => by rw [h] at hall; simp at hall; omega
  repeat' (first
    | (with_reducible first | refine seq_normal ?_ | (refine hK _ _ ?_; clear hK K) | refine x_seq (fun K hK => ?_) | refine x_nil ?_ | refine x_block ?_ | refine x_skip ?_ | refine x_exit ?_ | refine x_ret ?_ | refine x_label ?_ | refine x_scope ?_ | (refine seq_ret ?_; clear hK K) | (refine seq_exit ?_; clear hK K) | refine block_normal ?_ | refine block_ret ?_ | refine block_exit ?_ | refine loop_exit ?_ | refine loop_ret ?_)
    | ((with_reducible refine x_reg_lit ?hq ?_); case hq => rfl)
    | ((first | (with_reducible first | refine x_op (fun K hK => ?_) | refine end_ret ?_ | refine end_normal ?_) | ((with_reducible refine x_guard_yes ?hy (fun K hK => ?_)); case hy => rfl)); simp only [go_sem, Int.cast_ofNat_Int, Nat.reduceEqDiff, Nat.reduceAdd, Nat.reduceMul, Nat.reduceLeDiff, Nat.reduceLT, Int.reduceLT, Int.reduceLE, Int.reduceEq, Int.reduceNeg, Int.reduceToNat, Nat.reducePow, reduceIte, reduceCtorEq])
    | ((with_reducible first | refine x_guard_no ?hy ?_ | refine x_cond_true ?hy ?_); case hy => rfl)
    | ((with_reducible first | refine x_guard_none ?hy ?_ | refine x_cond_false ?hy ?_); case hy => rfl)
    | ((with_reducible refine block_exit_ne ?hy ?_); case hy => decide))
  refine revA hM hr hne hfree rfl rfl rfl ?_
  intro e4 H4 S4 j6 j7 hM4 hr4 hfr4
  obtain ⟨ga, ca, hva⟩ := hM4.ir.slice
  rw [List.length_map] at hva
  have j7' := j7.trans hva
  have ew1 : IntKind.i64.wrap ((all.length : Int) - 1) = (all.length : Int) - 1 := by rw [wrap_i64] <;> omega
  repeat' (first
    | (with_reducible first | refine seq_normal ?_ | (refine hK _ _ ?_; clear hK K) | refine x_seq (fun K hK => ?_) | refine x_nil ?_ | refine x_block ?_ | refine x_skip ?_ | refine x_exit ?_ | refine x_ret ?_ | refine x_label ?_ | refine x_scope ?_ | (refine seq_ret ?_; clear hK K) | (refine seq_exit ?_; clear hK K) | refine block_normal ?_ | refine block_ret ?_ | refine block_exit ?_ | refine loop_exit ?_ | refine loop_ret ?_)
    | ((with_reducible refine x_reg_lit ?hq ?_); case hq => rfl)
    | ((first | (with_reducible first | refine x_op (fun K hK => ?_) | refine end_ret ?_ | refine end_normal ?_) | ((with_reducible refine x_guard_yes ?hy (fun K hK => ?_)); case hy => rfl)); simp only [go_sem, Int.cast_ofNat_Int, Nat.reduceEqDiff, Nat.reduceAdd, Nat.reduceMul, Nat.reduceLeDiff, Nat.reduceLT, Int.reduceLT, Int.reduceLE, Int.reduceEq, Int.reduceNeg, Int.reduceToNat, Nat.reducePow, reduceIte, reduceCtorEq, j6, j7', ew1])
    | ((with_reducible first | refine x_guard_no ?hy ?_ | refine x_cond_true ?hy ?_); case hy => rfl)
    | ((with_reducible first | refine x_guard_none ?hy ?_ | refine x_cond_false ?hy ?_); case hy => rfl)
    | ((with_reducible refine block_exit_ne ?hy ?_); case hy => decide))
  refine revB hM4 hr4 hne (by omega) (by exact j6) (by exact j7) rfl rfl ?_
  intro e5 H5 S5 B5 v5 j6 j9 hM5 hr5 hfr5
  have hne5 : all.reverse ≠ [] := by simp; exact hne
  repeat' (first
    | (with_reducible first | refine seq_normal ?_ | (refine hK _ _ ?_; clear hK K) | refine x_seq (fun K hK => ?_) | refine x_nil ?_ | refine x_block ?_ | refine x_skip ?_ | refine x_exit ?_ | refine x_ret ?_ | refine x_label ?_ | refine x_scope ?_ | (refine seq_ret ?_; clear hK K) | (refine seq_exit ?_; clear hK K) | refine block_normal ?_ | refine block_ret ?_ | refine block_exit ?_ | refine loop_exit ?_ | refine loop_ret ?_)
    | ((with_reducible refine x_reg_lit ?hq ?_); case hq => rfl)
    | ((first | (with_reducible first | refine x_op (fun K hK => ?_) | refine end_ret ?_ | refine end_normal ?_) | ((with_reducible refine x_guard_yes ?hy (fun K hK => ?_)); case hy => rfl)); simp only [go_sem, Int.cast_ofNat_Int, Nat.reduceEqDiff, Nat.reduceAdd, Nat.reduceMul, Nat.reduceLeDiff, Nat.reduceLT, Int.reduceLT, Int.reduceLE, Int.reduceEq, Int.reduceNeg, Int.reduceToNat, Nat.reducePow, reduceIte, reduceCtorEq, j6, j9])
    | ((with_reducible first | refine x_guard_no ?hy ?_ | refine x_cond_true ?hy ?_); case hy => rfl)
    | ((with_reducible first | refine x_guard_none ?hy ?_ | refine x_cond_false ?hy ?_); case hy => rfl)
    | ((with_reducible refine block_exit_ne ?hy ?_); case hy => decide))
  refine stands_ok hM5 hr5 hne5 ?_
  intro H6 hM6
  repeat' (first
    | (with_reducible first | refine seq_normal ?_ | (refine hK _ _ ?_; clear hK K) | refine x_seq (fun K hK => ?_) | refine x_nil ?_ | refine x_block ?_ | refine x_skip ?_ | refine x_exit ?_ | refine x_ret ?_ | refine x_label ?_ | refine x_scope ?_ | (refine seq_ret ?_; clear hK K) | (refine seq_exit ?_; clear hK K) | refine block_normal ?_ | refine block_ret ?_ | refine block_exit ?_ | refine loop_exit ?_ | refine loop_ret ?_)
    | ((with_reducible refine x_reg_lit ?hq ?_); case hq => rfl)
    | ((first | (with_reducible first | refine x_op (fun K hK => ?_) | refine end_ret ?_ | refine end_normal ?_) | ((with_reducible refine x_guard_yes ?hy (fun K hK => ?_)); case hy => rfl)); simp only [go_sem, Int.cast_ofNat_Int, Nat.reduceEqDiff, Nat.reduceAdd, Nat.reduceMul, Nat.reduceLeDiff, Nat.reduceLT, Int.reduceLT, Int.reduceLE, Int.reduceEq, Int.reduceNeg, Int.reduceToNat, Nat.reducePow, reduceIte, reduceCtorEq, j6, j9])
    | ((with_reducible first | refine x_guard_no ?hy ?_ | refine x_cond_true ?hy ?_); case hy => rfl)
    | ((with_reducible first | refine x_guard_none ?hy ?_ | refine x_cond_false ?hy ?_); case hy => rfl)
    | ((with_reducible refine block_exit_ne ?hy ?_); case hy => decide))
  refine revC hM6 hr5 hne5 (by exact j6) (by exact j9) rfl ?_
  intro e7 H7 S7 j6 j9 hM7 hr7 hfr7
  repeat' (first
    | (with_reducible first | refine seq_normal ?_ | (refine hK _ _ ?_; clear hK K) | refine x_seq (fun K hK => ?_) | refine x_nil ?_ | refine x_block ?_ | refine x_skip ?_ | refine x_exit ?_ | refine x_ret ?_ | refine x_label ?_ | refine x_scope ?_ | (refine seq_ret ?_; clear hK K) | (refine seq_exit ?_; clear hK K) | refine block_normal ?_ | refine block_ret ?_ | refine block_exit ?_ | refine loop_exit ?_ | refine loop_ret ?_)
    | ((with_reducible refine x_reg_lit ?hq ?_); case hq => rfl)
    | ((first | (with_reducible first | refine x_op (fun K hK => ?_) | refine end_ret ?_ | refine end_normal ?_) | ((with_reducible refine x_guard_yes ?hy (fun K hK => ?_)); case hy => rfl)); simp only [go_sem, Int.cast_ofNat_Int, Nat.reduceEqDiff, Nat.reduceAdd, Nat.reduceMul, Nat.reduceLeDiff, Nat.reduceLT, Int.reduceLT, Int.reduceLE, Int.reduceEq, Int.reduceNeg, Int.reduceToNat, Nat.reducePow, reduceIte, reduceCtorEq, j6, j9])
    | ((with_reducible first | refine x_guard_no ?hy ?_ | refine x_cond_true ?hy ?_); case hy => rfl)
    | ((with_reducible first | refine x_guard_none ?hy ?_ | refine x_cond_false ?hy ?_); case hy => rfl)
    | ((with_reducible refine block_exit_ne ?hy ?_); case hy => decide))
  refine revD hM7 hr7 hne5 (by rw [hfr7.1, hfr5.1, hfr4.1, hfree]) (by exact j6) (by exact j9) rfl ?_
  intro e8 H8 S8 j6 j9 hM8 hr8 hfr8 hroom8
  obtain ⟨gb, cb, hvb⟩ := hM8.ir.slice
  rw [List.length_map] at hvb
  have j9' := j9.trans hvb
  have ew2 : IntKind.i64.wrap ((all.reverse.length : Int) - 1) = (all.reverse.length : Int) - 1 := by rw [wrap_i64] <;> simp <;> omega
  repeat' (first
    | (with_reducible first | refine seq_normal ?_ | (refine hK _ _ ?_; clear hK K) | refine x_seq (fun K hK => ?_) | refine x_nil ?_ | refine x_block ?_ | refine x_skip ?_ | refine x_exit ?_ | refine x_ret ?_ | refine x_label ?_ | refine x_scope ?_ | (refine seq_ret ?_; clear hK K) | (refine seq_exit ?_; clear hK K) | refine block_normal ?_ | refine block_ret ?_ | refine block_exit ?_ | refine loop_exit ?_ | refine loop_ret ?_)
    | ((with_reducible refine x_reg_lit ?hq ?_); case hq => rfl)
    | ((first | (with_reducible first | refine x_op (fun K hK => ?_) | refine end_ret ?_ | refine end_normal ?_) | ((with_reducible refine x_guard_yes ?hy (fun K hK => ?_)); case hy => rfl)); simp only [go_sem, Int.cast_ofNat_Int, Nat.reduceEqDiff, Nat.reduceAdd, Nat.reduceMul, Nat.reduceLeDiff, Nat.reduceLT, Int.reduceLT, Int.reduceLE, Int.reduceEq, Int.reduceNeg, Int.reduceToNat, Nat.reducePow, reduceIte, reduceCtorEq, j6, j9', ew2])
    | ((with_reducible first | refine x_guard_no ?hy ?_ | refine x_cond_true ?hy ?_); case hy => rfl)
    | ((with_reducible first | refine x_guard_none ?hy ?_ | refine x_cond_false ?hy ?_); case hy => rfl)
    | ((with_reducible refine block_exit_ne ?hy ?_); case hy => decide))
  refine revE hM8 hr8 hne5 (by simp; omega) hfr8 (by rw [hroom8, hfr7.2, hfr5.2, hfr4.2, hroom]) (by exact j6) (by exact j9) rfl ?_
  intro e9 H9 hf9
  repeat' (first
    | (with_reducible first | refine seq_normal ?_ | (refine hK _ _ ?_; clear hK K) | refine x_seq (fun K hK => ?_) | refine x_nil ?_ | refine x_block ?_ | refine x_skip ?_ | refine x_exit ?_ | refine x_ret ?_ | refine x_label ?_ | refine x_scope ?_ | (refine seq_ret ?_; clear hK K) | (refine seq_exit ?_; clear hK K) | refine block_normal ?_ | refine block_ret ?_ | refine block_exit ?_ | refine loop_exit ?_ | refine loop_ret ?_)
    | ((with_reducible refine x_reg_lit ?hq ?_); case hq => rfl)
    | ((first | (with_reducible first | refine x_op (fun K hK => ?_) | refine end_ret ?_ | refine end_normal ?_) | ((with_reducible refine x_guard_yes ?hy (fun K hK => ?_)); case hy => rfl)); simp only [go_sem, Int.cast_ofNat_Int, Nat.reduceEqDiff, Nat.reduceAdd, Nat.reduceMul, Nat.reduceLeDiff, Nat.reduceLT, Int.reduceLT, Int.reduceLE, Int.reduceEq, Int.reduceNeg, Int.reduceToNat, Nat.reducePow, reduceIte, reduceCtorEq])
    | ((with_reducible first | refine x_guard_no ?hy ?_ | refine x_cond_true ?hy ?_); case hy => rfl)
    | ((with_reducible first | refine x_guard_none ?hy ?_ | refine x_cond_false ?hy ?_); case hy => rfl)
    | ((with_reducible refine block_exit_ne ?hy ?_); case hy => decide))
  exact fin _ hf9
end Go.Proofs.Ytndkbhlfbeiniaa
