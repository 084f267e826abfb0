/-
  The document's arena (isthmusref02) in memory: what each call answers and does.
-/
import Derived.Test.YtkfcbgnodjgdcaaHpW
import Derived.Test.YtkfcbgnodjgdcaaHpV
import Derived.Test.YtkfcbgnodjgdcaaTab
namespace Go.Hp
open Go
set_option linter.unusedVariables false
/-- The document's arena: who is in use; who was dropped, the last one in the end. -/
structure Rf where
  room : Nat
  used : List Bool
  free : List Nat
def Rf.hasB (R : Rf) (i : Int) : Bool := decide (1 ≤ i) && R.used.getD i.toNat false
def Rf.count (R : Rf) : Nat := (R.used.drop 1).countP id
/-- What holds of it always. -/
structure Rf.Ok (R : Rf) : Prop where
  ne : R.used ≠ []
  len : R.used.length ≤ R.room + 1
  room : R.room ≤ 4096
  free : ∀ h ∈ R.free, 1 ≤ h ∧ h < R.used.length
  flen : R.free.length ≤ 4096
/-- It lies in memory within the blocks T, header at p. -/
def RfM (H : Heap) (p : Nat) (T : Nat → Prop) (R : Rf) : Prop :=
  ∃ BU BF vU vF, Blk H p [.int .i64 R.room, vU, vF] ∧ BR H BU vU R.used ∧ IR H BF vF (R.free.map Int.ofNat) ∧ R.Ok ∧ (BU ≠ some p ∧ BF ≠ some p ∧ ∀ b, BU = some b → BF ≠ some b) ∧ (T p ∧ (∀ b, BU = some b → T b) ∧ ∀ b, BF = some b → T b) ∧ ∀ b, T b → b < H.size
theorem RfM.lt {H : Heap} {p : Nat} {T : Nat → Prop} {R : Rf} (h : RfM H p T R) {b : Nat} (hb : T b) : b < H.size := by
  obtain ⟨_, _, _, _, _, _, _, _, _, _, h⟩ := h
  exact h b hb
theorem RfM.ok {H : Heap} {p : Nat} {T : Nat → Prop} {R : Rf} (h : RfM H p T R) : R.Ok := by
  obtain ⟨_, _, _, _, _, _, _, h, _⟩ := h
  exact h
theorem RfM.frame {H H' : Heap} {p : Nat} {T S : Nat → Prop} {R : Rf} (h : RfM H p T R) (hf : Fr S H H') (hS : ∀ b, T b → ¬ S b) : RfM H' p T R := by
  obtain ⟨BU, BF, vU, vF, h1, h2, h3, h4, h5, h6, h7⟩ := h
  exact ⟨BU, BF, vU, vF, h1.frame hf (hS p h6.1), h2.frame hf fun b hb => hS b (h6.2.1 b hb), h3.frame hf fun b hb => hS b (h6.2.2 b hb), h4, h5, h6, fun b hb => Nat.lt_of_lt_of_le (h7 b hb) hf.size⟩
theorem RfM.grow {H H' : Heap} {p : Nat} {T : Nat → Prop} {R : Rf} (h : RfM H p T R) (hf : Fr (fun _ => False) H H') : RfM H' p T R := h.frame hf fun _ _ h => h
end Go.Hp
namespace Go.Proofs.Ytkfcbgnodjgdcaa
open Go Go.Hp
set_option linter.all false
set_option maxRecDepth 100000
set_option maxHeartbeats 1600000

theorem rf_new {H : Heap} {n : Nat} {K : Value → Heap → Prop} (hn : n ≤ 4096) (fin : ∀ H' p T, RfM H' p T ⟨n, [false], []⟩ → Fr (fun _ => False) H H' → (∀ b, T b → H.size ≤ b) → K (.tuple #[.pointer (some ⟨p, 0, none⟩), .int .i64 0]) H') :
    CallsH Try.prog 22 #[.int .i64 (n : Nat)] H K := by
  have e1 : ((n : Int) < 0) = False := by simp
  have e2 : (4096 < (n : Int)) = False := by simp; omega
  refine call22 (by simp) ?_
  simp only [Try.f22, Option.getD_some]
  repeat' (first
    | (with_reducible first | refine seq_normal ?_ | (refine hK _ _ ?_; clear hK K) | refine x_seq (fun K hK => ?_) | refine x_nil ?_ | refine x_block ?_ | refine x_skip ?_ | refine x_exit ?_ | refine x_ret ?_ | refine x_label ?_ | refine x_scope ?_ | (refine seq_ret ?_; clear hK K) | (refine seq_exit ?_; clear hK K) | refine block_normal ?_ | refine block_ret ?_ | refine block_exit ?_ | refine loop_exit ?_ | refine loop_ret ?_)
    | ((with_reducible refine x_reg_lit ?hq ?_); case hq => rfl)
    | ((first | (with_reducible first | refine x_op (fun K hK => ?_) | refine end_ret ?_ | refine end_normal ?_) | ((with_reducible refine x_guard_yes ?hy (fun K hK => ?_)); case hy => rfl)); simp only [go_sem, Int.cast_ofNat_Int, Nat.reduceEqDiff, Nat.reduceAdd, Nat.reduceMul, Nat.reduceLeDiff, Nat.reduceLT, Int.reduceLT, Int.reduceLE, Int.reduceEq, Int.reduceNeg, Int.reduceToNat, Nat.reducePow, reduceIte, reduceCtorEq, e1, e2])
    | ((with_reducible first | refine x_guard_no ?hy ?_ | refine x_cond_true ?hy ?_); case hy => rfl)
    | ((with_reducible first | refine x_guard_none ?hy ?_ | refine x_cond_false ?hy ?_); case hy => rfl)
    | ((with_reducible refine block_exit_ne ?hy ?_); case hy => decide))
  have hB := (BR.one H false 4).frame ((Fr.refl (fun _ => False) _).push (.cells #[.int .i64 n, .slice (some ⟨H.size, 0, none⟩) 1 1, .slice none 0 0] 87)) (fun _ _ h => h)
  simp only [Array.size_push]
  refine fin _ (H.size + 1) (fun b => b = H.size ∨ b = H.size + 1) ⟨some H.size, none, _, _, ?_, hB, IR.nil _, ⟨by simp, by simp, hn, (fun h hh => by cases hh), by simp⟩, ⟨by simp, by simp, by simp⟩, ⟨.inr rfl, fun b hb => .inl (Option.some.inj hb).symm, fun b hb => by cases hb⟩, ?_⟩ ?_ ?_
  · have := Blk.new (H.push (.cells #[.bool false] 4)) [.int .i64 n, .slice (some ⟨H.size, 0, none⟩) 1 1, .slice none 0 0] 87
    simpa using this
  · rintro b (rfl | rfl) <;> simp <;> omega
  · exact (by ((repeat (first | refine Fr.set ?_ (by simp) _ | refine Fr.push ?_ _)); exact Fr.refl _ _))
  · rintro b (rfl | rfl) <;> omega
theorem rf_new_bad {H : Heap} {n : Int} {K : Value → Heap → Prop} (hn : n < 0 ∨ 4096 < n) (fin : K (.tuple #[.pointer none, .int .i64 1]) H) : CallsH Try.prog 22 #[.int .i64 n] H K := by
  refine call22 (by simp) ?_
  simp only [Try.f22, Option.getD_some]
  by_cases h0 : n < 0
  · have e1 : (n < 0) = True := by simp [h0]
    repeat' (first
      | (with_reducible first | refine seq_normal ?_ | (refine hK _ _ ?_; clear hK K) | refine x_seq (fun K hK => ?_) | refine x_nil ?_ | refine x_block ?_ | refine x_skip ?_ | refine x_exit ?_ | refine x_ret ?_ | refine x_label ?_ | refine x_scope ?_ | (refine seq_ret ?_; clear hK K) | (refine seq_exit ?_; clear hK K) | refine block_normal ?_ | refine block_ret ?_ | refine block_exit ?_ | refine loop_exit ?_ | refine loop_ret ?_)
      | ((with_reducible refine x_reg_lit ?hq ?_); case hq => rfl)
      | ((first | (with_reducible first | refine x_op (fun K hK => ?_) | refine end_ret ?_ | refine end_normal ?_) | ((with_reducible refine x_guard_yes ?hy (fun K hK => ?_)); case hy => rfl)); simp only [go_sem, Int.cast_ofNat_Int, Nat.reduceEqDiff, Nat.reduceAdd, Nat.reduceMul, Nat.reduceLeDiff, Nat.reduceLT, Int.reduceLT, Int.reduceLE, Int.reduceEq, Int.reduceNeg, Int.reduceToNat, Nat.reducePow, reduceIte, reduceCtorEq, e1])
      | ((with_reducible first | refine x_guard_no ?hy ?_ | refine x_cond_true ?hy ?_); case hy => rfl)
      | ((with_reducible first | refine x_guard_none ?hy ?_ | refine x_cond_false ?hy ?_); case hy => rfl)
      | ((with_reducible refine block_exit_ne ?hy ?_); case hy => decide))
    exact fin
  · have e1 : (n < 0) = False := by simp [h0]
    have e2 : (4096 < n) = True := by simp; omega
    repeat' (first
      | (with_reducible first | refine seq_normal ?_ | (refine hK _ _ ?_; clear hK K) | refine x_seq (fun K hK => ?_) | refine x_nil ?_ | refine x_block ?_ | refine x_skip ?_ | refine x_exit ?_ | refine x_ret ?_ | refine x_label ?_ | refine x_scope ?_ | (refine seq_ret ?_; clear hK K) | (refine seq_exit ?_; clear hK K) | refine block_normal ?_ | refine block_ret ?_ | refine block_exit ?_ | refine loop_exit ?_ | refine loop_ret ?_)
      | ((with_reducible refine x_reg_lit ?hq ?_); case hq => rfl)
      | ((first | (with_reducible first | refine x_op (fun K hK => ?_) | refine end_ret ?_ | refine end_normal ?_) | ((with_reducible refine x_guard_yes ?hy (fun K hK => ?_)); case hy => rfl)); simp only [go_sem, Int.cast_ofNat_Int, Nat.reduceEqDiff, Nat.reduceAdd, Nat.reduceMul, Nat.reduceLeDiff, Nat.reduceLT, Int.reduceLT, Int.reduceLE, Int.reduceEq, Int.reduceNeg, Int.reduceToNat, Nat.reducePow, reduceIte, reduceCtorEq, e1, e2])
      | ((with_reducible first | refine x_guard_no ?hy ?_ | refine x_cond_true ?hy ?_); case hy => rfl)
      | ((with_reducible first | refine x_guard_none ?hy ?_ | refine x_cond_false ?hy ?_); case hy => rfl)
      | ((with_reducible refine block_exit_ne ?hy ?_); case hy => decide))
    exact fin
section
variable {H : Heap} {p : Nat} {T : Nat → Prop} {R : Rf} {K : Value → Heap → Prop}
theorem rf_has {i : Int} (hM : RfM H p T R) (fin : K (.bool (R.hasB i)) H) : CallsH Try.prog 48 #[.pointer (some ⟨p, 0, none⟩), .int .i64 i] H K := by
  obtain ⟨BU, BF, vU, vF, h1, h2, h3, h4, h5, h6, h7⟩ := hM
  obtain ⟨g, c, hB, hv, hc⟩ := h2.open h4.ne
  subst hB hv
  have c1 := h1.cellOf (i := 1) rfl
  refine call48 (by simp) ?_
  simp only [Try.f48, Option.getD_some]
  by_cases hi : 1 ≤ i
  · have t1 : (1 ≤ i) = True := by simp [hi]
    obtain ⟨k, rfl⟩ := Int.eq_ofNat_of_zero_le (show 0 ≤ i by omega)
    by_cases hk : k < R.used.length
    · obtain ⟨x, hx⟩ : ∃ x, R.used[k]? = some x := ⟨_, List.getElem?_eq_getElem hk⟩
      have cx := h2.cell hx
      have e : R.hasB (k : Int) = x := by unfold Rf.hasB; rw [Int.toNat_natCast, List.getD_eq_getElem?_getD, hx]; simp [hi]
      rw [e] at fin
      repeat' (first
        | (with_reducible first | refine seq_normal ?_ | (refine hK _ _ ?_; clear hK K) | refine x_seq (fun K hK => ?_) | refine x_nil ?_ | refine x_block ?_ | refine x_skip ?_ | refine x_exit ?_ | refine x_ret ?_ | refine x_label ?_ | refine x_scope ?_ | (refine seq_ret ?_; clear hK K) | (refine seq_exit ?_; clear hK K) | refine block_normal ?_ | refine block_ret ?_ | refine block_exit ?_ | refine loop_exit ?_ | refine loop_ret ?_)
        | ((with_reducible refine x_reg_lit ?hq ?_); case hq => rfl)
        | ((first | (with_reducible first | refine x_op (fun K hK => ?_) | refine end_ret ?_ | refine end_normal ?_) | ((with_reducible refine x_guard_yes ?hy (fun K hK => ?_)); case hy => rfl)); simp only [go_sem, Int.cast_ofNat_Int, Nat.reduceEqDiff, Nat.reduceAdd, Nat.reduceMul, Nat.reduceLeDiff, Nat.reduceLT, Int.reduceLT, Int.reduceLE, Int.reduceEq, Int.reduceNeg, Int.reduceToNat, Nat.reducePow, reduceIte, reduceCtorEq, t1, c1, hk, cx])
        | ((with_reducible first | refine x_guard_no ?hy ?_ | refine x_cond_true ?hy ?_); case hy => rfl)
        | ((with_reducible first | refine x_guard_none ?hy ?_ | refine x_cond_false ?hy ?_); case hy => rfl)
        | ((with_reducible refine block_exit_ne ?hy ?_); case hy => decide))
      exact fin
    · have t2 : (k < R.used.length) = False := by simp [hk]
      have e : R.hasB (k : Int) = false := by unfold Rf.hasB; rw [Int.toNat_natCast, List.getD_eq_getElem?_getD, List.getElem?_eq_none (by omega)]; simp
      rw [e] at fin
      repeat' (first
        | (with_reducible first | refine seq_normal ?_ | (refine hK _ _ ?_; clear hK K) | refine x_seq (fun K hK => ?_) | refine x_nil ?_ | refine x_block ?_ | refine x_skip ?_ | refine x_exit ?_ | refine x_ret ?_ | refine x_label ?_ | refine x_scope ?_ | (refine seq_ret ?_; clear hK K) | (refine seq_exit ?_; clear hK K) | refine block_normal ?_ | refine block_ret ?_ | refine block_exit ?_ | refine loop_exit ?_ | refine loop_ret ?_)
        | ((with_reducible refine x_reg_lit ?hq ?_); case hq => rfl)
        | ((first | (with_reducible first | refine x_op (fun K hK => ?_) | refine end_ret ?_ | refine end_normal ?_) | ((with_reducible refine x_guard_yes ?hy (fun K hK => ?_)); case hy => rfl)); simp only [go_sem, Int.cast_ofNat_Int, Nat.reduceEqDiff, Nat.reduceAdd, Nat.reduceMul, Nat.reduceLeDiff, Nat.reduceLT, Int.reduceLT, Int.reduceLE, Int.reduceEq, Int.reduceNeg, Int.reduceToNat, Nat.reducePow, reduceIte, reduceCtorEq, t1, c1, t2])
        | ((with_reducible first | refine x_guard_no ?hy ?_ | refine x_cond_true ?hy ?_); case hy => rfl)
        | ((with_reducible first | refine x_guard_none ?hy ?_ | refine x_cond_false ?hy ?_); case hy => rfl)
        | ((with_reducible refine block_exit_ne ?hy ?_); case hy => decide))
      exact fin
  · have t1 : (1 ≤ i) = False := by simp [hi]
    have e : R.hasB i = false := by unfold Rf.hasB; simp [hi]
    rw [e] at fin
    repeat' (first
      | (with_reducible first | refine seq_normal ?_ | (refine hK _ _ ?_; clear hK K) | refine x_seq (fun K hK => ?_) | refine x_nil ?_ | refine x_block ?_ | refine x_skip ?_ | refine x_exit ?_ | refine x_ret ?_ | refine x_label ?_ | refine x_scope ?_ | (refine seq_ret ?_; clear hK K) | (refine seq_exit ?_; clear hK K) | refine block_normal ?_ | refine block_ret ?_ | refine block_exit ?_ | refine loop_exit ?_ | refine loop_ret ?_)
      | ((with_reducible refine x_reg_lit ?hq ?_); case hq => rfl)
      | ((first | (with_reducible first | refine x_op (fun K hK => ?_) | refine end_ret ?_ | refine end_normal ?_) | ((with_reducible refine x_guard_yes ?hy (fun K hK => ?_)); case hy => rfl)); simp only [go_sem, Int.cast_ofNat_Int, Nat.reduceEqDiff, Nat.reduceAdd, Nat.reduceMul, Nat.reduceLeDiff, Nat.reduceLT, Int.reduceLT, Int.reduceLE, Int.reduceEq, Int.reduceNeg, Int.reduceToNat, Nat.reducePow, reduceIte, reduceCtorEq, t1])
      | ((with_reducible first | refine x_guard_no ?hy ?_ | refine x_cond_true ?hy ?_); case hy => rfl)
      | ((with_reducible first | refine x_guard_none ?hy ?_ | refine x_cond_false ?hy ?_); case hy => rfl)
      | ((with_reducible refine block_exit_ne ?hy ?_); case hy => decide))
    exact fin
theorem rf_len (hM : RfM H p T R) (fin : K (.int .i64 (R.count : Nat)) H) : CallsH Try.prog 38 #[.pointer (some ⟨p, 0, none⟩)] H K := by
  obtain ⟨BU, BF, vU, vF, h1, h2, h3, h4, h5, h6, h7⟩ := hM
  obtain ⟨g, c, hB, hv, hc⟩ := h2.open h4.ne
  subst hB hv
  have c1 := h1.cellOf (i := 1) rfl
  have hpos := List.length_pos_iff.2 h4.ne
  have hl := h4.len
  have hr := h4.room
  refine call38 (by simp) ?_
  simp only [Try.f38, Option.getD_some]
  repeat' (first
    | (with_reducible first | refine seq_normal ?_ | (refine hK _ _ ?_; clear hK K) | refine x_seq (fun K hK => ?_) | refine x_nil ?_ | refine x_block ?_ | refine x_skip ?_ | refine x_exit ?_ | refine x_ret ?_ | refine x_label ?_ | refine x_scope ?_ | (refine seq_ret ?_; clear hK K) | (refine seq_exit ?_; clear hK K) | refine block_normal ?_ | refine block_ret ?_ | refine block_exit ?_ | refine loop_exit ?_ | refine loop_ret ?_)
    | ((with_reducible refine x_reg_lit ?hq ?_); case hq => rfl)
    | ((first | (with_reducible first | refine x_op (fun K hK => ?_) | refine end_ret ?_ | refine end_normal ?_) | ((with_reducible refine x_guard_yes ?hy (fun K hK => ?_)); case hy => rfl)); simp only [go_sem, Int.cast_ofNat_Int, Nat.reduceEqDiff, Nat.reduceAdd, Nat.reduceMul, Nat.reduceLeDiff, Nat.reduceLT, Int.reduceLT, Int.reduceLE, Int.reduceEq, Int.reduceNeg, Int.reduceToNat, Nat.reducePow, reduceIte, reduceCtorEq])
    | ((with_reducible first | refine x_guard_no ?hy ?_ | refine x_cond_true ?hy ?_); case hy => rfl)
    | ((with_reducible first | refine x_guard_none ?hy ?_ | refine x_cond_false ?hy ?_); case hy => rfl)
    | ((with_reducible refine block_exit_ne ?hy ?_); case hy => decide))
  refine x_loop (fun m e' H' => ∃ j : Nat, H' = H ∧ e' 3 = .int .i64 (((R.used.take j).drop 1).countP id : Nat) ∧ e' 4 = .int .i64 (j : Nat) ∧ 1 ≤ j ∧ j ≤ R.used.length ∧ m = R.used.length - j) (R.used.length - 1)
    ⟨1, rfl, ?_, rfl, Nat.le_refl _, hpos, rfl⟩ ?_
  · have : (R.used.take 1).drop 1 = [] := by rw [List.drop_take]; simp
    rw [this]; rfl
  rintro m e1 H1 ⟨j, rfl, i3, i4, hj1, hj, rfl⟩ hoff
  have i0 := (hoff 0 rfl).trans rfl
  clear hoff
  by_cases hlt : j < R.used.length
  · obtain ⟨x, hx⟩ : ∃ x, R.used[j]? = some x := ⟨_, List.getElem?_eq_getElem hlt⟩
    have cx := h2.cell hx
    have ew : IntKind.i64.wrap ((j : Int) + 1) = ((j + 1 : Nat) : Int) := by rw [wrap_i64] <;> omega
    have htk : (R.used.take (j + 1)).drop 1 = (R.used.take j).drop 1 ++ [x] := by
      rw [List.take_add_one, hx, List.drop_append_of_le_length (by rw [List.length_take]; omega)]
      rfl
    have hcl : ((R.used.take j).drop 1).countP id ≤ 5000 := by
      refine Nat.le_trans (List.countP_le_length) ?_
      rw [List.length_drop, List.length_take]; omega
    cases x with
    | true =>
      have ew2 : IntKind.i64.wrap ((((R.used.take j).drop 1).countP id : Nat) + 1 : Int) = ((((R.used.take (j + 1)).drop 1).countP id : Nat) : Int) := by
        have h1 : List.countP id [true] = 1 := rfl
        rw [htk, List.countP_append, h1, wrap_i64] <;> omega
      repeat' (first
        | (with_reducible first | refine seq_normal ?_ | (refine hK _ _ ?_; clear hK K) | refine x_seq (fun K hK => ?_) | refine x_nil ?_ | refine x_block ?_ | refine x_skip ?_ | refine x_exit ?_ | refine x_ret ?_ | refine x_label ?_ | refine x_scope ?_ | (refine seq_ret ?_; clear hK K) | (refine seq_exit ?_; clear hK K) | refine block_normal ?_ | refine block_ret ?_ | refine block_exit ?_ | refine loop_exit ?_ | refine loop_ret ?_)
        | ((with_reducible refine x_reg_lit ?hq ?_); case hq => rfl)
        | ((first | (with_reducible first | refine x_op (fun K hK => ?_) | refine end_ret ?_ | refine end_normal ?_) | ((with_reducible refine x_guard_yes ?hy (fun K hK => ?_)); case hy => rfl)); simp only [go_sem, Int.cast_ofNat_Int, Nat.reduceEqDiff, Nat.reduceAdd, Nat.reduceMul, Nat.reduceLeDiff, Nat.reduceLT, Int.reduceLT, Int.reduceLE, Int.reduceEq, Int.reduceNeg, Int.reduceToNat, Nat.reducePow, reduceIte, reduceCtorEq, i0, i3, i4, c1, hlt, cx, ew, ew2])
        | ((with_reducible first | refine x_guard_no ?hy ?_ | refine x_cond_true ?hy ?_); case hy => rfl)
        | ((with_reducible first | refine x_guard_none ?hy ?_ | refine x_cond_false ?hy ?_); case hy => rfl)
        | ((with_reducible refine block_exit_ne ?hy ?_); case hy => decide))
      exact loop_normal (m' := R.used.length - (j + 1)) (by omega) ⟨j + 1, rfl, rfl, rfl, by omega, by omega, rfl⟩
    | false =>
      have e2 : ((R.used.take (j + 1)).drop 1).countP id = ((R.used.take j).drop 1).countP id := by rw [htk, List.countP_append]; simp
      repeat' (first
        | (with_reducible first | refine seq_normal ?_ | (refine hK _ _ ?_; clear hK K) | refine x_seq (fun K hK => ?_) | refine x_nil ?_ | refine x_block ?_ | refine x_skip ?_ | refine x_exit ?_ | refine x_ret ?_ | refine x_label ?_ | refine x_scope ?_ | (refine seq_ret ?_; clear hK K) | (refine seq_exit ?_; clear hK K) | refine block_normal ?_ | refine block_ret ?_ | refine block_exit ?_ | refine loop_exit ?_ | refine loop_ret ?_)
        | ((with_reducible refine x_reg_lit ?hq ?_); case hq => rfl)
        | ((first | (with_reducible first | refine x_op (fun K hK => ?_) | refine end_ret ?_ | refine end_normal ?_) | ((with_reducible refine x_guard_yes ?hy (fun K hK => ?_)); case hy => rfl)); simp only [go_sem, Int.cast_ofNat_Int, Nat.reduceEqDiff, Nat.reduceAdd, Nat.reduceMul, Nat.reduceLeDiff, Nat.reduceLT, Int.reduceLT, Int.reduceLE, Int.reduceEq, Int.reduceNeg, Int.reduceToNat, Nat.reducePow, reduceIte, reduceCtorEq, i0, i3, i4, c1, hlt, cx, ew])
        | ((with_reducible first | refine x_guard_no ?hy ?_ | refine x_cond_true ?hy ?_); case hy => rfl)
        | ((with_reducible first | refine x_guard_none ?hy ?_ | refine x_cond_false ?hy ?_); case hy => rfl)
        | ((with_reducible refine block_exit_ne ?hy ?_); case hy => decide))
      refine loop_normal (m' := R.used.length - (j + 1)) (by omega) ⟨j + 1, rfl, ?_, rfl, by omega, by omega, rfl⟩
      rw [e2]; exact i3
  · have t1 : (j < R.used.length) = False := by simp; omega
    have hj' : j = R.used.length := by omega
    rw [hj', List.take_length] at i3
    repeat' (first
      | (with_reducible first | refine seq_normal ?_ | (refine hK _ _ ?_; clear hK K) | refine x_seq (fun K hK => ?_) | refine x_nil ?_ | refine x_block ?_ | refine x_skip ?_ | refine x_exit ?_ | refine x_ret ?_ | refine x_label ?_ | refine x_scope ?_ | (refine seq_ret ?_; clear hK K) | (refine seq_exit ?_; clear hK K) | refine block_normal ?_ | refine block_ret ?_ | refine block_exit ?_ | refine loop_exit ?_ | refine loop_ret ?_)
      | ((with_reducible refine x_reg_lit ?hq ?_); case hq => rfl)
      | ((first | (with_reducible first | refine x_op (fun K hK => ?_) | refine end_ret ?_ | refine end_normal ?_) | ((with_reducible refine x_guard_yes ?hy (fun K hK => ?_)); case hy => rfl)); simp only [go_sem, Int.cast_ofNat_Int, Nat.reduceEqDiff, Nat.reduceAdd, Nat.reduceMul, Nat.reduceLeDiff, Nat.reduceLT, Int.reduceLT, Int.reduceLE, Int.reduceEq, Int.reduceNeg, Int.reduceToNat, Nat.reducePow, reduceIte, reduceCtorEq, i0, i3, i4, c1, t1])
      | ((with_reducible first | refine x_guard_no ?hy ?_ | refine x_cond_true ?hy ?_); case hy => rfl)
      | ((with_reducible first | refine x_guard_none ?hy ?_ | refine x_cond_false ?hy ?_); case hy => rfl)
      | ((with_reducible refine block_exit_ne ?hy ?_); case hy => decide))
    exact fin
end
end Go.Proofs.Ytkfcbgnodjgdcaa
