/-
  The document's arena (isthmusref02) in memory: what each call answers and does.
  The document's arena: Put and Drop.
  Arenas as plain data: what is kept by handles, which are free and in what order; their rows of cells.
  The document's arena beside an arena: the same handles; Put, Drop, Has, Len, All told by what an arena is.
  A side of ArenaPlays in memory: its parts lie apart (col: which part a block is of; 0: none).
  Splay forests as plain data: nodes, and what each inner function of the package does to them.
  Sums of the splay forest: plus, own.
-/
import Derived.Test.YtndkbhlfbeiniaaHpW
import Derived.Test.YtndkbhlfbeiniaaHpV
import Derived.Test.YtndkbhlfbeiniaaTabM
import Derived.Test.YtndkbhlfbeiniaaHpM
import Derived.Test.YtndkbhlfbeiniaaHpX
import Derived.Test.YtndkbhlfbeiniaaHpT
namespace Go.Hp
open Go
set_option linter.unusedVariables false
structure Rf where
 room : Nat
 used : List Bool
 free : List Nat
def Rf.hasB (R : Rf) (i : Int) : Bool := decide (1 ≤ i) && R.used.getD i.toNat false
def Rf.count (R : Rf) : Nat := (R.used.drop 1).countP id
structure Rf.Ok (R : Rf) : Prop where
 ne : R.used ≠ []
 len : R.used.length ≤ R.room + 1
 room : R.room ≤ 4096
 free : ∀ h ∈ R.free, 1 ≤ h ∧ h < R.used.length
 flen : R.free.length ≤ 4096
def RfM (H : Heap) (p : Nat) (T : Nat → Prop) (R : Rf) : Prop :=
 ∃ BU BF vU vF, Blk H p [.int .i64 R.room, vU, vF] ∧ BR H BU vU R.used ∧ IR H BF vF (R.free.map Int.ofNat) ∧ R.Ok ∧ (BU ≠ some p ∧ BF ≠ some p ∧ ∀ b, BU = some b → BF ≠ some b) ∧ (T p ∧ (∀ b, BU = some b → T b) ∧ ∀ b, BF = some b → T b) ∧ ∀ b, T b → b < H.size
theorem RfM.lt {H : Heap} {p : Nat} {T : Nat → Prop} {R : Rf} (h : RfM H p T R) {b : Nat} (hb : T b) : b < H.size := by
 obtain ⟨_, _, _, _, _, _, _, _, _, _, h⟩ := h
 exact h b hb
theorem RfM.ok {H : Heap} {p : Nat} {T : Nat → Prop} {R : Rf} (h : RfM H p T R) : R.Ok := by
 obtain ⟨_, _, _, _, _, _, _, h, _⟩ := h
 exact h
theorem RfM.frame {H H' : Heap} {p : Nat} {T S : Nat → Prop} {R : Rf} (h : RfM H p T R) (hf : Fr S H H') (hS : ∀ b, T b → ¬ S b) : RfM H' p T R := by
 obtain ⟨BU, BF, vU, vF, h1, h2, h3, h4, h5, h6, h7⟩ := h
 exact ⟨BU, BF, vU, vF, h1.frame hf (hS p h6.1), h2.frame hf fun b hb => hS b (h6.2.1 b hb), h3.frame hf fun b hb => hS b (h6.2.2 b hb), h4, h5, h6, fun b hb => Nat.lt_of_lt_of_le (h7 b hb) hf.size⟩
theorem RfM.grow {H H' : Heap} {p : Nat} {T : Nat → Prop} {R : Rf} (h : RfM H p T R) (hf : Fr (fun _ => False) H H') : RfM H' p T R := h.frame hf fun _ _ h => h
end Go.Hp
namespace Go.Proofs.Ytndkbhlfbeiniaa
open Go Go.Hp
set_option linter.all false
set_option maxRecDepth 100000
set_option maxHeartbeats 1600000

theorem rf_new {H : Heap} {n : Nat} {K : Value → Heap → Prop} (hn : n ≤ 4096) (fin : ∀ H' p T, RfM H' p T ⟨n, [false], []⟩ → Fr (fun _ => False) H H' → (∀ b, T b → H.size ≤ b) → K (.tuple #[.pointer (some ⟨p, 0, none⟩), .int .i64 0]) H') :
  CallsH Try.prog 50 #[.int .i64 (n : Nat)] H K := by
 have e1 : ((n : Int) < 0) = False := by simp
 have e2 : (4096 < (n : Int)) = False := by simp; omega
 refine call50 (by simp) ?_
 simp only [Try.f50, Option.getD_some]
 repeat' (first|(with_reducible first|refine jA ?_|(refine hK _ _ ?_;clear hK K)|refine jJ fun K hK=>?_|refine jK ?_|refine jL ?_|refine jM ?_|refine jN ?_|refine jO ?_|refine jP ?_|refine jQ ?_|(refine jB ?_;clear hK K)|(refine jC ?_;clear hK K)|refine jD ?_|refine jE ?_|refine jG ?_|refine jH ?_|refine jI ?_)|((with_reducible refine jR ?hq ?_);case hq=>rfl)|((first|(with_reducible first|refine jS fun K hK=>?_|refine jT ?_|refine jU ?_)|((with_reducible refine jV ?hy fun K hK=>?_);case hy=>rfl));simp only [go_sem, Nat.reduceEqDiff, Nat.reduceAdd, Nat.reduceMul, Nat.reduceLeDiff, Nat.reduceLT, Int.reduceLT, Int.reduceLE, Int.reduceEq, Int.reduceNeg, Int.reduceToNat, Nat.reducePow, reduceIte, reduceCtorEq, e1, e2])|((with_reducible first|refine jW ?hy ?_|refine jY ?hy ?_);case hy=>rfl)|((with_reducible first|refine jX ?hy ?_|refine jZ ?hy ?_);case hy=>rfl)|((with_reducible refine jF ?hy ?_);case hy=>decide))
 have hB := (BR.one H false 4).frame ((Fr.refl (fun _ => False) _).push (.cells #[.int .i64 n, .slice (some ⟨H.size, 0, none⟩) 1 1, .slice none 0 0] 111)) (fun _ _ h => h)
 simp only [Array.size_push]
 refine fin _ (H.size + 1) (fun b => b = H.size ∨ b = H.size + 1) ⟨some H.size, none, _, _, ?_, hB, IR.nil _, ⟨by simp, by simp, hn, (fun h hh => by cases hh), by simp⟩, ⟨by simp, by simp, by simp⟩, ⟨.inr rfl, fun b hb => .inl (Option.some.inj hb).symm, fun b hb => by cases hb⟩, ?_⟩ ?_ ?_
 ·have := Blk.new (H.push (.cells #[.bool false] 4)) [.int .i64 n, .slice (some ⟨H.size, 0, none⟩) 1 1, .slice none 0 0] 111
  simpa using this
 ·rintro b (rfl | rfl) <;> simp <;> omega
 ·exact (by ((repeat (first | refine Fr.set ?_ (by simp) _ | refine Fr.push ?_ _)); exact Fr.refl _ _))
 ·rintro b (rfl | rfl) <;> omega
theorem rf_new_bad {H : Heap} {n : Int} {K : Value → Heap → Prop} (hn : n < 0 ∨ 4096 < n) (fin : K (.tuple #[.pointer none, .int .i64 1]) H) : CallsH Try.prog 50 #[.int .i64 n] H K := by
 refine call50 (by simp) ?_
 simp only [Try.f50, Option.getD_some]
 by_cases h0 : n < 0
 ·have e1 : (n < 0) = True := by simp [h0]
  repeat' (first|(with_reducible first|refine jA ?_|(refine hK _ _ ?_;clear hK K)|refine jJ fun K hK=>?_|refine jK ?_|refine jL ?_|refine jM ?_|refine jN ?_|refine jO ?_|refine jP ?_|refine jQ ?_|(refine jB ?_;clear hK K)|(refine jC ?_;clear hK K)|refine jD ?_|refine jE ?_|refine jG ?_|refine jH ?_|refine jI ?_)|((with_reducible refine jR ?hq ?_);case hq=>rfl)|((first|(with_reducible first|refine jS fun K hK=>?_|refine jT ?_|refine jU ?_)|((with_reducible refine jV ?hy fun K hK=>?_);case hy=>rfl));simp only [go_sem, Nat.reduceEqDiff, Nat.reduceAdd, Nat.reduceMul, Nat.reduceLeDiff, Nat.reduceLT, Int.reduceLT, Int.reduceLE, Int.reduceEq, Int.reduceNeg, Int.reduceToNat, Nat.reducePow, reduceIte, reduceCtorEq, e1])|((with_reducible first|refine jW ?hy ?_|refine jY ?hy ?_);case hy=>rfl)|((with_reducible first|refine jX ?hy ?_|refine jZ ?hy ?_);case hy=>rfl)|((with_reducible refine jF ?hy ?_);case hy=>decide))
  exact fin
 ·have e1 : (n < 0) = False := by simp [h0]
  have e2 : (4096 < n) = True := by simp; omega
  repeat' (first|(with_reducible first|refine jA ?_|(refine hK _ _ ?_;clear hK K)|refine jJ fun K hK=>?_|refine jK ?_|refine jL ?_|refine jM ?_|refine jN ?_|refine jO ?_|refine jP ?_|refine jQ ?_|(refine jB ?_;clear hK K)|(refine jC ?_;clear hK K)|refine jD ?_|refine jE ?_|refine jG ?_|refine jH ?_|refine jI ?_)|((with_reducible refine jR ?hq ?_);case hq=>rfl)|((first|(with_reducible first|refine jS fun K hK=>?_|refine jT ?_|refine jU ?_)|((with_reducible refine jV ?hy fun K hK=>?_);case hy=>rfl));simp only [go_sem, Nat.reduceEqDiff, Nat.reduceAdd, Nat.reduceMul, Nat.reduceLeDiff, Nat.reduceLT, Int.reduceLT, Int.reduceLE, Int.reduceEq, Int.reduceNeg, Int.reduceToNat, Nat.reducePow, reduceIte, reduceCtorEq, e1, e2])|((with_reducible first|refine jW ?hy ?_|refine jY ?hy ?_);case hy=>rfl)|((with_reducible first|refine jX ?hy ?_|refine jZ ?hy ?_);case hy=>rfl)|((with_reducible refine jF ?hy ?_);case hy=>decide))
  exact fin
section
variable {H : Heap} {p : Nat} {T : Nat → Prop} {R : Rf} {K : Value → Heap → Prop}
theorem rf_has {i : Int} (hM : RfM H p T R) (fin : K (.bool (R.hasB i)) H) : CallsH Try.prog 77 #[.pointer (some ⟨p, 0, none⟩), .int .i64 i] H K := by
 obtain ⟨BU, BF, vU, vF, h1, h2, h3, h4, h5, h6, h7⟩ := hM
 obtain ⟨g, c, hB, hv, hc⟩ := h2.open h4.ne
 subst hB hv
 have c1 := h1.cellOf (i := 1) rfl
 refine call77 (by simp) ?_
 simp only [Try.f77, Option.getD_some]
 by_cases hi : 1 ≤ i
 ·have t1 : (1 ≤ i) = True := by simp [hi]
  obtain ⟨k, rfl⟩ := Int.eq_ofNat_of_zero_le (show 0 ≤ i by omega)
  by_cases hk : k < R.used.length
  ·obtain ⟨x, hx⟩ : ∃ x, R.used[k]? = some x := ⟨_, List.getElem?_eq_getElem hk⟩
   have cx := h2.cell hx
   have e : R.hasB (k : Int) = x := by unfold Rf.hasB; rw [Int.toNat_natCast, List.getD_eq_getElem?_getD, hx]; simp [hi]
   rw [e] at fin
   repeat' (first|(with_reducible first|refine jA ?_|(refine hK _ _ ?_;clear hK K)|refine jJ fun K hK=>?_|refine jK ?_|refine jL ?_|refine jM ?_|refine jN ?_|refine jO ?_|refine jP ?_|refine jQ ?_|(refine jB ?_;clear hK K)|(refine jC ?_;clear hK K)|refine jD ?_|refine jE ?_|refine jG ?_|refine jH ?_|refine jI ?_)|((with_reducible refine jR ?hq ?_);case hq=>rfl)|((first|(with_reducible first|refine jS fun K hK=>?_|refine jT ?_|refine jU ?_)|((with_reducible refine jV ?hy fun K hK=>?_);case hy=>rfl));simp only [go_sem, Nat.reduceEqDiff, Nat.reduceAdd, Nat.reduceMul, Nat.reduceLeDiff, Nat.reduceLT, Int.reduceLT, Int.reduceLE, Int.reduceEq, Int.reduceNeg, Int.reduceToNat, Nat.reducePow, reduceIte, reduceCtorEq, t1, c1, hk, cx])|((with_reducible first|refine jW ?hy ?_|refine jY ?hy ?_);case hy=>rfl)|((with_reducible first|refine jX ?hy ?_|refine jZ ?hy ?_);case hy=>rfl)|((with_reducible refine jF ?hy ?_);case hy=>decide))
   exact fin
  ·have t2 : (k < R.used.length) = False := by simp [hk]
   have e : R.hasB (k : Int) = false := by unfold Rf.hasB; rw [Int.toNat_natCast, List.getD_eq_getElem?_getD, List.getElem?_eq_none (by omega)]; simp
   rw [e] at fin
   repeat' (first|(with_reducible first|refine jA ?_|(refine hK _ _ ?_;clear hK K)|refine jJ fun K hK=>?_|refine jK ?_|refine jL ?_|refine jM ?_|refine jN ?_|refine jO ?_|refine jP ?_|refine jQ ?_|(refine jB ?_;clear hK K)|(refine jC ?_;clear hK K)|refine jD ?_|refine jE ?_|refine jG ?_|refine jH ?_|refine jI ?_)|((with_reducible refine jR ?hq ?_);case hq=>rfl)|((first|(with_reducible first|refine jS fun K hK=>?_|refine jT ?_|refine jU ?_)|((with_reducible refine jV ?hy fun K hK=>?_);case hy=>rfl));simp only [go_sem, Nat.reduceEqDiff, Nat.reduceAdd, Nat.reduceMul, Nat.reduceLeDiff, Nat.reduceLT, Int.reduceLT, Int.reduceLE, Int.reduceEq, Int.reduceNeg, Int.reduceToNat, Nat.reducePow, reduceIte, reduceCtorEq, t1, c1, t2])|((with_reducible first|refine jW ?hy ?_|refine jY ?hy ?_);case hy=>rfl)|((with_reducible first|refine jX ?hy ?_|refine jZ ?hy ?_);case hy=>rfl)|((with_reducible refine jF ?hy ?_);case hy=>decide))
   exact fin
 ·have t1 : (1 ≤ i) = False := by simp [hi]
  have e : R.hasB i = false := by unfold Rf.hasB; simp [hi]
  rw [e] at fin
  repeat' (first|(with_reducible first|refine jA ?_|(refine hK _ _ ?_;clear hK K)|refine jJ fun K hK=>?_|refine jK ?_|refine jL ?_|refine jM ?_|refine jN ?_|refine jO ?_|refine jP ?_|refine jQ ?_|(refine jB ?_;clear hK K)|(refine jC ?_;clear hK K)|refine jD ?_|refine jE ?_|refine jG ?_|refine jH ?_|refine jI ?_)|((with_reducible refine jR ?hq ?_);case hq=>rfl)|((first|(with_reducible first|refine jS fun K hK=>?_|refine jT ?_|refine jU ?_)|((with_reducible refine jV ?hy fun K hK=>?_);case hy=>rfl));simp only [go_sem, Nat.reduceEqDiff, Nat.reduceAdd, Nat.reduceMul, Nat.reduceLeDiff, Nat.reduceLT, Int.reduceLT, Int.reduceLE, Int.reduceEq, Int.reduceNeg, Int.reduceToNat, Nat.reducePow, reduceIte, reduceCtorEq, t1])|((with_reducible first|refine jW ?hy ?_|refine jY ?hy ?_);case hy=>rfl)|((with_reducible first|refine jX ?hy ?_|refine jZ ?hy ?_);case hy=>rfl)|((with_reducible refine jF ?hy ?_);case hy=>decide))
  exact fin
theorem rf_len (hM : RfM H p T R) (fin : K (.int .i64 (R.count : Nat)) H) : CallsH Try.prog 76 #[.pointer (some ⟨p, 0, none⟩)] H K := by
 obtain ⟨BU, BF, vU, vF, h1, h2, h3, h4, h5, h6, h7⟩ := hM
 obtain ⟨g, c, hB, hv, hc⟩ := h2.open h4.ne
 subst hB hv
 have c1 := h1.cellOf (i := 1) rfl
 have hpos := List.length_pos_iff.2 h4.ne
 have hl := h4.len
 have hr := h4.room
 refine call76 (by simp) ?_
 simp only [Try.f76, Option.getD_some]
 repeat' (first|(with_reducible first|refine jA ?_|(refine hK _ _ ?_;clear hK K)|refine jJ fun K hK=>?_|refine jK ?_|refine jL ?_|refine jM ?_|refine jN ?_|refine jO ?_|refine jP ?_|refine jQ ?_|(refine jB ?_;clear hK K)|(refine jC ?_;clear hK K)|refine jD ?_|refine jE ?_|refine jG ?_|refine jH ?_|refine jI ?_)|((with_reducible refine jR ?hq ?_);case hq=>rfl)|((first|(with_reducible first|refine jS fun K hK=>?_|refine jT ?_|refine jU ?_)|((with_reducible refine jV ?hy fun K hK=>?_);case hy=>rfl));simp only [go_sem, Nat.reduceEqDiff, Nat.reduceAdd, Nat.reduceMul, Nat.reduceLeDiff, Nat.reduceLT, Int.reduceLT, Int.reduceLE, Int.reduceEq, Int.reduceNeg, Int.reduceToNat, Nat.reducePow, reduceIte, reduceCtorEq])|((with_reducible first|refine jW ?hy ?_|refine jY ?hy ?_);case hy=>rfl)|((with_reducible first|refine jX ?hy ?_|refine jZ ?hy ?_);case hy=>rfl)|((with_reducible refine jF ?hy ?_);case hy=>decide))
 refine x_loop (fun m e' H' => ∃ j : Nat, H' = H ∧ e' 3 = .int .i64 (((R.used.take j).drop 1).countP id : Nat) ∧ e' 4 = .int .i64 (j : Nat) ∧ 1 ≤ j ∧ j ≤ R.used.length ∧ m = R.used.length - j) (R.used.length - 1)
  ⟨1, rfl, ?_, rfl, Nat.le_refl _, hpos, rfl⟩ ?_
 ·have : (R.used.take 1).drop 1 = [] := by rw [List.drop_take]; simp
  rw [this]; rfl
 rintro m e1 H1 ⟨j, rfl, i3, i4, hj1, hj, rfl⟩ hoff
 have i0 := (hoff 0 rfl).trans rfl
 clear hoff
 by_cases hlt : j < R.used.length
 ·obtain ⟨x, hx⟩ : ∃ x, R.used[j]? = some x := ⟨_, List.getElem?_eq_getElem hlt⟩
  have cx := h2.cell hx
  have ew : IntKind.i64.wrap ((j : Int) + 1) = ((j + 1 : Nat) : Int) := by rw [wrap_i64] <;> omega
  have htk : (R.used.take (j + 1)).drop 1 = (R.used.take j).drop 1 ++ [x] := by
   rw [List.take_add_one, hx, List.drop_append_of_le_length (by rw [List.length_take]; omega)]
   rfl
  have hcl : ((R.used.take j).drop 1).countP id ≤ 5000 := by
   refine Nat.le_trans (List.countP_le_length) ?_
   rw [List.length_drop, List.length_take]; omega
  cases x with
  | true =>
   have ew2 : IntKind.i64.wrap ((((R.used.take j).drop 1).countP id : Nat) + 1 : Int) = ((((R.used.take (j + 1)).drop 1).countP id : Nat) : Int) := by
    have h1 : List.countP id [true] = 1 := rfl
    rw [htk, List.countP_append, h1, wrap_i64] <;> omega
   repeat' (first|(with_reducible first|refine jA ?_|(refine hK _ _ ?_;clear hK K)|refine jJ fun K hK=>?_|refine jK ?_|refine jL ?_|refine jM ?_|refine jN ?_|refine jO ?_|refine jP ?_|refine jQ ?_|(refine jB ?_;clear hK K)|(refine jC ?_;clear hK K)|refine jD ?_|refine jE ?_|refine jG ?_|refine jH ?_|refine jI ?_)|((with_reducible refine jR ?hq ?_);case hq=>rfl)|((first|(with_reducible first|refine jS fun K hK=>?_|refine jT ?_|refine jU ?_)|((with_reducible refine jV ?hy fun K hK=>?_);case hy=>rfl));simp only [go_sem, Nat.reduceEqDiff, Nat.reduceAdd, Nat.reduceMul, Nat.reduceLeDiff, Nat.reduceLT, Int.reduceLT, Int.reduceLE, Int.reduceEq, Int.reduceNeg, Int.reduceToNat, Nat.reducePow, reduceIte, reduceCtorEq, i0, i3, i4, c1, hlt, cx, ew, ew2])|((with_reducible first|refine jW ?hy ?_|refine jY ?hy ?_);case hy=>rfl)|((with_reducible first|refine jX ?hy ?_|refine jZ ?hy ?_);case hy=>rfl)|((with_reducible refine jF ?hy ?_);case hy=>decide))
   exact loop_normal (m' := R.used.length - (j + 1)) (by omega) ⟨j + 1, rfl, rfl, rfl, by omega, by omega, rfl⟩
  | false =>
   have e2 : ((R.used.take (j + 1)).drop 1).countP id = ((R.used.take j).drop 1).countP id := by rw [htk, List.countP_append]; simp
   repeat' (first|(with_reducible first|refine jA ?_|(refine hK _ _ ?_;clear hK K)|refine jJ fun K hK=>?_|refine jK ?_|refine jL ?_|refine jM ?_|refine jN ?_|refine jO ?_|refine jP ?_|refine jQ ?_|(refine jB ?_;clear hK K)|(refine jC ?_;clear hK K)|refine jD ?_|refine jE ?_|refine jG ?_|refine jH ?_|refine jI ?_)|((with_reducible refine jR ?hq ?_);case hq=>rfl)|((first|(with_reducible first|refine jS fun K hK=>?_|refine jT ?_|refine jU ?_)|((with_reducible refine jV ?hy fun K hK=>?_);case hy=>rfl));simp only [go_sem, Nat.reduceEqDiff, Nat.reduceAdd, Nat.reduceMul, Nat.reduceLeDiff, Nat.reduceLT, Int.reduceLT, Int.reduceLE, Int.reduceEq, Int.reduceNeg, Int.reduceToNat, Nat.reducePow, reduceIte, reduceCtorEq, i0, i3, i4, c1, hlt, cx, ew])|((with_reducible first|refine jW ?hy ?_|refine jY ?hy ?_);case hy=>rfl)|((with_reducible first|refine jX ?hy ?_|refine jZ ?hy ?_);case hy=>rfl)|((with_reducible refine jF ?hy ?_);case hy=>decide))
   refine loop_normal (m' := R.used.length - (j + 1)) (by omega) ⟨j + 1, rfl, ?_, rfl, by omega, by omega, rfl⟩
   rw [e2]; exact i3
 ·have t1 : (j < R.used.length) = False := by simp; omega
  have hj' : j = R.used.length := by omega
  rw [hj', List.take_length] at i3
  repeat' (first|(with_reducible first|refine jA ?_|(refine hK _ _ ?_;clear hK K)|refine jJ fun K hK=>?_|refine jK ?_|refine jL ?_|refine jM ?_|refine jN ?_|refine jO ?_|refine jP ?_|refine jQ ?_|(refine jB ?_;clear hK K)|(refine jC ?_;clear hK K)|refine jD ?_|refine jE ?_|refine jG ?_|refine jH ?_|refine jI ?_)|((with_reducible refine jR ?hq ?_);case hq=>rfl)|((first|(with_reducible first|refine jS fun K hK=>?_|refine jT ?_|refine jU ?_)|((with_reducible refine jV ?hy fun K hK=>?_);case hy=>rfl));simp only [go_sem, Nat.reduceEqDiff, Nat.reduceAdd, Nat.reduceMul, Nat.reduceLeDiff, Nat.reduceLT, Int.reduceLT, Int.reduceLE, Int.reduceEq, Int.reduceNeg, Int.reduceToNat, Nat.reducePow, reduceIte, reduceCtorEq, i0, i3, i4, c1, t1])|((with_reducible first|refine jW ?hy ?_|refine jY ?hy ?_);case hy=>rfl)|((with_reducible first|refine jX ?hy ?_|refine jZ ?hy ?_);case hy=>rfl)|((with_reducible refine jF ?hy ?_);case hy=>decide))
  exact fin
end
end Go.Proofs.Ytndkbhlfbeiniaa
namespace Go.Hp
open Go
set_option linter.unusedVariables false
theorem IR.cut {H : Heap} {g n c : Nat} {xs ys : List Int} (h : IR H (some g) (.slice (some ⟨g, 0, none⟩) n c) (xs ++ ys)) : IR H (some g) (.slice (some ⟨g, 0, none⟩) xs.length c) xs := by
 obtain ⟨_, h | ⟨g', c', rest, h1, h2, h3, h4, h5⟩⟩ := h
 ·cases h.1
 ·obtain rfl := Option.some.inj h1
  simp only [Value.slice.injEq] at h2
  obtain ⟨_, rfl, rfl⟩ := h2
  refine ⟨by simp, .inr ⟨g, c, ys.map (Value.int .i64) ++ rest, rfl, rfl, ?_, ?_, ?_⟩⟩
  ·rw [← List.append_assoc, ← List.map_append]; exact h3
  ·rw [← List.append_assoc, ← List.map_append]; exact h4
  ·simp at h5; omega
def Rf.old (R : Rf) (h : Nat) : Rf := { R with used := R.used.set h true, free := R.free.dropLast }
def Rf.more (R : Rf) : Rf := { R with used := R.used ++ [true] }
def Rf.dropped (R : Rf) (h : Nat) : Rf := { R with used := R.used.set h false, free := R.free ++ [h] }
end Go.Hp
namespace Go.Proofs.Ytndkbhlfbeiniaa
open Go Go.Hp
set_option linter.all false
set_option maxRecDepth 100000
set_option maxHeartbeats 1600000
section
variable {H : Heap} {p : Nat} {T : Nat → Prop} {R : Rf} {K : Value → Heap → Prop}
theorem rf_full (hM : RfM H p T R) (hc : R.room ≤ R.count) (fin : K (.tuple #[.int .i64 0, .int .i64 20]) H) : CallsH Try.prog 71 #[.pointer (some ⟨p, 0, none⟩)] H K := by
 have hM' := hM
 obtain ⟨BU, BF, vU, vF, h1, h2, h3, h4, h5, h6, h7⟩ := hM
 have c0 := h1.cellOf (i := 0) rfl
 have e1 : ((R.room : Int) ≤ (R.count : Int)) = True := by simp; omega
 refine call71 (by simp) ?_
 simp only [Try.f71, Option.getD_some]
 repeat' (first|(with_reducible first|refine jA ?_|(refine hK _ _ ?_;clear hK K)|refine jJ fun K hK=>?_|refine jK ?_|refine jL ?_|refine jM ?_|refine jN ?_|refine jO ?_|refine jP ?_|refine jQ ?_|(refine jB ?_;clear hK K)|(refine jC ?_;clear hK K)|refine jD ?_|refine jE ?_|refine jG ?_|refine jH ?_|refine jI ?_)|((with_reducible refine jR ?hq ?_);case hq=>rfl)|((first|(with_reducible first|refine jS fun K hK=>?_|refine jT ?_|refine jU ?_)|((with_reducible refine jV ?hy fun K hK=>?_);case hy=>rfl));simp only [go_sem, Nat.reduceEqDiff, Nat.reduceAdd, Nat.reduceMul, Nat.reduceLeDiff, Nat.reduceLT, Int.reduceLT, Int.reduceLE, Int.reduceEq, Int.reduceNeg, Int.reduceToNat, Nat.reducePow, reduceIte, reduceCtorEq])|((with_reducible first|refine jW ?hy ?_|refine jY ?hy ?_);case hy=>rfl)|((with_reducible first|refine jX ?hy ?_|refine jZ ?hy ?_);case hy=>rfl)|((with_reducible refine jF ?hy ?_);case hy=>decide))
 have q : Cells [(p, 0, .int .i64 R.room)] H := ⟨c0, trivial⟩
 refine x_drawS [] [0, 2, 3, 4, 5, 1, 6] rfl (by kernel_rfl) (Cells _) q ?_
 repeat' (first|(with_reducible refine xs_nil ?_)|((first|((with_reducible apply xs_rd);case hi=>rfl)|((with_reducible apply xs_guard_yes);(case hi=>rfl);(case hy=>rfl)));(case hr=>rfl);(case h1=>intro H' hS'; (try simp only [Cells, and_true] at hS');simp only [go_sem, Nat.reduceEqDiff, Nat.reduceAdd, Nat.reduceMul, Nat.reduceLeDiff, Nat.reduceLT, Int.reduceLT, Int.reduceLE, Int.reduceEq, Int.reduceNeg, Int.reduceToNat, Nat.reducePow, reduceIte, reduceCtorEq, hS']; rfl))|((with_reducible refine xs_tail ?hz ?_);case hz=>rfl)|((with_reducible refine xs_keep ?hz ?_);case hz=>first|(with_reducible assumption)|assumption|(simp only [go_sem, Nat.reduceEqDiff, Nat.reduceAdd, Nat.reduceMul, Nat.reduceLeDiff, Nat.reduceLT, Int.reduceLT, Int.reduceLE, Int.reduceEq, Int.reduceNeg, Int.reduceToNat, Nat.reducePow, reduceIte, reduceCtorEq, Cells, and_true]))|((with_reducible apply xs_guard_no);(case hi=>rfl);(case hy=>rfl);(case hS=>assumption))|((first|((with_reducible apply xs_op);(case hi=>rfl))|((with_reducible apply xs_op_yes);(case hi=>rfl);(case hy=>rfl)));(case hr=>rfl);intro K hK; simp only [go_sem, Nat.reduceEqDiff, Nat.reduceAdd, Nat.reduceMul, Nat.reduceLeDiff, Nat.reduceLT, Int.reduceLT, Int.reduceLE, Int.reduceEq, Int.reduceNeg, Int.reduceToNat, Nat.reducePow, reduceIte, reduceCtorEq])|(with_reducible first|refine jA ?_|(refine hK _ _ ?_;clear hK K)|refine jJ fun K hK=>?_|refine jK ?_|refine jL ?_|refine jM ?_|refine jN ?_|refine jO ?_|refine jP ?_|refine jQ ?_|(refine jB ?_;clear hK K)|(refine jC ?_;clear hK K)|refine jD ?_|refine jE ?_|refine jG ?_|refine jH ?_|refine jI ?_)|((with_reducible refine jR ?hq ?_);case hq=>rfl)|((first|(with_reducible first|refine jS fun K hK=>?_|refine jT ?_|refine jU ?_)|((with_reducible refine jV ?hy fun K hK=>?_);case hy=>rfl));simp only [go_sem, Nat.reduceEqDiff, Nat.reduceAdd, Nat.reduceMul, Nat.reduceLeDiff, Nat.reduceLT, Int.reduceLT, Int.reduceLE, Int.reduceEq, Int.reduceNeg, Int.reduceToNat, Nat.reducePow, reduceIte, reduceCtorEq])|((with_reducible first|refine jW ?hy ?_|refine jY ?hy ?_);case hy=>rfl)|((with_reducible first|refine jX ?hy ?_|refine jZ ?hy ?_);case hy=>rfl)|((with_reducible refine jF ?hy ?_);case hy=>decide))
 refine rf_len hM' ?_
 repeat' (first|(with_reducible refine xs_nil ?_)|((first|((with_reducible apply xs_rd);case hi=>rfl)|((with_reducible apply xs_guard_yes);(case hi=>rfl);(case hy=>rfl)));(case hr=>rfl);(case h1=>intro H' hS'; (try simp only [Cells, and_true] at hS');simp only [go_sem, Nat.reduceEqDiff, Nat.reduceAdd, Nat.reduceMul, Nat.reduceLeDiff, Nat.reduceLT, Int.reduceLT, Int.reduceLE, Int.reduceEq, Int.reduceNeg, Int.reduceToNat, Nat.reducePow, reduceIte, reduceCtorEq, e1, q, hS']; rfl))|((with_reducible refine xs_tail ?hz ?_);case hz=>rfl)|((with_reducible refine xs_keep ?hz ?_);case hz=>first|(with_reducible assumption)|assumption|(simp only [go_sem, Nat.reduceEqDiff, Nat.reduceAdd, Nat.reduceMul, Nat.reduceLeDiff, Nat.reduceLT, Int.reduceLT, Int.reduceLE, Int.reduceEq, Int.reduceNeg, Int.reduceToNat, Nat.reducePow, reduceIte, reduceCtorEq, Cells, and_true, e1, q]))|((with_reducible apply xs_guard_no);(case hi=>rfl);(case hy=>rfl);(case hS=>assumption))|((first|((with_reducible apply xs_op);(case hi=>rfl))|((with_reducible apply xs_op_yes);(case hi=>rfl);(case hy=>rfl)));(case hr=>rfl);intro K hK; simp only [go_sem, Nat.reduceEqDiff, Nat.reduceAdd, Nat.reduceMul, Nat.reduceLeDiff, Nat.reduceLT, Int.reduceLT, Int.reduceLE, Int.reduceEq, Int.reduceNeg, Int.reduceToNat, Nat.reducePow, reduceIte, reduceCtorEq, e1, q])|(with_reducible first|refine jA ?_|(refine hK _ _ ?_;clear hK K)|refine jJ fun K hK=>?_|refine jK ?_|refine jL ?_|refine jM ?_|refine jN ?_|refine jO ?_|refine jP ?_|refine jQ ?_|(refine jB ?_;clear hK K)|(refine jC ?_;clear hK K)|refine jD ?_|refine jE ?_|refine jG ?_|refine jH ?_|refine jI ?_)|((with_reducible refine jR ?hq ?_);case hq=>rfl)|((first|(with_reducible first|refine jS fun K hK=>?_|refine jT ?_|refine jU ?_)|((with_reducible refine jV ?hy fun K hK=>?_);case hy=>rfl));simp only [go_sem, Nat.reduceEqDiff, Nat.reduceAdd, Nat.reduceMul, Nat.reduceLeDiff, Nat.reduceLT, Int.reduceLT, Int.reduceLE, Int.reduceEq, Int.reduceNeg, Int.reduceToNat, Nat.reducePow, reduceIte, reduceCtorEq, e1, q])|((with_reducible first|refine jW ?hy ?_|refine jY ?hy ?_);case hy=>rfl)|((with_reducible first|refine jX ?hy ?_|refine jZ ?hy ?_);case hy=>rfl)|((with_reducible refine jF ?hy ?_);case hy=>decide))
 exact fin
theorem rf_old {fs : List Nat} {h : Nat} (hM : RfM H p T R) (hc : R.count < R.room) (hf : R.free = fs ++ [h]) (fin : ∀ H', RfM H' p T (R.old h) → Fr T H H' → K (.tuple #[.int .i64 (h : Nat), .int .i64 0]) H') :
  CallsH Try.prog 71 #[.pointer (some ⟨p, 0, none⟩)] H K := by
 have hM' := hM
 obtain ⟨BU, BF, vU, vF, h1, h2, h3, h4, ⟨hn1, hn2, hn3⟩, ⟨ht1, ht2, ht3⟩, h7⟩ := hM
 obtain ⟨room, used, free⟩ := R
 simp only at hf h1 h2 h3 hc
 subst hf
 obtain ⟨gU, cU, rfl, rfl, hcU⟩ := h2.open h4.ne
 rw [List.map_append] at h3
 obtain ⟨gF, cF, rest, rfl, rfl, _, _, hcF⟩ := h3.row (by simp)
 simp only [List.length_append, List.length_map, List.length_cons, List.length_nil, Nat.zero_add] at h1 h3 hcF
 have c0 := h1.cellOf (i := 0) rfl
 have c1 := h1.cellOf (i := 1) rfl
 have c2 := h1.cellOf (i := 2) rfl
 have w2 := h1.okW (i := 2) (by simp)
 have hh := h4.free h (by simp)
 simp only at hh
 have cf : hcell H ⟨gF, fs.length, none⟩ = some (.int .i64 (h : Nat)) := h3.cell (by simp)
 obtain ⟨wU, h2'⟩ := h2.write hh.2 true
 have hfl := h4.flen
 simp only [List.length_append, List.length_cons, List.length_nil] at hfl
 have ew : IntKind.i64.wrap (((fs.length + 1 : Nat) : Int) - 1) = (fs.length : Nat) := by rw [wrap_i64] <;> omega
 have ew' : IntKind.i64.wrap ((fs.length : Int) + 1 - 1) = (fs.length : Nat) := by rw [wrap_i64] <;> omega
 have e0 : ((room : Int) ≤ ((Rf.count ⟨room, used, fs ++ [h]⟩ : Nat) : Int)) = False := by simp; omega
 have e0' : (room ≤ Rf.count ⟨room, used, fs ++ [h]⟩) = False := by simp; omega
 have l1 : (fs.length ≤ fs.length + 1) = True := by simp
 have l2 : (fs.length < fs.length + 1) = True := by simp
 have l3 : (fs.length ≤ cF) = True := by simp; omega
 have l4 : (0 < fs.length + 1) = True := by simp
 have l5 : ((0 : Int) < ((fs.length + 1 : Nat) : Int)) = True := by simp
 have l6 : ((0 : Int) < (fs.length : Int) + 1) = True := by simp
 have ne1 : p ≠ gU := fun e => hn1 (by rw [e])
 have ne2 : p ≠ gF := fun e => hn2 (by rw [e])
 refine call71 (by simp) ?_
 simp only [Try.f71, Option.getD_some]
 repeat' (first|(with_reducible first|refine jA ?_|(refine hK _ _ ?_;clear hK K)|refine jJ fun K hK=>?_|refine jK ?_|refine jL ?_|refine jM ?_|refine jN ?_|refine jO ?_|refine jP ?_|refine jQ ?_|(refine jB ?_;clear hK K)|(refine jC ?_;clear hK K)|refine jD ?_|refine jE ?_|refine jG ?_|refine jH ?_|refine jI ?_)|((with_reducible refine jR ?hq ?_);case hq=>rfl)|((first|(with_reducible first|refine jS fun K hK=>?_|refine jT ?_|refine jU ?_)|((with_reducible refine jV ?hy fun K hK=>?_);case hy=>rfl));simp only [go_sem, Nat.reduceEqDiff, Nat.reduceAdd, Nat.reduceMul, Nat.reduceLeDiff, Nat.reduceLT, Int.reduceLT, Int.reduceLE, Int.reduceEq, Int.reduceNeg, Int.reduceToNat, Nat.reducePow, reduceIte, reduceCtorEq])|((with_reducible first|refine jW ?hy ?_|refine jY ?hy ?_);case hy=>rfl)|((with_reducible first|refine jX ?hy ?_|refine jZ ?hy ?_);case hy=>rfl)|((with_reducible refine jF ?hy ?_);case hy=>decide))
 have q : Cells [(p, 0, .int .i64 room)] H := ⟨c0, trivial⟩
 refine x_drawS [] [0, 2, 3, 4, 5, 1, 6] rfl (by kernel_rfl) (Cells _) q ?_
 repeat' (first|(with_reducible refine xs_nil ?_)|((first|((with_reducible apply xs_rd);case hi=>rfl)|((with_reducible apply xs_guard_yes);(case hi=>rfl);(case hy=>rfl)));(case hr=>rfl);(case h1=>intro H' hS'; (try simp only [Cells, and_true] at hS');simp only [go_sem, Nat.reduceEqDiff, Nat.reduceAdd, Nat.reduceMul, Nat.reduceLeDiff, Nat.reduceLT, Int.reduceLT, Int.reduceLE, Int.reduceEq, Int.reduceNeg, Int.reduceToNat, Nat.reducePow, reduceIte, reduceCtorEq, hS']; rfl))|((with_reducible refine xs_tail ?hz ?_);case hz=>rfl)|((with_reducible refine xs_keep ?hz ?_);case hz=>first|(with_reducible assumption)|assumption|(simp only [go_sem, Nat.reduceEqDiff, Nat.reduceAdd, Nat.reduceMul, Nat.reduceLeDiff, Nat.reduceLT, Int.reduceLT, Int.reduceLE, Int.reduceEq, Int.reduceNeg, Int.reduceToNat, Nat.reducePow, reduceIte, reduceCtorEq, Cells, and_true]))|((with_reducible apply xs_guard_no);(case hi=>rfl);(case hy=>rfl);(case hS=>assumption))|((first|((with_reducible apply xs_op);(case hi=>rfl))|((with_reducible apply xs_op_yes);(case hi=>rfl);(case hy=>rfl)));(case hr=>rfl);intro K hK; simp only [go_sem, Nat.reduceEqDiff, Nat.reduceAdd, Nat.reduceMul, Nat.reduceLeDiff, Nat.reduceLT, Int.reduceLT, Int.reduceLE, Int.reduceEq, Int.reduceNeg, Int.reduceToNat, Nat.reducePow, reduceIte, reduceCtorEq])|(with_reducible first|refine jA ?_|(refine hK _ _ ?_;clear hK K)|refine jJ fun K hK=>?_|refine jK ?_|refine jL ?_|refine jM ?_|refine jN ?_|refine jO ?_|refine jP ?_|refine jQ ?_|(refine jB ?_;clear hK K)|(refine jC ?_;clear hK K)|refine jD ?_|refine jE ?_|refine jG ?_|refine jH ?_|refine jI ?_)|((with_reducible refine jR ?hq ?_);case hq=>rfl)|((first|(with_reducible first|refine jS fun K hK=>?_|refine jT ?_|refine jU ?_)|((with_reducible refine jV ?hy fun K hK=>?_);case hy=>rfl));simp only [go_sem, Nat.reduceEqDiff, Nat.reduceAdd, Nat.reduceMul, Nat.reduceLeDiff, Nat.reduceLT, Int.reduceLT, Int.reduceLE, Int.reduceEq, Int.reduceNeg, Int.reduceToNat, Nat.reducePow, reduceIte, reduceCtorEq])|((with_reducible first|refine jW ?hy ?_|refine jY ?hy ?_);case hy=>rfl)|((with_reducible first|refine jX ?hy ?_|refine jZ ?hy ?_);case hy=>rfl)|((with_reducible refine jF ?hy ?_);case hy=>decide))
 refine rf_len hM' ?_
 repeat' (first|(with_reducible refine xs_nil ?_)|((first|((with_reducible apply xs_rd);case hi=>rfl)|((with_reducible apply xs_guard_yes);(case hi=>rfl);(case hy=>rfl)));(case hr=>rfl);(case h1=>intro H' hS'; (try simp only [Cells, and_true] at hS');simp only [go_sem, Nat.reduceEqDiff, Nat.reduceAdd, Nat.reduceMul, Nat.reduceLeDiff, Nat.reduceLT, Int.reduceLT, Int.reduceLE, Int.reduceEq, Int.reduceNeg, Int.reduceToNat, Nat.reducePow, reduceIte, reduceCtorEq, e0, q, hS']; rfl))|((with_reducible refine xs_tail ?hz ?_);case hz=>rfl)|((with_reducible refine xs_keep ?hz ?_);case hz=>first|(with_reducible assumption)|assumption|(simp only [go_sem, Nat.reduceEqDiff, Nat.reduceAdd, Nat.reduceMul, Nat.reduceLeDiff, Nat.reduceLT, Int.reduceLT, Int.reduceLE, Int.reduceEq, Int.reduceNeg, Int.reduceToNat, Nat.reducePow, reduceIte, reduceCtorEq, Cells, and_true, e0, q]))|((with_reducible apply xs_guard_no);(case hi=>rfl);(case hy=>rfl);(case hS=>assumption))|((first|((with_reducible apply xs_op);(case hi=>rfl))|((with_reducible apply xs_op_yes);(case hi=>rfl);(case hy=>rfl)));(case hr=>rfl);intro K hK; simp only [go_sem, Nat.reduceEqDiff, Nat.reduceAdd, Nat.reduceMul, Nat.reduceLeDiff, Nat.reduceLT, Int.reduceLT, Int.reduceLE, Int.reduceEq, Int.reduceNeg, Int.reduceToNat, Nat.reducePow, reduceIte, reduceCtorEq, e0, q])|(with_reducible first|refine jA ?_|(refine hK _ _ ?_;clear hK K)|refine jJ fun K hK=>?_|refine jK ?_|refine jL ?_|refine jM ?_|refine jN ?_|refine jO ?_|refine jP ?_|refine jQ ?_|(refine jB ?_;clear hK K)|(refine jC ?_;clear hK K)|refine jD ?_|refine jE ?_|refine jG ?_|refine jH ?_|refine jI ?_)|((with_reducible refine jR ?hq ?_);case hq=>rfl)|((first|(with_reducible first|refine jS fun K hK=>?_|refine jT ?_|refine jU ?_)|((with_reducible refine jV ?hy fun K hK=>?_);case hy=>rfl));simp only [go_sem, Nat.reduceEqDiff, Nat.reduceAdd, Nat.reduceMul, Nat.reduceLeDiff, Nat.reduceLT, Int.reduceLT, Int.reduceLE, Int.reduceEq, Int.reduceNeg, Int.reduceToNat, Nat.reducePow, reduceIte, reduceCtorEq, e0, q])|((with_reducible first|refine jW ?hy ?_|refine jY ?hy ?_);case hy=>rfl)|((with_reducible first|refine jX ?hy ?_|refine jZ ?hy ?_);case hy=>rfl)|((with_reducible refine jF ?hy ?_);case hy=>decide))
 repeat' (first|(with_reducible first|refine jA ?_|(refine hK _ _ ?_;clear hK K)|refine jJ fun K hK=>?_|refine jK ?_|refine jL ?_|refine jM ?_|refine jN ?_|refine jO ?_|refine jP ?_|refine jQ ?_|(refine jB ?_;clear hK K)|(refine jC ?_;clear hK K)|refine jD ?_|refine jE ?_|refine jG ?_|refine jH ?_|refine jI ?_)|((with_reducible refine jR ?hq ?_);case hq=>rfl)|((first|(with_reducible first|refine jS fun K hK=>?_|refine jT ?_|refine jU ?_)|((with_reducible refine jV ?hy fun K hK=>?_);case hy=>rfl));simp only [go_sem, Nat.reduceEqDiff, Nat.reduceAdd, Nat.reduceMul, Nat.reduceLeDiff, Nat.reduceLT, Int.reduceLT, Int.reduceLE, Int.reduceEq, Int.reduceNeg, Int.reduceToNat, Nat.reducePow, reduceIte, reduceCtorEq, c0, c1, c2, e0, e0', ew, ew', ite_self, Nat.sub_zero, cf, l1, l2, l3, l4, l5, l6, w2, wU, hh.2, okW_hset, hcell_hset_ne, hcell_hset_off, ne1, ne2, Ne.symm ne1, Ne.symm ne2])|((with_reducible first|refine jW ?hy ?_|refine jY ?hy ?_);case hy=>rfl)|((with_reducible first|refine jX ?hy ?_|refine jZ ?hy ?_);case hy=>rfl)|((with_reducible refine jF ?hy ?_);case hy=>decide))
 simp only [go_sem, Nat.reduceEqDiff, Nat.reduceAdd, Nat.reduceMul, Nat.reduceLeDiff, Nat.reduceLT, Int.reduceLT, Int.reduceLE, Int.reduceEq, Int.reduceNeg, Int.reduceToNat, Nat.reducePow, reduceIte, reduceCtorEq, c2]
 repeat' (first|(with_reducible first|refine jA ?_|(refine hK _ _ ?_;clear hK K)|refine jJ fun K hK=>?_|refine jK ?_|refine jL ?_|refine jM ?_|refine jN ?_|refine jO ?_|refine jP ?_|refine jQ ?_|(refine jB ?_;clear hK K)|(refine jC ?_;clear hK K)|refine jD ?_|refine jE ?_|refine jG ?_|refine jH ?_|refine jI ?_)|((with_reducible refine jR ?hq ?_);case hq=>rfl)|((first|(with_reducible first|refine jS fun K hK=>?_|refine jT ?_|refine jU ?_)|((with_reducible refine jV ?hy fun K hK=>?_);case hy=>rfl));simp only [go_sem, Nat.reduceEqDiff, Nat.reduceAdd, Nat.reduceMul, Nat.reduceLeDiff, Nat.reduceLT, Int.reduceLT, Int.reduceLE, Int.reduceEq, Int.reduceNeg, Int.reduceToNat, Nat.reducePow, reduceIte, reduceCtorEq, c0, c1, c2, e0, e0', ew, ew', ite_self, Nat.sub_zero, cf, l1, l2, l3, l4, l5, l6, w2, wU, hh.2, okW_hset, hcell_hset_ne, hcell_hset_off, ne1, ne2, Ne.symm ne1, Ne.symm ne2])|((with_reducible first|refine jW ?hy ?_|refine jY ?hy ?_);case hy=>rfl)|((with_reducible first|refine jX ?hy ?_|refine jZ ?hy ?_);case hy=>rfl)|((with_reducible refine jF ?hy ?_);case hy=>decide))
 generalize hH1 : hset H ⟨p, 2, none⟩ (.slice (some ⟨gF, 0, none⟩) fs.length cF) = H1
 have f1 : Fr (· = p) H H1 := by rw [← hH1]; exact (by ((repeat (first | refine Fr.set ?_ (by simp) _ | refine Fr.push ?_ _)); exact Fr.refl _ _))
 have b1 : Blk H1 p [.int .i64 room, .slice (some ⟨gU, 0, none⟩) used.length cU, .slice (some ⟨gF, 0, none⟩) fs.length cF] := by rw [← hH1]; exact h1.set_same 2 _
 have u1 := ((h2.frame f1 (fun g hg e => ne1 (by rw [← e]; exact (Option.some.inj hg).symm))).write hh.2 true).2
 have hg3 := (h3.cut.frame f1 (fun g hg e => ne2 (by rw [← e]; exact (Option.some.inj hg).symm)))
 rw [List.length_map] at hg3
 have f2 : Fr (fun b => b = p ∨ b = gU) H (hset H1 ⟨gU, h, none⟩ (.bool true)) := Fr.set (S := fun b => b = p ∨ b = gU) (a := ⟨gU, h, none⟩) (f1.mono fun b _ h => Or.inl h) (.inl (.inr rfl)) _
 have hs : (hset H1 ⟨gU, h, none⟩ (.bool true)).size = H.size := by rw [hset_size, ← hH1, hset_size]
 have ne3 : gF ≠ gU := fun e => hn3 gU rfl (by rw [e])
 have hg4 := hg3.frame (Fr.set (S := (· = gU)) (a := ⟨gU, h, none⟩) (Fr.refl _ H1) (.inl rfl) (.bool true)) (fun g hg e => ne3 (by rw [← e]; exact Option.some.inj hg))
 have hR : Rf.old ⟨room, used, fs ++ [h]⟩ h = ⟨room, used.set h true, fs⟩ := by simp [Rf.old]
 rw [hR] at fin
 refine fin _ ⟨some gU, some gF, _, _, b1.set_ne ne1 _, by simpa using u1, hg4, ⟨?_, ?_, h4.room, ?_, ?_⟩, ⟨hn1, hn2, hn3⟩, ⟨ht1, ht2, ht3⟩, ?_⟩ (f2.mono ?_)
 ·have := h4.ne; simpa using this
 ·have := h4.len; simpa using this
 ·intro x hx
  have := h4.free x (by simp [hx])
  simpa using this
 ·simp only []; omega
 ·intro b hb
  rw [hs]; exact h7 b hb
 ·rintro b _ (rfl | rfl)
  ·exact ht1
  ·exact ht2 _ rfl
theorem rf_more (hM : RfM H p T R) (hc : R.count < R.room) (hf : R.free = []) (hl : R.used.length ≤ R.room)
  (fin : ∀ H' T', RfM H' p T' R.more → Fr T H H' → (∀ b, T' b → T b ∨ H.size ≤ b) → K (.tuple #[.int .i64 (R.used.length : Nat), .int .i64 0]) H') :
  CallsH Try.prog 71 #[.pointer (some ⟨p, 0, none⟩)] H K := by
 have hM' := hM
 obtain ⟨BU, BF, vU, vF, h1, h2, h3, h4, ⟨hn1, hn2, hn3⟩, ⟨ht1, ht2, ht3⟩, h7⟩ := hM
 obtain ⟨room, used, free⟩ := R
 simp only at hf h1 h2 h3 hc hl
 subst hf
 obtain ⟨aF, cF, rfl⟩ := h3.slice
 obtain ⟨aU, cU, rfl⟩ := h2.slice
 simp only [List.length_map, List.length_nil] at h1 h3
 have c0 := h1.cellOf (i := 0) rfl
 have c1 := h1.cellOf (i := 1) rfl
 have c2 := h1.cellOf (i := 2) rfl
 have hroom := h4.room
 simp only at hroom
 have e0 : ((room : Int) ≤ ((Rf.count ⟨room, used, []⟩ : Nat) : Int)) = False := by simp; omega
 have hp := h7 p ht1
 have q : Cells [(p, 0, .int .i64 room)] H := ⟨c0, trivial⟩
 refine call71 (by simp) ?_
 simp only [Try.f71, Option.getD_some]
 repeat' (first|(with_reducible first|refine jA ?_|(refine hK _ _ ?_;clear hK K)|refine jJ fun K hK=>?_|refine jK ?_|refine jL ?_|refine jM ?_|refine jN ?_|refine jO ?_|refine jP ?_|refine jQ ?_|(refine jB ?_;clear hK K)|(refine jC ?_;clear hK K)|refine jD ?_|refine jE ?_|refine jG ?_|refine jH ?_|refine jI ?_)|((with_reducible refine jR ?hq ?_);case hq=>rfl)|((first|(with_reducible first|refine jS fun K hK=>?_|refine jT ?_|refine jU ?_)|((with_reducible refine jV ?hy fun K hK=>?_);case hy=>rfl));simp only [go_sem, Nat.reduceEqDiff, Nat.reduceAdd, Nat.reduceMul, Nat.reduceLeDiff, Nat.reduceLT, Int.reduceLT, Int.reduceLE, Int.reduceEq, Int.reduceNeg, Int.reduceToNat, Nat.reducePow, reduceIte, reduceCtorEq])|((with_reducible first|refine jW ?hy ?_|refine jY ?hy ?_);case hy=>rfl)|((with_reducible first|refine jX ?hy ?_|refine jZ ?hy ?_);case hy=>rfl)|((with_reducible refine jF ?hy ?_);case hy=>decide))
 refine x_drawS [] [0, 2, 3, 4, 5, 1, 6] rfl (by kernel_rfl) (Cells _) q ?_
 repeat' (first|(with_reducible refine xs_nil ?_)|((first|((with_reducible apply xs_rd);case hi=>rfl)|((with_reducible apply xs_guard_yes);(case hi=>rfl);(case hy=>rfl)));(case hr=>rfl);(case h1=>intro H' hS'; (try simp only [Cells, and_true] at hS');simp only [go_sem, Nat.reduceEqDiff, Nat.reduceAdd, Nat.reduceMul, Nat.reduceLeDiff, Nat.reduceLT, Int.reduceLT, Int.reduceLE, Int.reduceEq, Int.reduceNeg, Int.reduceToNat, Nat.reducePow, reduceIte, reduceCtorEq, hS']; rfl))|((with_reducible refine xs_tail ?hz ?_);case hz=>rfl)|((with_reducible refine xs_keep ?hz ?_);case hz=>first|(with_reducible assumption)|assumption|(simp only [go_sem, Nat.reduceEqDiff, Nat.reduceAdd, Nat.reduceMul, Nat.reduceLeDiff, Nat.reduceLT, Int.reduceLT, Int.reduceLE, Int.reduceEq, Int.reduceNeg, Int.reduceToNat, Nat.reducePow, reduceIte, reduceCtorEq, Cells, and_true]))|((with_reducible apply xs_guard_no);(case hi=>rfl);(case hy=>rfl);(case hS=>assumption))|((first|((with_reducible apply xs_op);(case hi=>rfl))|((with_reducible apply xs_op_yes);(case hi=>rfl);(case hy=>rfl)));(case hr=>rfl);intro K hK; simp only [go_sem, Nat.reduceEqDiff, Nat.reduceAdd, Nat.reduceMul, Nat.reduceLeDiff, Nat.reduceLT, Int.reduceLT, Int.reduceLE, Int.reduceEq, Int.reduceNeg, Int.reduceToNat, Nat.reducePow, reduceIte, reduceCtorEq])|(with_reducible first|refine jA ?_|(refine hK _ _ ?_;clear hK K)|refine jJ fun K hK=>?_|refine jK ?_|refine jL ?_|refine jM ?_|refine jN ?_|refine jO ?_|refine jP ?_|refine jQ ?_|(refine jB ?_;clear hK K)|(refine jC ?_;clear hK K)|refine jD ?_|refine jE ?_|refine jG ?_|refine jH ?_|refine jI ?_)|((with_reducible refine jR ?hq ?_);case hq=>rfl)|((first|(with_reducible first|refine jS fun K hK=>?_|refine jT ?_|refine jU ?_)|((with_reducible refine jV ?hy fun K hK=>?_);case hy=>rfl));simp only [go_sem, Nat.reduceEqDiff, Nat.reduceAdd, Nat.reduceMul, Nat.reduceLeDiff, Nat.reduceLT, Int.reduceLT, Int.reduceLE, Int.reduceEq, Int.reduceNeg, Int.reduceToNat, Nat.reducePow, reduceIte, reduceCtorEq])|((with_reducible first|refine jW ?hy ?_|refine jY ?hy ?_);case hy=>rfl)|((with_reducible first|refine jX ?hy ?_|refine jZ ?hy ?_);case hy=>rfl)|((with_reducible refine jF ?hy ?_);case hy=>decide))
 refine rf_len hM' ?_
 repeat' (first|(with_reducible refine xs_nil ?_)|((first|((with_reducible apply xs_rd);case hi=>rfl)|((with_reducible apply xs_guard_yes);(case hi=>rfl);(case hy=>rfl)));(case hr=>rfl);(case h1=>intro H' hS'; (try simp only [Cells, and_true] at hS');simp only [go_sem, Nat.reduceEqDiff, Nat.reduceAdd, Nat.reduceMul, Nat.reduceLeDiff, Nat.reduceLT, Int.reduceLT, Int.reduceLE, Int.reduceEq, Int.reduceNeg, Int.reduceToNat, Nat.reducePow, reduceIte, reduceCtorEq, e0, q, hS']; rfl))|((with_reducible refine xs_tail ?hz ?_);case hz=>rfl)|((with_reducible refine xs_keep ?hz ?_);case hz=>first|(with_reducible assumption)|assumption|(simp only [go_sem, Nat.reduceEqDiff, Nat.reduceAdd, Nat.reduceMul, Nat.reduceLeDiff, Nat.reduceLT, Int.reduceLT, Int.reduceLE, Int.reduceEq, Int.reduceNeg, Int.reduceToNat, Nat.reducePow, reduceIte, reduceCtorEq, Cells, and_true, e0, q]))|((with_reducible apply xs_guard_no);(case hi=>rfl);(case hy=>rfl);(case hS=>assumption))|((first|((with_reducible apply xs_op);(case hi=>rfl))|((with_reducible apply xs_op_yes);(case hi=>rfl);(case hy=>rfl)));(case hr=>rfl);intro K hK; simp only [go_sem, Nat.reduceEqDiff, Nat.reduceAdd, Nat.reduceMul, Nat.reduceLeDiff, Nat.reduceLT, Int.reduceLT, Int.reduceLE, Int.reduceEq, Int.reduceNeg, Int.reduceToNat, Nat.reducePow, reduceIte, reduceCtorEq, e0, q])|(with_reducible first|refine jA ?_|(refine hK _ _ ?_;clear hK K)|refine jJ fun K hK=>?_|refine jK ?_|refine jL ?_|refine jM ?_|refine jN ?_|refine jO ?_|refine jP ?_|refine jQ ?_|(refine jB ?_;clear hK K)|(refine jC ?_;clear hK K)|refine jD ?_|refine jE ?_|refine jG ?_|refine jH ?_|refine jI ?_)|((with_reducible refine jR ?hq ?_);case hq=>rfl)|((first|(with_reducible first|refine jS fun K hK=>?_|refine jT ?_|refine jU ?_)|((with_reducible refine jV ?hy fun K hK=>?_);case hy=>rfl));simp only [go_sem, Nat.reduceEqDiff, Nat.reduceAdd, Nat.reduceMul, Nat.reduceLeDiff, Nat.reduceLT, Int.reduceLT, Int.reduceLE, Int.reduceEq, Int.reduceNeg, Int.reduceToNat, Nat.reducePow, reduceIte, reduceCtorEq, e0, q])|((with_reducible first|refine jW ?hy ?_|refine jY ?hy ?_);case hy=>rfl)|((with_reducible first|refine jX ?hy ?_|refine jZ ?hy ?_);case hy=>rfl)|((with_reducible refine jF ?hy ?_);case hy=>decide))
 repeat' (first|(with_reducible first|refine jA ?_|(refine hK _ _ ?_;clear hK K)|refine jJ fun K hK=>?_|refine jK ?_|refine jL ?_|refine jM ?_|refine jN ?_|refine jO ?_|refine jP ?_|refine jQ ?_|(refine jB ?_;clear hK K)|(refine jC ?_;clear hK K)|refine jD ?_|refine jE ?_|refine jG ?_|refine jH ?_|refine jI ?_)|((with_reducible refine jR ?hq ?_);case hq=>rfl)|((first|(with_reducible first|refine jS fun K hK=>?_|refine jT ?_|refine jU ?_)|((with_reducible refine jV ?hy fun K hK=>?_);case hy=>rfl));simp only [go_sem, Nat.reduceEqDiff, Nat.reduceAdd, Nat.reduceMul, Nat.reduceLeDiff, Nat.reduceLT, Int.reduceLT, Int.reduceLE, Int.reduceEq, Int.reduceNeg, Int.reduceToNat, Nat.reducePow, reduceIte, reduceCtorEq, c2])|((with_reducible first|refine jW ?hy ?_|refine jY ?hy ?_);case hy=>rfl)|((with_reducible first|refine jX ?hy ?_|refine jZ ?hy ?_);case hy=>rfl)|((with_reducible refine jF ?hy ?_);case hy=>decide))
 simp only [go_sem, Nat.reduceEqDiff, Nat.reduceAdd, Nat.reduceMul, Nat.reduceLeDiff, Nat.reduceLT, Int.reduceLT, Int.reduceLE, Int.reduceEq, Int.reduceNeg, Int.reduceToNat, Nat.reducePow, reduceIte, reduceCtorEq, c2]
 repeat' (first|(with_reducible first|refine jA ?_|(refine hK _ _ ?_;clear hK K)|refine jJ fun K hK=>?_|refine jK ?_|refine jL ?_|refine jM ?_|refine jN ?_|refine jO ?_|refine jP ?_|refine jQ ?_|(refine jB ?_;clear hK K)|(refine jC ?_;clear hK K)|refine jD ?_|refine jE ?_|refine jG ?_|refine jH ?_|refine jI ?_)|((with_reducible refine jR ?hq ?_);case hq=>rfl)|((first|(with_reducible first|refine jS fun K hK=>?_|refine jT ?_|refine jU ?_)|((with_reducible refine jV ?hy fun K hK=>?_);case hy=>rfl));simp only [go_sem, Nat.reduceEqDiff, Nat.reduceAdd, Nat.reduceMul, Nat.reduceLeDiff, Nat.reduceLT, Int.reduceLT, Int.reduceLE, Int.reduceEq, Int.reduceNeg, Int.reduceToNat, Nat.reducePow, reduceIte, reduceCtorEq, c0, c1, c2, hcell_push, hp])|((with_reducible first|refine jW ?hy ?_|refine jY ?hy ?_);case hy=>rfl)|((with_reducible first|refine jX ?hy ?_|refine jZ ?hy ?_);case hy=>rfl)|((with_reducible refine jF ?hy ?_);case hy=>decide))
 refine append_br elems109 tl4 h2 rfl (by decide) (by simp; omega) rfl ?_
 intro v1 H1 B1 u1 f1 hB1
 have hs1 := f1.size
 have b1 : Blk H1 p [.int .i64 room, .slice aU used.length cU, .slice aF 0 cF] := h1.frame f1 (fun e => hn1 e)
 have w1 := b1.okW (i := 1) (by simp)
 obtain ⟨a1, k1, rfl⟩ := u1.slice
 have hl1 : (used ++ [true]).length = used.length + 1 := by simp
 rw [hl1] at u1 ⊢
 have b2 := b1.set_same 1 (.slice a1 (used.length + 1) k1)
 have c1' := b2.cellOf (i := 1) rfl
 have ew : IntKind.i64.wrap (((used.length + 1 : Nat) : Int) - 1) = (used.length : Nat) := by rw [wrap_i64] <;> omega
 have ew' : IntKind.i64.wrap ((used.length : Int) + 1 - 1) = (used.length : Nat) := by rw [wrap_i64] <;> omega
 repeat' (first|(with_reducible first|refine jA ?_|(refine hK _ _ ?_;clear hK K)|refine jJ fun K hK=>?_|refine jK ?_|refine jL ?_|refine jM ?_|refine jN ?_|refine jO ?_|refine jP ?_|refine jQ ?_|(refine jB ?_;clear hK K)|(refine jC ?_;clear hK K)|refine jD ?_|refine jE ?_|refine jG ?_|refine jH ?_|refine jI ?_)|((with_reducible refine jR ?hq ?_);case hq=>rfl)|((first|(with_reducible first|refine jS fun K hK=>?_|refine jT ?_|refine jU ?_)|((with_reducible refine jV ?hy fun K hK=>?_);case hy=>rfl));simp only [go_sem, Nat.reduceEqDiff, Nat.reduceAdd, Nat.reduceMul, Nat.reduceLeDiff, Nat.reduceLT, Int.reduceLT, Int.reduceLE, Int.reduceEq, Int.reduceNeg, Int.reduceToNat, Nat.reducePow, reduceIte, reduceCtorEq, w1, c1', ew, ew'])|((with_reducible first|refine jW ?hy ?_|refine jY ?hy ?_);case hy=>rfl)|((with_reducible first|refine jX ?hy ?_|refine jZ ?hy ?_);case hy=>rfl)|((with_reducible refine jF ?hy ?_);case hy=>decide))
 have hs2 : (hset H1 ⟨p, 1, none⟩ (.slice a1 (used.length + 1) k1)).size = H1.size := hset_size ..
 have hne1 : B1 ≠ some p := by
  rcases hB1 with rfl | ⟨g, rfl, hg⟩
  ·exact hn1
  ·intro e
   obtain rfl := Option.some.inj e
   omega
 have hB2 : ∀ b, B1 = some b → T b ∨ H.size ≤ b := fun b hb => by
  rcases hB1 with rfl | ⟨g, rfl, hg⟩
  ·exact .inl (ht2 b hb)
  ·rw [← Option.some.inj hb]; exact .inr hg
 have fp : Fr (· = p) H1 (hset H1 ⟨p, 1, none⟩ (.slice a1 (used.length + 1) k1)) := Fr.set (S := (· = p)) (a := ⟨p, 1, none⟩) (Fr.refl _ H1) (.inl rfl) _
 refine fin _ (fun b => T b ∨ B1 = some b) ⟨B1, BF, _, _, b2, ?_, ?_, ⟨by simp [Rf.more], by simp [Rf.more]; omega, h4.room, (by intro x hx; simp [Rf.more] at hx), by simp [Rf.more]⟩, ⟨hne1, hn2, ?_⟩, ⟨.inl ht1, fun b hb => .inr hb, fun b hb => .inl (ht3 b hb)⟩, ?_⟩ ?_ ?_
 ·exact u1.frame fp (fun g hg (e : g = p) => hne1 (by rw [hg, e]))
 ·exact (h3.frame f1 (fun g hg e => hn3 g e hg)).frame fp (fun g hg e => hn2 (by rw [hg, e]))
 ·intro b hb e
  rcases hB1 with rfl | ⟨g, rfl, hg⟩
  ·exact hn3 b hb e
  ·obtain rfl := Option.some.inj hb
   have := h7 _ (ht3 _ e)
   omega
 ·intro b hb
  rw [hs2]
  rcases hb with hb | hb
  ·have := h7 b hb
   omega
  ·exact u1.lt hb
 ·exact (f1.mono fun b _ h => ht2 b h).trans (fp.mono fun b _ (h : b = p) => by rw [h]; exact ht1)
 ·intro b hb
  rcases hb with hb | hb
  ·exact .inl hb
  ·exact hB2 b hb
theorem rf_drop {h : Nat} (hM : RfM H p T R) (hh : R.hasB (h : Nat) = true) (hfl : R.free.length < 4096)
  (fin : ∀ H' T', RfM H' p T' (R.dropped h) → Fr T H H' → (∀ b, T' b → T b ∨ H.size ≤ b) → K (.int .i64 0) H') :
  CallsH Try.prog 74 #[.pointer (some ⟨p, 0, none⟩), .int .i64 (h : Nat)] H K := by
 have hM' := hM
 obtain ⟨BU, BF, vU, vF, h1, h2, h3, h4, ⟨hn1, hn2, hn3⟩, ⟨ht1, ht2, ht3⟩, h7⟩ := hM
 obtain ⟨room, used, free⟩ := R
 simp only at h1 h2 h3 hfl
 obtain ⟨gU, cU, rfl, rfl, hcU⟩ := h2.open h4.ne
 obtain ⟨aF, cF, rfl⟩ := h3.slice
 have hlt : h < used.length := by
  unfold Rf.hasB at hh
  rw [Int.toNat_natCast, List.getD_eq_getElem?_getD] at hh
  rcases Nat.lt_or_ge h used.length with h' | h'
  ·exact h'
  ·rw [List.getElem?_eq_none h'] at hh; simp at hh
 have c1 := h1.cellOf (i := 1) rfl
 have c2 := h1.cellOf (i := 2) rfl
 obtain ⟨wU, -⟩ := h2.write hlt false
 have ne1 : p ≠ gU := fun e => hn1 (by rw [e])
 refine call74 (by simp) ?_
 simp only [Try.f74, Option.getD_some]
 repeat' (first|(with_reducible first|refine jA ?_|(refine hK _ _ ?_;clear hK K)|refine jJ fun K hK=>?_|refine jK ?_|refine jL ?_|refine jM ?_|refine jN ?_|refine jO ?_|refine jP ?_|refine jQ ?_|(refine jB ?_;clear hK K)|(refine jC ?_;clear hK K)|refine jD ?_|refine jE ?_|refine jG ?_|refine jH ?_|refine jI ?_)|((with_reducible refine jR ?hq ?_);case hq=>rfl)|((first|(with_reducible first|refine jS fun K hK=>?_|refine jT ?_|refine jU ?_)|((with_reducible refine jV ?hy fun K hK=>?_);case hy=>rfl));simp only [go_sem, Nat.reduceEqDiff, Nat.reduceAdd, Nat.reduceMul, Nat.reduceLeDiff, Nat.reduceLT, Int.reduceLT, Int.reduceLE, Int.reduceEq, Int.reduceNeg, Int.reduceToNat, Nat.reducePow, reduceIte, reduceCtorEq])|((with_reducible first|refine jW ?hy ?_|refine jY ?hy ?_);case hy=>rfl)|((with_reducible first|refine jX ?hy ?_|refine jZ ?hy ?_);case hy=>rfl)|((with_reducible refine jF ?hy ?_);case hy=>decide))
 refine rf_has hM' ?_
 rw [hh]
 repeat' (first|(with_reducible first|refine jA ?_|(refine hK _ _ ?_;clear hK K)|refine jJ fun K hK=>?_|refine jK ?_|refine jL ?_|refine jM ?_|refine jN ?_|refine jO ?_|refine jP ?_|refine jQ ?_|(refine jB ?_;clear hK K)|(refine jC ?_;clear hK K)|refine jD ?_|refine jE ?_|refine jG ?_|refine jH ?_|refine jI ?_)|((with_reducible refine jR ?hq ?_);case hq=>rfl)|((first|(with_reducible first|refine jS fun K hK=>?_|refine jT ?_|refine jU ?_)|((with_reducible refine jV ?hy fun K hK=>?_);case hy=>rfl));simp only [go_sem, Nat.reduceEqDiff, Nat.reduceAdd, Nat.reduceMul, Nat.reduceLeDiff, Nat.reduceLT, Int.reduceLT, Int.reduceLE, Int.reduceEq, Int.reduceNeg, Int.reduceToNat, Nat.reducePow, reduceIte, reduceCtorEq, c1, c2, wU, hlt, hcell_hset_ne, ne1, Ne.symm ne1])|((with_reducible first|refine jW ?hy ?_|refine jY ?hy ?_);case hy=>rfl)|((with_reducible first|refine jX ?hy ?_|refine jZ ?hy ?_);case hy=>rfl)|((with_reducible refine jF ?hy ?_);case hy=>decide))
 generalize hH1 : hset H ⟨gU, h, none⟩ (.bool false) = H1
 have f1 : Fr (· = gU) H H1 := by rw [← hH1]; exact Fr.set (S := (· = gU)) (a := ⟨gU, h, none⟩) (Fr.refl _ H) (.inl rfl) _
 have u1 : BR H1 (some gU) (.slice (some ⟨gU, 0, none⟩) used.length cU) (used.set h false) := by rw [← hH1]; exact (h2.write hlt false).2
 have hs1 : H1.size = H.size := by rw [← hH1, hset_size]
 have g1 := h3.frame f1 (fun g hg e => hn3 gU rfl (by rw [hg, e]))
 have b1 := h1.frame f1 ne1
 rw [← hs1] at h7
 refine append_ir elems23 tl3 g1 rfl (by decide) (by simp; omega) rfl ?_
 intro v2 H2 B2 g2 f2 hB2
 have hs2 := f2.size
 have hne2 : B2 ≠ some p := by
  rcases hB2 with rfl | ⟨g, rfl, hg⟩
  ·exact hn2
  ·intro e
   have e' := Option.some.inj e
   have := h7 p ht1
   omega
 have hne3 : ∀ b, some gU = some b → B2 ≠ some b := by
  rintro b hb e
  obtain rfl := Option.some.inj hb
  rcases hB2 with rfl | ⟨g, rfl, hg⟩
  ·exact hn3 _ rfl e
  ·obtain rfl := Option.some.inj e
   have := h7 _ (ht2 _ rfl)
   omega
 have b2 := b1.frame f2 (fun e => hn2 e)
 have w2 := b2.okW (i := 2) (by simp)
 obtain ⟨a2, k2, rfl⟩ := g2.slice
 have u2 := u1.frame f2 (fun g hg e => hn3 g hg e)
 have fp : Fr (· = p) H2 (hset H2 ⟨p, 2, none⟩ (.slice a2 (List.map Int.ofNat free ++ [(h : Int)]).length k2)) := Fr.set (S := (· = p)) (a := ⟨p, 2, none⟩) (Fr.refl _ H2) (.inl rfl) _
 have hl2 : (used.set h false).length = used.length := by simp
 have hB3 : ∀ b, B2 = some b → T b ∨ H.size ≤ b := fun b hb => by
  rcases hB2 with rfl | ⟨g, rfl, hg⟩
  ·exact .inl (ht3 b hb)
  ·rw [← Option.some.inj hb, ← hs1]; exact .inr hg
 repeat' (first|(with_reducible first|refine jA ?_|(refine hK _ _ ?_;clear hK K)|refine jJ fun K hK=>?_|refine jK ?_|refine jL ?_|refine jM ?_|refine jN ?_|refine jO ?_|refine jP ?_|refine jQ ?_|(refine jB ?_;clear hK K)|(refine jC ?_;clear hK K)|refine jD ?_|refine jE ?_|refine jG ?_|refine jH ?_|refine jI ?_)|((with_reducible refine jR ?hq ?_);case hq=>rfl)|((first|(with_reducible first|refine jS fun K hK=>?_|refine jT ?_|refine jU ?_)|((with_reducible refine jV ?hy fun K hK=>?_);case hy=>rfl));simp only [go_sem, Nat.reduceEqDiff, Nat.reduceAdd, Nat.reduceMul, Nat.reduceLeDiff, Nat.reduceLT, Int.reduceLT, Int.reduceLE, Int.reduceEq, Int.reduceNeg, Int.reduceToNat, Nat.reducePow, reduceIte, reduceCtorEq, w2])|((with_reducible first|refine jW ?hy ?_|refine jY ?hy ?_);case hy=>rfl)|((with_reducible first|refine jX ?hy ?_|refine jZ ?hy ?_);case hy=>rfl)|((with_reducible refine jF ?hy ?_);case hy=>decide))
 refine fin _ (fun b => T b ∨ B2 = some b) ⟨some gU, B2, _, _, b2.set_same 2 _, ?_, ?_, ⟨?_, ?_, h4.room, ?_, ?_⟩, ⟨hn1, hne2, hne3⟩, ⟨.inl ht1, fun b hb => .inl (ht2 b hb), fun b hb => .inr hb⟩, ?_⟩ ?_ ?_
 ·exact u2.frame fp (fun g hg e => hn1 (by rw [hg, e]))
 ·have := g2.frame fp (fun g hg e => hne2 (by rw [hg, e]))
  simpa [Rf.dropped] using this
 ·have := h4.ne; simpa [Rf.dropped] using this
 ·have := h4.len; simpa [Rf.dropped] using this
 ·intro x hx
  simp only [Rf.dropped, List.mem_append, List.mem_singleton, List.length_set] at hx ⊢
  rcases hx with hx | rfl
  ·exact h4.free x hx
  ·refine ⟨?_, hlt⟩
   unfold Rf.hasB at hh
   simp at hh
   omega
 ·simp [Rf.dropped]; omega
 ·intro b hb
  rw [hset_size]
  rcases hb with hb | hb
  ·have := h7 b hb
   omega
  ·exact g2.lt hb
 ·exact ((f1.mono fun b _ (h : b = gU) => by rw [h]; exact ht2 _ rfl).trans (f2.mono fun b _ h => ht3 b h)).trans (fp.mono fun b _ (h : b = p) => by rw [h]; exact ht1)
 ·intro b hb
  rcases hb with hb | hb
  ·exact .inl hb
  ·exact hB3 b hb
theorem rf_drop_none {i : Int} (hM : RfM H p T R) (hh : R.hasB i = false) (fin : K (.int .i64 21) H) :
  CallsH Try.prog 74 #[.pointer (some ⟨p, 0, none⟩), .int .i64 i] H K := by
 refine call74 (by simp) ?_
 simp only [Try.f74, Option.getD_some]
 repeat' (first|(with_reducible first|refine jA ?_|(refine hK _ _ ?_;clear hK K)|refine jJ fun K hK=>?_|refine jK ?_|refine jL ?_|refine jM ?_|refine jN ?_|refine jO ?_|refine jP ?_|refine jQ ?_|(refine jB ?_;clear hK K)|(refine jC ?_;clear hK K)|refine jD ?_|refine jE ?_|refine jG ?_|refine jH ?_|refine jI ?_)|((with_reducible refine jR ?hq ?_);case hq=>rfl)|((first|(with_reducible first|refine jS fun K hK=>?_|refine jT ?_|refine jU ?_)|((with_reducible refine jV ?hy fun K hK=>?_);case hy=>rfl));simp only [go_sem, Nat.reduceEqDiff, Nat.reduceAdd, Nat.reduceMul, Nat.reduceLeDiff, Nat.reduceLT, Int.reduceLT, Int.reduceLE, Int.reduceEq, Int.reduceNeg, Int.reduceToNat, Nat.reducePow, reduceIte, reduceCtorEq])|((with_reducible first|refine jW ?hy ?_|refine jY ?hy ?_);case hy=>rfl)|((with_reducible first|refine jX ?hy ?_|refine jZ ?hy ?_);case hy=>rfl)|((with_reducible refine jF ?hy ?_);case hy=>decide))
 refine rf_has hM ?_
 rw [hh]
 repeat' (first|(with_reducible first|refine jA ?_|(refine hK _ _ ?_;clear hK K)|refine jJ fun K hK=>?_|refine jK ?_|refine jL ?_|refine jM ?_|refine jN ?_|refine jO ?_|refine jP ?_|refine jQ ?_|(refine jB ?_;clear hK K)|(refine jC ?_;clear hK K)|refine jD ?_|refine jE ?_|refine jG ?_|refine jH ?_|refine jI ?_)|((with_reducible refine jR ?hq ?_);case hq=>rfl)|((first|(with_reducible first|refine jS fun K hK=>?_|refine jT ?_|refine jU ?_)|((with_reducible refine jV ?hy fun K hK=>?_);case hy=>rfl));simp only [go_sem, Nat.reduceEqDiff, Nat.reduceAdd, Nat.reduceMul, Nat.reduceLeDiff, Nat.reduceLT, Int.reduceLT, Int.reduceLE, Int.reduceEq, Int.reduceNeg, Int.reduceToNat, Nat.reducePow, reduceIte, reduceCtorEq])|((with_reducible first|refine jW ?hy ?_|refine jY ?hy ?_);case hy=>rfl)|((with_reducible first|refine jX ?hy ?_|refine jZ ?hy ?_);case hy=>rfl)|((with_reducible refine jF ?hy ?_);case hy=>decide))
 exact fin
end
end Go.Proofs.Ytndkbhlfbeiniaa
namespace Go.Hp
open Go
set_option linter.unusedVariables false

theorem flat_length {w : Nat} : ∀ {rows : List (List Value)}, (∀ r ∈ rows, r.length = w) → rows.flatten.length = rows.length * w
 | [], _ => by simp
 | r :: rows, h => by
  rw [List.flatten_cons, List.length_append, h r (.head _), flat_length fun r hr => h r (.tail _ hr), List.length_cons, Nat.succ_mul, Nat.add_comm]
theorem flat_get {w : Nat} : ∀ {rows : List (List Value)} (_ : ∀ r ∈ rows, r.length = w) {i j : Nat} {r : List Value}, rows[i]? = some r → j < w → rows.flatten[i * w + j]? = r[j]?
 | [], _, i, j, r, h, _ => by cases h
 | x :: rows, hw, 0, j, r, h, hj => by
  obtain rfl := Option.some.inj h
  rw [List.flatten_cons, Nat.zero_mul, Nat.zero_add, List.getElem?_append_left (by rw [hw x (.head _)]; exact hj)]
 | x :: rows, hw, i + 1, j, r, h, hj => by
  rw [List.flatten_cons, List.getElem?_append_right (by rw [hw x (.head _), Nat.succ_mul]; omega), hw x (.head _),
   show (i + 1) * w + j - w = i * w + j by rw [Nat.succ_mul]; omega]
  exact flat_get (fun r hr => hw r (.tail _ hr)) (by simpa using h) hj
theorem flat_set {w : Nat} : ∀ {rows : List (List Value)} (_ : ∀ r ∈ rows, r.length = w) {i : Nat} (r : List Value), i < rows.length → ∀ rest : List Value,
  (rows.flatten ++ rest).take (i * w) ++ r ++ (rows.flatten ++ rest).drop (i * w + w) = (rows.set i r).flatten ++ rest
 | [], _, i, r, h, _ => absurd h (by simp)
 | x :: rows, hw, 0, r, h, rest => by
  have hx := hw x (.head _)
  simp only [List.flatten_cons, Nat.zero_mul, List.take_zero, List.nil_append, Nat.zero_add, List.set_cons_zero, List.append_assoc]
  rw [List.drop_append, ← hx]
  simp
 | x :: rows, hw, i + 1, r, h, rest => by
  have hx := hw x (.head _)
  have ih := flat_set (fun r hr => hw r (.tail _ hr)) (rows := rows) (i := i) r (by simpa using h) rest
  simp only [List.flatten_cons, List.set_cons_succ, List.append_assoc]
  rw [show (i + 1) * w = x.length + i * w by rw [hx, Nat.succ_mul]; omega]
  rw [show x.length + i * w + w = x.length + (i * w + w) by omega]
  rw [List.take_length_add_append, List.drop_length_add_append]
  simp only [List.append_assoc] at ih ⊢
  rw [ih]

structure Ar where
 room : Nat
 vals : List (Option (List Value))
 free : List Nat
def nextOf : List Nat → Nat → Nat
 | [], _ => 0
 | x :: xs, h => if x = h then xs.headD 0 else nextOf xs h
def slotC (z : List Value) (s : Option (List Value)) (nx : Nat) : List Value :=
 match s with
 | some v => v ++ [.bool true, .int .i64 0]
 | none => z ++ [.bool false, .int .i64 nx]
namespace Ar
def many (A : Ar) : Nat := (A.vals.filter (·.isSome)).length
def get (A : Ar) (h : Nat) : Option (List Value) := (A.vals[h]?).join
def rows (A : Ar) (z : List Value) : List (List Value) := A.vals.mapIdx fun i s => slotC z s (nextOf A.free i)
def handles (A : Ar) : List Nat := (List.range A.vals.length).filter fun h => (A.get h).isSome
structure Ok (A : Ar) (k : Nat) : Prop where
 len : ∀ h v, A.get h = some v → v.length = k
 zero : A.vals[0]? = some none
 nodup : A.free.Nodup
 mem : ∀ h, h ∈ A.free ↔ 1 ≤ h ∧ h < A.vals.length ∧ A.get h = none
 most : A.many ≤ A.room
 room : A.room ≤ 4096
 size : A.vals.length ≤ A.room + 1
def new (room : Nat) : Ar := ⟨room, [none], []⟩
def putNew (A : Ar) (v : List Value) : Ar := { A with vals := A.vals ++ [some v] }
def putOld (A : Ar) (h : Nat) (v : List Value) : Ar := { A with vals := A.vals.set h (some v), free := A.free.tail }
def drop (A : Ar) (h : Nat) : Ar := { A with vals := A.vals.set h none, free := h :: A.free }
def set (A : Ar) (h : Nat) (v : List Value) : Ar := { A with vals := A.vals.set h (some v) }
theorem get_some_lt {A : Ar} {h : Nat} {v : List Value} (hg : A.get h = some v) : h < A.vals.length := by
 unfold get at hg
 rcases Nat.lt_or_ge h A.vals.length with h' | h'
 ·exact h'
 ·rw [List.getElem?_eq_none h'] at hg; cases hg
theorem get_eq {A : Ar} {h : Nat} (hl : h < A.vals.length) : A.vals[h]? = some (A.get h) := by
 unfold get
 rw [List.getElem?_eq_getElem hl]
 rfl
theorem rows_length (A : Ar) (z : List Value) : (A.rows z).length = A.vals.length := by simp [rows]
theorem rows_get {A : Ar} {z : List Value} {h : Nat} (hl : h < A.vals.length) : (A.rows z)[h]? = some (slotC z (A.get h) (nextOf A.free h)) := by
 unfold rows
 rw [List.getElem?_mapIdx, get_eq hl]
 rfl
theorem rows_w {A : Ar} {z : List Value} {k : Nat} (hz : z.length = k) (ok : A.Ok k) : ∀ r ∈ A.rows z, r.length = k + 2 := by
 intro r hr
 obtain ⟨i, hi⟩ := List.getElem?_of_mem hr
 have hl : i < A.vals.length := by
  rcases Nat.lt_or_ge i A.vals.length with h' | h'
  ·exact h'
  ·rw [List.getElem?_eq_none (by rw [rows_length]; exact h')] at hi; cases hi
 rw [rows_get hl] at hi
 obtain rfl := Option.some.inj hi
 unfold slotC
 split
 ·rename_i v hv
  simp [ok.len i v hv]
 ·simp [hz]
theorem many_append (l : List (Option (List Value))) (s : Option (List Value)) : ((l ++ [s]).filter (·.isSome)).length = (l.filter (·.isSome)).length + if s.isSome then 1 else 0 := by
 cases s <;> simp [List.filter_append]
theorem many_set : ∀ (l : List (Option (List Value))) (h : Nat) (s t : Option (List Value)), l[h]? = some t →
  ((l.set h s).filter (·.isSome)).length + (if t.isSome then 1 else 0) = (l.filter (·.isSome)).length + if s.isSome then 1 else 0
 | [], h, s, t, ht => by cases ht
 | x :: l, 0, s, t, ht => by
  obtain rfl := Option.some.inj ht
  cases x <;> cases s <;> simp
 | x :: l, h + 1, s, t, ht => by
  have := many_set l h s t (by simpa using ht)
  cases x <;> cases s <;> cases t <;> simp at this ⊢ <;> omega
theorem many_le (l : List (Option (List Value))) : (l.filter (·.isSome)).length ≤ l.length := List.length_filter_le _ _
theorem filter_two : ∀ l : List (Option (List Value)), l.length = (l.filter (·.isSome)).length + (l.filter (fun s => !s.isSome)).length
 | [] => rfl
 | x :: l => by
  have := filter_two l
  cases x <;> simp at this ⊢ <;> omega
theorem count_free (A : Ar) {k : Nat} (ok : A.Ok k) : A.many + A.free.length + 1 = A.vals.length := by
 have h1 : A.vals.length = A.many + (A.vals.filter (fun s => !s.isSome)).length := by
  unfold many
  exact filter_two A.vals
 have h2 : (A.vals.filter (fun s => !s.isSome)).length = ((List.range A.vals.length).filter fun h => !(A.get h).isSome).length := by
  have e : A.vals = (List.range A.vals.length).map A.get := by
   apply List.ext_getElem?
   intro i
   rcases Nat.lt_or_ge i A.vals.length with h' | h'
   ·rw [get_eq h']; simp [h']
   ·rw [List.getElem?_eq_none h', List.getElem?_eq_none (by simpa using h')]
  conv => lhs; rw [e]
  rw [List.filter_map, List.length_map]
  rfl
 have h3 : ((List.range A.vals.length).filter fun h => !(A.get h).isSome).Perm (0 :: A.free) := by
  rw [List.perm_ext_iff_of_nodup (List.nodup_range.filter _)]
  ·intro h
   simp only [List.mem_filter, List.mem_range, Bool.not_eq_true', Option.isSome_eq_false_iff, Option.isNone_iff_eq_none, List.mem_cons, ok.mem]
   constructor
   ·rintro ⟨h1, h2⟩
    by_cases h0 : h = 0
    ·exact .inl h0
    ·exact .inr ⟨by omega, h1, h2⟩
   ·rintro (rfl | ⟨_, h1, h2⟩)
    ·have := ok.zero
     refine ⟨?_, ?_⟩
     ·rcases Nat.lt_or_ge 0 A.vals.length with h' | h'
      ·exact h'
      ·rw [List.getElem?_eq_none h'] at this; cases this
     ·unfold get; rw [this]; rfl
    ·exact ⟨h1, h2⟩
  ·rw [List.nodup_cons]
   exact ⟨fun h => by have := (ok.mem 0).1 h; omega, ok.nodup⟩
 have h4 := h3.length_eq
 rw [List.length_cons] at h4
 omega
theorem Ok.len_le {A : Ar} {k : Nat} (ok : A.Ok k) : A.vals.length ≤ 4097 := by
 have := ok.size
 have := ok.room
 omega
end Ar
end Go.Hp
namespace Go.Hp
open Go
structure ArAt (H : Heap) (p g k : Nat) (z : List Value) (A : Ar) : Prop where
 ok : A.Ok k
 zl : z.length = k
 ne : p ≠ g
 at_ : ∃ c rest, Blk H p [.int .i64 A.room, .int .i64 A.many, .slice (some ⟨g, 0, none⟩) A.vals.length c, .int .i64 (A.free.headD 0 : Nat)] ∧
  Blk H g ((A.rows z).flatten ++ rest) ∧ A.vals.length * (k + 2) + rest.length = c * (k + 2) ∧ A.vals.length ≤ c
theorem ArAt.frame {S : Nat → Prop} {H H' : Heap} {p g k : Nat} {z : List Value} {A : Ar} (h : ArAt H p g k z A) (hf : Fr S H H') (h1 : ¬ S p) (h2 : ¬ S g) : ArAt H' p g k z A :=
 ⟨h.ok, h.zl, h.ne, let ⟨c, rest, a, b, d, e⟩ := h.at_; ⟨c, rest, a.frame hf h1, b.frame hf h2, d, e⟩⟩
theorem slot_cell {A : Ar} {z : List Value} {k : Nat} (ok : A.Ok k) (hz : z.length = k) {rest : List Value} {h j : Nat} (hh : h < A.vals.length) (hj : j < k + 2) :
  ((A.rows z).flatten ++ rest)[h * (k + 2) + j]? = (slotC z (A.get h) (nextOf A.free h))[j]? := by
 have hw := Ar.rows_w hz ok
 have hl := flat_length hw
 rw [Ar.rows_length] at hl
 rw [List.getElem?_append_left, flat_get hw (Ar.rows_get hh) hj]
 rw [hl]
 have : (h + 1) * (k + 2) ≤ A.vals.length * (k + 2) := Nat.mul_le_mul_right _ hh
 rw [Nat.succ_mul] at this
 omega
theorem slot_used {A : Ar} {z : List Value} {k : Nat} (ok : A.Ok k) (hz : z.length = k) {rest : List Value} {h : Nat} (hh : h < A.vals.length) :
  ((A.rows z).flatten ++ rest)[h * (k + 2) + k]? = some (.bool (A.get h).isSome) := by
 rw [slot_cell ok hz hh (by omega)]
 unfold slotC
 split
 ·rename_i v hv
  rw [List.getElem?_append_right (by rw [ok.len h v hv]; omega), ok.len h v hv, Nat.sub_self]; simp [hv]
 ·rename_i hv
  rw [List.getElem?_append_right (by omega), hz, Nat.sub_self]; simp [hv]
theorem slot_next {A : Ar} {z : List Value} {k : Nat} (ok : A.Ok k) (hz : z.length = k) {rest : List Value} {h : Nat} (hh : h < A.vals.length) (hn : A.get h = none) :
  ((A.rows z).flatten ++ rest)[h * (k + 2) + (k + 1)]? = some (.int .i64 (nextOf A.free h)) := by
 rw [slot_cell ok hz hh (by omega)]
 unfold slotC
 rw [hn]
 simp only []
 rw [List.getElem?_append_right (by omega), hz, Nat.add_sub_cancel_left]
 rfl
theorem slot_val {A : Ar} {z : List Value} {k : Nat} (ok : A.Ok k) (hz : z.length = k) {rest : List Value} {h j : Nat} {v : List Value} (hv : A.get h = some v) (hj : j < k) :
  ((A.rows z).flatten ++ rest)[h * (k + 2) + j]? = v[j]? := by
 rw [slot_cell ok hz (Ar.get_some_lt hv) (by omega)]
 unfold slotC
 rw [hv]
 simp only []
 rw [List.getElem?_append_left (by rw [ok.len h v hv]; exact hj)]
end Go.Hp
namespace Go.Hp
open Go
theorem row_set {w : Nat} {rows : List (List Value)} (hw : ∀ r ∈ rows, r.length = w) {i j : Nat} {r : List Value} (hr : rows[i]? = some r) (hj : j < w) (v : Value) (rest : List Value) :
  (rows.flatten ++ rest).set (i * w + j) v = (rows.set i (r.set j v)).flatten ++ rest := by
 have hi : i < rows.length := by
  rcases Nat.lt_or_ge i rows.length with h | h
  ·exact h
  ·rw [List.getElem?_eq_none h] at hr; cases hr
 have hrl : r.length = w := hw r (List.mem_of_getElem? hr)
 rw [← flat_set hw (r.set j v) hi rest]
 have hfl := flat_length hw
 have hle : i * w + w ≤ rows.length * w := by rw [← Nat.succ_mul]; exact Nat.mul_le_mul_right _ hi
 have hfd : ∀ d, d < w → (rows.flatten ++ rest)[i * w + d]? = r[d]? := fun d hd => by
  rw [List.getElem?_append_left (by rw [hfl]; omega), flat_get hw hr hd]
 have hL : i * w + w ≤ (rows.flatten ++ rest).length := by rw [List.length_append, hfl]; omega
 generalize rows.flatten ++ rest = L at hfd hL ⊢
 apply List.ext_getElem?
 intro x
 have htl : (L.take (i * w)).length = i * w := by rw [List.length_take]; omega
 by_cases h1 : x < i * w
 ·rw [List.getElem?_set_ne (by omega), List.append_assoc, List.getElem?_append_left (by rw [htl]; exact h1), List.getElem?_take_of_lt h1]
 ·by_cases h2 : x < i * w + w
  ·rw [List.append_assoc, List.getElem?_append_right (by rw [htl]; omega), htl, List.getElem?_append_left (by rw [List.length_set, hrl]; omega)]
   by_cases h3 : x = i * w + j
   ·subst h3
    rw [List.getElem?_set_self (by omega), Nat.add_sub_cancel_left, List.getElem?_set_self (by omega)]
   ·rw [List.getElem?_set_ne (by omega), List.getElem?_set_ne (by omega)]
    obtain ⟨d, rfl⟩ : ∃ d, x = i * w + d := ⟨x - i * w, by omega⟩
    rw [Nat.add_sub_cancel_left, hfd d (by omega)]
  ·have hl2 : (L.take (i * w) ++ r.set j v).length = i * w + w := by rw [List.length_append, htl, List.length_set, hrl]
   rw [List.getElem?_set_ne (by omega), List.getElem?_append_right (by rw [hl2]; omega), hl2, List.getElem?_drop]
   congr 1
   omega
namespace Ar
theorem rows_ext {A A' : Ar} {z : List Value} {h : Nat} {s' : Option (List Value)} (hh : h < A.vals.length) (hv : A'.vals = A.vals.set h s')
  (hn : ∀ i, i ≠ h → i < A.vals.length → A.get i = none → nextOf A'.free i = nextOf A.free i) : A'.rows z = (A.rows z).set h (slotC z s' (nextOf A'.free h)) := by
 apply List.ext_getElem?
 intro i
 by_cases hi : i < A.vals.length
 ·rw [rows_get (by rw [hv]; simpa using hi)]
  by_cases e : i = h
  ·subst e
   rw [List.getElem?_set_self (by rw [rows_length]; exact hh)]
   have : A'.get i = s' := by unfold get; rw [hv, List.getElem?_set_self hh]; rfl
   rw [this]
  ·rw [List.getElem?_set_ne (Ne.symm e), rows_get hi]
   have : A'.get i = A.get i := by unfold get; rw [hv, List.getElem?_set_ne (Ne.symm e)]
   rw [this]
   cases hg : A.get i with
   | some v => rfl
   | none => rw [hn i e hi hg]
 ·rw [List.getElem?_eq_none (by rw [rows_length, hv]; simpa using hi), List.getElem?_eq_none (by rw [List.length_set, rows_length]; omega)]
theorem get_set {A : Ar} {h i : Nat} {s : Option (List Value)} (hh : h < A.vals.length) : ((A.vals.set h s)[i]?).join = if i = h then s else A.get i := by
 unfold get
 by_cases e : i = h
 ·subst e
  rw [List.getElem?_set_self hh, if_pos rfl]; rfl
 ·rw [List.getElem?_set_ne (Ne.symm e), if_neg e]
theorem get_mk {r : Nat} {vs : List (Option (List Value))} {f : List Nat} (i : Nat) : (Ar.mk r vs f).get i = (vs[i]?).join := rfl
theorem pos_of_get {A : Ar} {k h : Nat} {v : List Value} (ok : A.Ok k) (hg : A.get h = some v) : 1 ≤ h := by
 rcases Nat.eq_zero_or_pos h with h0 | h0
 ·subst h0
  unfold Ar.get at hg
  rw [ok.zero] at hg
  cases hg
 ·exact h0
theorem Ok.new {k n : Nat} (hn : n ≤ 4096) : (Ar.new n).Ok k where
 len := fun h v hv => by
  unfold Ar.new get at hv
  cases h <;> simp at hv
 zero := rfl
 nodup := List.nodup_nil
 mem := fun h => by
  simp only [Ar.new, List.not_mem_nil, List.length_cons, List.length_nil, false_iff]
  omega
 most := by simp [Ar.new, many]
 room := hn
 size := by simp [Ar.new]
theorem Ok.set {A : Ar} {k h : Nat} {u v : List Value} (ok : A.Ok k) (hg : A.get h = some u) (hv : v.length = k) : (A.set h v).Ok k := by
 have hl := get_some_lt hg
 have h1 := pos_of_get ok hg
 have hgs : ∀ i, (A.set h v).get i = if i = h then some v else A.get i := fun i => get_set hl
 refine ⟨fun i w hw => ?_, ?_, ok.nodup, fun i => ?_, ?_, ok.room, by simpa [Ar.set] using ok.size⟩
 ·rw [hgs] at hw
  split at hw
  ·rw [← Option.some.inj hw]; exact hv
  ·exact ok.len i w hw
 ·show (A.vals.set h (some v))[0]? = _
  rw [List.getElem?_set_ne (by omega)]; exact ok.zero
 ·show i ∈ A.free ↔ _
  rw [ok.mem, hgs]
  show _ ↔ 1 ≤ i ∧ i < (A.vals.set h (some v)).length ∧ _
  rw [List.length_set]
  by_cases e : i = h
  ·subst e; rw [if_pos rfl, hg]; simp
  ·rw [if_neg e]
 ·have := many_set A.vals h (some v) (some u) (by rw [get_eq hl, hg])
  have h2 := ok.most
  unfold many at h2
  show ((A.vals.set h (some v)).filter (·.isSome)).length ≤ A.room
  simp at this
  omega
theorem many_set' {A : Ar} {h : Nat} {u v : List Value} (hg : A.get h = some u) : (A.set h v).many = A.many := by
 have := many_set A.vals h (some v) (some u) (by rw [get_eq (get_some_lt hg), hg])
 simp at this
 exact this
theorem many_drop {A : Ar} {h : Nat} {u : List Value} (hg : A.get h = some u) : (A.drop h).many + 1 = A.many := by
 have := many_set A.vals h none (some u) (by rw [get_eq (get_some_lt hg), hg])
 simp at this
 exact this
theorem Ok.drop {A : Ar} {k h : Nat} {u : List Value} (ok : A.Ok k) (hg : A.get h = some u) : (A.drop h).Ok k := by
 have hl := get_some_lt hg
 have h1 := pos_of_get ok hg
 have hgs : ∀ i, (A.drop h).get i = if i = h then none else A.get i := fun i => get_set hl
 refine ⟨fun i w hw => ?_, ?_, ?_, fun i => ?_, ?_, ok.room, by simpa [Ar.drop] using ok.size⟩
 ·rw [hgs] at hw
  split at hw
  ·cases hw
  ·exact ok.len i w hw
 ·show (A.vals.set h none)[0]? = _
  rw [List.getElem?_set_ne (by omega)]; exact ok.zero
 ·show (h :: A.free).Nodup
  rw [List.nodup_cons, ok.mem, hg]
  exact ⟨by simp, ok.nodup⟩
 ·show i ∈ h :: A.free ↔ 1 ≤ i ∧ i < (A.vals.set h none).length ∧ _
  rw [List.mem_cons, ok.mem, hgs, List.length_set]
  by_cases e : i = h
  ·subst e; simp [h1, hl]
  ·simp [e]
 ·have := many_drop (A := A) hg
  have := ok.most
  show (A.drop h).many ≤ A.room
  omega
theorem many_putOld {A : Ar} {k h : Nat} {v : List Value} (ok : A.Ok k) (hf : h ∈ A.free) : (A.putOld h v).many = A.many + 1 := by
 obtain ⟨h1, hl, hg⟩ := (ok.mem h).1 hf
 have := many_set A.vals h (some v) none (by rw [get_eq hl, hg])
 simp at this
 exact this
theorem Ok.putOld {A : Ar} {k h : Nat} {fs : List Nat} {v : List Value} (ok : A.Ok k) (hf : A.free = h :: fs) (hm : A.many < A.room) (hv : v.length = k) : (A.putOld h v).Ok k := by
 obtain ⟨h1, hl, hg⟩ := (ok.mem h).1 (by rw [hf]; exact .head _)
 have hgs : ∀ i, (A.putOld h v).get i = if i = h then some v else A.get i := fun i => get_set hl
 have hnd := ok.nodup
 rw [hf, List.nodup_cons] at hnd
 refine ⟨fun i w hw => ?_, ?_, ?_, fun i => ?_, ?_, ok.room, by simpa [Ar.putOld] using ok.size⟩
 ·rw [hgs] at hw
  split at hw
  ·rw [← Option.some.inj hw]; exact hv
  ·exact ok.len i w hw
 ·show (A.vals.set h (some v))[0]? = _
  rw [List.getElem?_set_ne (by omega)]; exact ok.zero
 ·show (A.free.tail).Nodup
  rw [hf]; exact hnd.2
 ·show i ∈ A.free.tail ↔ 1 ≤ i ∧ i < (A.vals.set h (some v)).length ∧ _
  have := ok.mem i
  rw [hf, List.mem_cons] at this
  rw [hf, List.tail_cons, hgs, List.length_set]
  by_cases e : i = h
  ·subst e; simp [hnd.1]
  ·simp [e] at this ⊢; exact this
 ·rw [many_putOld ok (by rw [hf]; exact .head _)]
  exact hm
theorem many_putNew {A : Ar} {v : List Value} : (A.putNew v).many = A.many + 1 := by
 unfold many Ar.putNew
 simp only [many_append]
 rfl
theorem get_putNew {A : Ar} {v : List Value} (i : Nat) : (A.putNew v).get i = if i = A.vals.length then some v else A.get i := by
 show ((A.vals ++ [some v])[i]?).join = _
 by_cases e : i = A.vals.length
 ·subst e; simp
 ·rw [if_neg e]
  unfold get
  rcases Nat.lt_or_ge i A.vals.length with h | h
  ·rw [List.getElem?_append_left h]
  ·rw [List.getElem?_eq_none (by simp; omega), List.getElem?_eq_none h]
theorem Ok.putNew {A : Ar} {k : Nat} {v : List Value} (ok : A.Ok k) (hf : A.free = []) (hm : A.many < A.room) (hv : v.length = k) : (A.putNew v).Ok k := by
 have hpos : 0 < A.vals.length := by
  rcases Nat.eq_zero_or_pos A.vals.length with h | h
  ·have := ok.zero
   rw [List.getElem?_eq_none (by omega)] at this; cases this
  ·exact h
 have hcf := count_free A ok
 rw [hf, List.length_nil] at hcf
 refine ⟨fun i w hw => ?_, ?_, ok.nodup, fun i => ?_, ?_, ok.room, by show (A.vals ++ [some v]).length ≤ A.room + 1; simp; omega⟩
 ·rw [get_putNew] at hw
  split at hw
  ·rw [← Option.some.inj hw]; exact hv
  ·exact ok.len i w hw
 ·show (A.vals ++ [some v])[0]? = _
  rw [List.getElem?_append_left hpos]; exact ok.zero
 ·show i ∈ A.free ↔ 1 ≤ i ∧ i < (A.vals ++ [some v]).length ∧ _
  have := ok.mem i
  rw [hf] at this ⊢
  rw [get_putNew, List.length_append, List.length_singleton]
  simp only [List.not_mem_nil, false_iff] at this ⊢
  by_cases e : i = A.vals.length
  ·rw [if_pos e]; simp
  ·rw [if_neg e]
   rintro ⟨a, b, c⟩
   exact this ⟨a, by omega, c⟩
 ·rw [many_putNew]; exact hm
theorem rows_putNew {A : Ar} {z v : List Value} : (A.putNew v).rows z = A.rows z ++ [slotC z (some v) 0] := by
 unfold rows Ar.putNew
 simp [List.mapIdx_append, slotC]
end Ar
end Go.Hp
namespace Go.Hp
open Go
theorem rows3 {rows : List (List Value)} (hw : ∀ r ∈ rows, r.length = 3) {i : Nat} (hi : i < rows.length) (a b c : Value) (rest : List Value) :
  (((rows.flatten ++ rest).set (i * 3) a).set (i * 3 + 1) b).set (i * 3 + 2) c = (rows.set i [a, b, c]).flatten ++ rest := by
 have hr : rows[i]? = some rows[i] := List.getElem?_eq_getElem hi
 have hl := hw _ (List.getElem_mem hi)
 have s0 := row_set hw hr (show 0 < 3 by omega) a rest
 rw [Nat.add_zero] at s0
 have hw1 : ∀ r ∈ rows.set i (rows[i].set 0 a), r.length = 3 := fun r hr => by
  rcases List.mem_or_eq_of_mem_set hr with h | h
  ·exact hw r h
  ·rw [h, List.length_set, hl]
 have s1 := row_set hw1 (i := i) (j := 1) (r := rows[i].set 0 a) (by simp [hi]) (by omega) b rest
 have hw2 : ∀ r ∈ (rows.set i (rows[i].set 0 a)).set i ((rows[i].set 0 a).set 1 b), r.length = 3 := fun r hr => by
  rcases List.mem_or_eq_of_mem_set hr with h | h
  ·exact hw1 r h
  ·rw [h]; simp [hl]
 have s2 := row_set hw2 (i := i) (j := 2) (r := (rows[i].set 0 a).set 1 b) (by simp [hi]) (by omega) c rest
 rw [s0, s1, s2]
 simp only [List.set_set]
 have e : ((rows[i].set 0 a).set 1 b).set 2 c = [a, b, c] := by
  match rows[i], hl with
  | [_, _, _], _ => rfl
 rw [e]
theorem rows4 {rows : List (List Value)} (hw : ∀ r ∈ rows, r.length = 4) {i : Nat} (hi : i < rows.length) (a b c d : Value) (rest : List Value) :
  ((((rows.flatten ++ rest).set (i * 4) a).set (i * 4 + 1) b).set (i * 4 + 2) c).set (i * 4 + 3) d = (rows.set i [a, b, c, d]).flatten ++ rest := by
 have hr : rows[i]? = some rows[i] := List.getElem?_eq_getElem hi
 have hl := hw _ (List.getElem_mem hi)
 have s0 := row_set hw hr (show 0 < 4 by omega) a rest
 rw [Nat.add_zero] at s0
 have hw1 : ∀ r ∈ rows.set i (rows[i].set 0 a), r.length = 4 := fun r hr => by
  rcases List.mem_or_eq_of_mem_set hr with h | h
  ·exact hw r h
  ·rw [h, List.length_set, hl]
 have s1 := row_set hw1 (i := i) (j := 1) (r := rows[i].set 0 a) (by simp [hi]) (by omega) b rest
 have hw2 : ∀ r ∈ (rows.set i (rows[i].set 0 a)).set i ((rows[i].set 0 a).set 1 b), r.length = 4 := fun r hr => by
  rcases List.mem_or_eq_of_mem_set hr with h | h
  ·exact hw1 r h
  ·rw [h]; simp [hl]
 have s2 := row_set hw2 (i := i) (j := 2) (r := (rows[i].set 0 a).set 1 b) (by simp [hi]) (by omega) c rest
 have hw3 : ∀ r ∈ ((rows.set i (rows[i].set 0 a)).set i ((rows[i].set 0 a).set 1 b)).set i (((rows[i].set 0 a).set 1 b).set 2 c), r.length = 4 := fun r hr => by
  rcases List.mem_or_eq_of_mem_set hr with h | h
  ·exact hw2 r h
  ·rw [h]; simp [hl]
 have s3 := row_set hw3 (i := i) (j := 3) (r := ((rows[i].set 0 a).set 1 b).set 2 c) (by simp [hi]) (by omega) d rest
 rw [s0, s1, s2, s3]
 simp only [List.set_set]
 have e : (((rows[i].set 0 a).set 1 b).set 2 c).set 3 d = [a, b, c, d] := by
  match rows[i], hl with
  | [_, _, _, _], _ => rfl
 rw [e]
theorem rows_set {A : Ar} {z : List Value} {h : Nat} (v : List Value) (hh : h < A.vals.length) : (A.set h v).rows z = (A.rows z).set h (v ++ [.bool true, .int .i64 0]) :=
 Ar.rows_ext (A' := A.set h v) (s' := some v) hh rfl fun _ _ _ _ => rfl
theorem rows_drop {A : Ar} {z : List Value} {h : Nat} (hh : h < A.vals.length) : (A.drop h).rows z = (A.rows z).set h (z ++ [.bool false, .int .i64 (A.free.headD 0 : Nat)]) := by
 rw [Ar.rows_ext (A' := A.drop h) (s' := none) hh rfl fun i hi _ _ => by simp [Ar.drop, nextOf, Ne.symm hi]]
 simp [slotC, Ar.drop, nextOf]
theorem rows_putOld {A : Ar} {k : Nat} {z : List Value} {h : Nat} {fs : List Nat} (v : List Value) (ok : A.Ok k) (hf : A.free = h :: fs) : (A.putOld h v).rows z = (A.rows z).set h (v ++ [.bool true, .int .i64 0]) :=
 Ar.rows_ext (A' := A.putOld h v) (s' := some v) ((ok.mem h).1 (by rw [hf]; exact .head _)).2.1 rfl fun i hi _ _ => by simp [Ar.putOld, hf, nextOf, Ne.symm hi]
theorem off_lt {A : Ar} {z : List Value} {k h j : Nat} (hz : z.length = k) (ok : A.Ok k) (hh : h < A.vals.length) (hj : j < k + 2) (rest : List Value) : h * (k + 2) + j < ((A.rows z).flatten ++ rest).length := by
 have hfl := flat_length (Ar.rows_w hz ok)
 rw [Ar.rows_length] at hfl
 have : (h + 1) * (k + 2) ≤ A.vals.length * (k + 2) := Nat.mul_le_mul_right _ hh
 rw [Nat.succ_mul] at this
 rw [List.length_append, hfl]
 omega
end Go.Hp
namespace Go.Hp
open Go
set_option linter.unusedVariables false
def rfOf (A : Ar) : Rf := ⟨A.room, A.vals.map (·.isSome), A.free.reverse⟩
def Ar.hasB (A : Ar) (i : Int) : Bool := decide (1 ≤ i) && (A.get i.toNat).isSome
def Ar.put (A : Ar) (v : List Value) : Ar × Nat × Int :=
 if A.many = A.room then (A, 0, 20) else match A.free with
  | h :: _ => (A.putOld h v, h, 0)
  | [] => (A.putNew v, A.vals.length, 0)
def Ar.dropI (A : Ar) (i : Int) : Ar × Int := if A.hasB i then (A.drop i.toNat, 0) else (A, 21)
theorem rfOf_hasB (A : Ar) (i : Int) : (rfOf A).hasB i = A.hasB i := by
 unfold Rf.hasB Ar.hasB rfOf Ar.get
 congr 1
 simp only [List.getD_eq_getElem?_getD, List.getElem?_map]
 cases A.vals[i.toNat]? with
 | none => rfl
 | some x => rfl
theorem rfOf_count {A : Ar} {k : Nat} (ok : A.Ok k) : (rfOf A).count = A.many := by
 have h0 := ok.zero
 unfold Rf.count rfOf Ar.many
 obtain ⟨x, xs, hx⟩ : ∃ x xs, A.vals = x :: xs := by
  cases h : A.vals with
  | nil => rw [h] at h0; cases h0
  | cons x xs => exact ⟨x, xs, rfl⟩
 rw [hx] at h0 ⊢
 simp only [List.getElem?_cons_zero, Option.some.injEq] at h0
 subst h0
 simp only [List.map_cons, List.drop_succ_cons, List.drop_zero]
 rw [List.countP_map, List.countP_eq_length_filter, List.filter_cons]
 rfl
theorem rfOf_ok {A : Ar} {k : Nat} (ok : A.Ok k) : (rfOf A).Ok := by
 have hl := ok.len_le
 have hc := A.count_free ok
 refine ⟨?_, by simpa [rfOf] using ok.size, ok.room, fun h hh => ?_, ?_⟩
 ·intro e
  have h0 := ok.zero
  simp [rfOf] at e
  rw [e] at h0; cases h0
 ·simp only [rfOf, List.mem_reverse, List.length_map] at hh ⊢
  have := (ok.mem h).1 hh
  exact ⟨this.1, this.2.1⟩
 ·simp only [rfOf, List.length_reverse]; omega
theorem rfOf_putOld {A : Ar} {h : Nat} {fs : List Nat} {v : List Value} (hf : A.free = h :: fs) : rfOf (A.putOld h v) = (rfOf A).old h := by
 unfold rfOf Ar.putOld Rf.old
 simp [hf, List.map_set]
theorem rfOf_putNew {A : Ar} {v : List Value} : rfOf (A.putNew v) = (rfOf A).more := by
 unfold rfOf Ar.putNew Rf.more
 simp
theorem rfOf_drop {A : Ar} {h : Nat} : rfOf (A.drop h) = (rfOf A).dropped h := by
 unfold rfOf Ar.drop Rf.dropped
 simp [List.map_set]
theorem rfOf_set {A : Ar} {h : Nat} {u v : List Value} (hg : A.get h = some u) : rfOf (A.set h v) = rfOf A := by
 have hh := Ar.get_some_lt hg
 unfold rfOf Ar.set
 simp only [List.map_set, Option.isSome_some]
 congr 1
 apply List.ext_getElem?
 intro i
 rw [List.getElem?_set]
 by_cases hi : h = i
 ·subst hi
  rw [if_pos rfl, if_pos (by simpa using hh), List.getElem?_map, Ar.get_eq hh, hg]
  rfl
 ·rw [if_neg hi]
theorem Ar.Ok.put {A : Ar} {k : Nat} {v : List Value} (ok : A.Ok k) (hv : v.length = k) : (A.put v).1.Ok k := by
 unfold Ar.put
 have hm := ok.most
 by_cases h : A.many = A.room
 ·rw [if_pos h]; exact ok
 ·rw [if_neg h]
  split
  ·rename_i h' fs hf
   exact ok.putOld hf (by omega) hv
  ·rename_i hf
   exact ok.putNew hf (by omega) hv
theorem Ar.hasB_nat {A : Ar} {i : Int} (h : A.hasB i = true) : ∃ (n : Nat) (u : List Value), i = n ∧ A.get n = some u := by
 unfold Ar.hasB at h
 rw [Bool.and_eq_true, decide_eq_true_iff] at h
 refine ⟨i.toNat, (A.get i.toNat).get h.2, by omega, by simp⟩
theorem Ar.Ok.dropI {A : Ar} {k : Nat} {i : Int} (ok : A.Ok k) : (A.dropI i).1.Ok k := by
 unfold Ar.dropI
 by_cases h : A.hasB i = true
 ·obtain ⟨n, u, rfl, hg⟩ := Ar.hasB_nat h
  rw [if_pos h]
  exact ok.drop hg
 ·rw [if_neg h]; exact ok
end Go.Hp
namespace Go.Proofs.Ytndkbhlfbeiniaa
open Go Go.Hp
set_option linter.all false
set_option maxRecDepth 100000
set_option maxHeartbeats 1600000
section
variable {H : Heap} {q : Nat} {T : Nat → Prop} {A : Ar} {K : Value → Heap → Prop}
theorem rfa_put {k : Nat} {v : List Value} (hM : RfM H q T (rfOf A)) (ok : A.Ok k)
  (fin : ∀ H' T', RfM H' q T' (rfOf (A.put v).1) → Fr T H H' → (∀ b, T' b → T b ∨ H.size ≤ b) → K (.tuple #[.int .i64 (A.put v).2.1, .int .i64 (A.put v).2.2]) H') :
  CallsH Try.prog 71 #[.pointer (some ⟨q, 0, none⟩)] H K := by
 have hc := rfOf_count ok
 have hm := ok.most
 unfold Ar.put at fin
 by_cases h : A.many = A.room
 ·rw [if_pos h] at fin
  exact rf_full hM (by rw [hc, h]; exact Nat.le_refl _) (fin H T hM (Fr.refl _ _) fun b hb => .inl hb)
 ·rw [if_neg h] at fin
  have hlt : (rfOf A).count < (rfOf A).room := by rw [hc]; show A.many < A.room; omega
  cases hf : A.free with
  | cons h fs =>
   rw [hf] at fin
   refine rf_old hM hlt (fs := fs.reverse) (h := h) (by simp [rfOf, hf]) fun H' h1 h2 => fin H' T ?_ h2 fun b hb => .inl hb
   rw [rfOf_putOld hf]; exact h1
  | nil =>
   rw [hf] at fin
   have hcf := A.count_free ok
   rw [hf] at hcf
   simp only [List.length_nil] at hcf
   have hl : (rfOf A).used.length = A.vals.length := by simp [rfOf]
   refine rf_more hM hlt (by simp [rfOf, hf]) (by rw [hl]; show _ ≤ A.room; omega) fun H' T' h1 h2 h3 => ?_
   rw [hl]
   refine fin H' T' ?_ h2 h3
   rw [rfOf_putNew]; exact h1
theorem rfa_drop {k : Nat} {i : Int} (hM : RfM H q T (rfOf A)) (ok : A.Ok k)
  (fin : ∀ H' T', RfM H' q T' (rfOf (A.dropI i).1) → Fr T H H' → (∀ b, T' b → T b ∨ H.size ≤ b) → K (.int .i64 (A.dropI i).2) H') :
  CallsH Try.prog 74 #[.pointer (some ⟨q, 0, none⟩), .int .i64 i] H K := by
 unfold Ar.dropI at fin
 by_cases h : A.hasB i = true
 ·rw [if_pos h] at fin
  obtain ⟨n, u, rfl, hg⟩ := Ar.hasB_nat h
  have hcf := A.count_free ok
  have hl := ok.len_le
  have hm1 := Ar.many_drop hg
  refine rf_drop hM (by rw [rfOf_hasB]; exact h) (by simp only [rfOf, List.length_reverse]; omega) fun H' T' h1 h2 h3 => fin H' T' ?_ h2 h3
  rw [Int.toNat_natCast, rfOf_drop]; exact h1
 ·rw [if_neg h] at fin
  exact rf_drop_none hM (by rw [rfOf_hasB]; simpa using h) (fin H T hM (Fr.refl _ _) fun b hb => .inl hb)
theorem rfa_has {i : Int} (hM : RfM H q T (rfOf A)) (fin : K (.bool (A.hasB i)) H) :
  CallsH Try.prog 77 #[.pointer (some ⟨q, 0, none⟩), .int .i64 i] H K := by
 rw [← rfOf_hasB] at fin
 exact rf_has hM fin
theorem rfa_len {k : Nat} (hM : RfM H q T (rfOf A)) (ok : A.Ok k) (fin : K (.int .i64 (A.many : Nat)) H) :
  CallsH Try.prog 76 #[.pointer (some ⟨q, 0, none⟩)] H K := by
 rw [← rfOf_count ok] at fin
 exact rf_len hM fin
end
end Go.Proofs.Ytndkbhlfbeiniaa
namespace Go.Hp
open Go
set_option linter.unusedVariables false
def extC (col : Nat → Nat) (n n' k : Nat) (b : Nat) : Nat := if b < n then col b else if b < n' then k else 0
structure Nx (col col' : Nat → Nat) (H H' : Heap) : Prop where
 fr : Fr (fun b => col b ≠ 0) H H'
 own : ∀ b, col' b ≠ 0 → col b ≠ 0 ∨ H.size ≤ b
theorem Nx.refl (col : Nat → Nat) (H : Heap) : Nx col col H H := ⟨Fr.refl _ _, fun b h => .inl h⟩
theorem Nx.trans {c c' c'' : Nat → Nat} {H H' H'' : Heap} (h : Nx c c' H H') (k : Nx c' c'' H' H'') : Nx c c'' H H'' := by
 have hs := h.fr.size
 refine ⟨h.fr.trans' k.fr fun b hb e => ?_, fun b hb => ?_⟩
 ·rcases h.own b e with h' | h'
  ·exact h'
  ·omega
 ·rcases k.own b hb with h' | h'
  ·exact h.own b h'
  ·right; omega
theorem Nx.ext {col : Nat → Nat} {H H' : Heap} {S : Nat → Prop} {k : Nat} (hf : Fr S H H') (hS : ∀ b, S b → col b ≠ 0) : Nx col (extC col H.size H'.size k) H H' := by
 refine ⟨hf.mono fun b _ => hS b, fun b hb => ?_⟩
 unfold extC at hb
 by_cases h : b < H.size
 ·rw [if_pos h] at hb; exact .inl hb
 ·right; omega
theorem Nx.same {col : Nat → Nat} {H H' : Heap} {S : Nat → Prop} (hf : Fr S H H') (hS : ∀ b, S b → col b ≠ 0) : Nx col col H H' :=
 ⟨hf.mono fun b _ => hS b, fun b hb => .inl hb⟩
structure SdP {α : Type} (C : α → Value) (z : List Value) (H : Heap) (s : Nat) (col : Nat → Nat) (A : Ar) (R : Rf) (vs : List α) (L L' : List (List Int)) (p g q : Nat) (TR : Nat → Prop) (Bk : Option Nat) (vk : Value) (TA : Nat → Prop) (va : Value) (TW : Nat → Prop) (vw : Value) : Prop where
 b : Blk H s [.pointer (some ⟨p, 0, none⟩), .pointer (some ⟨q, 0, none⟩), vk, va, vw]
 ar : ArAt H p g 1 z A
 rf : RfM H q TR R
 kp : OR C H Bk vk vs
 la : LL (Value.int .i64) H TA va L
 lw : LL (Value.int .i64) H TW vw L'
 cs : col s = 1
 cp : col p = 2
 cg : col g = 2
 cr : ∀ b, TR b → col b = 3
 ck : ∀ b, Bk = some b → col b = 4
 ca : ∀ b, TA b → col b = 5
 cw : ∀ b, TW b → col b = 6
 lt : ∀ b, col b ≠ 0 → b < H.size
section
variable {α : Type} {C : α → Value} {z : List Value} {H : Heap} {s : Nat} {col : Nat → Nat} {A : Ar} {R : Rf} {vs : List α} {L L' : List (List Int)} {p g q : Nat} {TR : Nat → Prop} {Bk : Option Nat} {vk : Value} {TA : Nat → Prop} {va : Value} {TW : Nat → Prop} {vw : Value}
theorem extC_old {n n' k b : Nat} (h : b < n) : extC col n n' k b = col b := if_pos h
theorem extC_new {n n' k b : Nat} (h : n ≤ b) (h' : b < n') : extC col n n' k b = k := by unfold extC; rw [if_neg (by omega), if_pos h']
theorem extC_lt {n n' k b : Nat} (hn : n ≤ n') (h : extC col n n' k b ≠ 0) : b < n' := by
 unfold extC at h
 by_cases h1 : b < n
 ·omega
 ·rw [if_neg h1] at h
  by_cases h2 : b < n'
  ·exact h2
  ·rw [if_neg h2] at h; exact absurd rfl h
theorem SdP.old (h : SdP C z H s col A R vs L L' p g q TR Bk vk TA va TW vw) {b n' k j : Nat} (hj : col b = j) (h0 : j ≠ 0) : extC col H.size n' k b = j := by
 rw [extC_old (h.lt b (by rw [hj]; exact h0)), hj]
theorem SdP.grow {H' : Heap} {S : Nat → Prop} (h : SdP C z H s col A R vs L L' p g q TR Bk vk TA va TW vw) (hf : Fr S H H') (hS : ∀ b, col b ≠ 0 → ¬ S b) : SdP C z H' s col A R vs L L' p g q TR Bk vk TA va TW vw where
 b := h.b.frame hf (hS s (by rw [h.cs]; decide))
 ar := h.ar.frame hf (hS p (by rw [h.cp]; decide)) (hS g (by rw [h.cg]; decide))
 rf := h.rf.frame hf fun b hb => hS b (by rw [h.cr b hb]; decide)
 kp := h.kp.frame hf fun b hb => hS b (by rw [h.ck b hb]; decide)
 la := h.la.frame hf fun b hb => hS b (by rw [h.ca b hb]; decide)
 lw := h.lw.frame hf fun b hb => hS b (by rw [h.cw b hb]; decide)
 cs := h.cs
 cp := h.cp
 cg := h.cg
 cr := h.cr
 ck := h.ck
 ca := h.ca
 cw := h.cw
 lt := fun b hb => Nat.lt_of_lt_of_le (h.lt b hb) hf.size
theorem SdP.setAr {H' : Heap} {A' : Ar} {g' : Nat} (h : SdP C z H s col A R vs L L' p g q TR Bk vk TA va TW vw) (hf : Fr (fun b => b = g ∨ b = p) H H') (ha : ArAt H' p g' 1 z A') (hg : g' = g ∨ H.size ≤ g') :
  SdP C z H' s (extC col H.size H'.size 2) A' R vs L L' p g' q TR Bk vk TA va TW vw ∧ Nx col (extC col H.size H'.size 2) H H' := by
 have hne : ∀ b, col b ≠ 2 → ¬ (b = g ∨ b = p) := by
  rintro b hb (rfl | rfl)
  ·exact hb h.cg
  ·exact hb h.cp
 refine ⟨⟨h.b.frame hf (hne _ (by rw [h.cs]; decide)), ha, h.rf.frame hf fun b hb => hne b (by rw [h.cr b hb]; decide), h.kp.frame hf fun b hb => hne b (by rw [h.ck b hb]; decide),
  h.la.frame hf fun b hb => hne b (by rw [h.ca b hb]; decide), h.lw.frame hf fun b hb => hne b (by rw [h.cw b hb]; decide),
  h.old h.cs (by decide), h.old h.cp (by decide), ?_, fun b hb => h.old (h.cr b hb) (by decide), fun b hb => h.old (h.ck b hb) (by decide), fun b hb => h.old (h.ca b hb) (by decide), fun b hb => h.old (h.cw b hb) (by decide), fun b hb => extC_lt hf.size hb⟩, Nx.ext hf ?_⟩
 ·rcases hg with rfl | hg
  ·exact h.old h.cg (by decide)
  ·obtain ⟨c, rest, b1, b2, _⟩ := ha.at_
   exact extC_new hg b2.lt
 ·rintro b (rfl | rfl)
  ·rw [h.cg]; decide
  ·rw [h.cp]; decide
theorem SdP.setRf {H' : Heap} {R' : Rf} {TR' : Nat → Prop} (h : SdP C z H s col A R vs L L' p g q TR Bk vk TA va TW vw) (hf : Fr TR H H') (hr : RfM H' q TR' R') (hT : ∀ b, TR' b → TR b ∨ H.size ≤ b) :
  SdP C z H' s (extC col H.size H'.size 3) A R' vs L L' p g q TR' Bk vk TA va TW vw ∧ Nx col (extC col H.size H'.size 3) H H' := by
 have hne : ∀ b, col b ≠ 3 → ¬ TR b := fun b hb e => hb (h.cr b e)
 refine ⟨⟨h.b.frame hf (hne _ (by rw [h.cs]; decide)), h.ar.frame hf (hne _ (by rw [h.cp]; decide)) (hne _ (by rw [h.cg]; decide)), hr, h.kp.frame hf fun b hb => hne b (by rw [h.ck b hb]; decide),
  h.la.frame hf fun b hb => hne b (by rw [h.ca b hb]; decide), h.lw.frame hf fun b hb => hne b (by rw [h.cw b hb]; decide),
  h.old h.cs (by decide), h.old h.cp (by decide), h.old h.cg (by decide), fun b hb => ?_, fun b hb => h.old (h.ck b hb) (by decide), fun b hb => h.old (h.ca b hb) (by decide), fun b hb => h.old (h.cw b hb) (by decide), fun b hb => extC_lt hf.size hb⟩, Nx.ext hf fun b hb => by rw [h.cr b hb]; decide⟩
 rcases hT b hb with h' | h'
 ·exact h.old (h.cr b h') (by decide)
 ·exact extC_new h' (hr.lt hb)
theorem SdP.setKp {H' : Heap} {vs' : List α} {Bk' : Option Nat} {vk' : Value} (h : SdP C z H s col A R vs L L' p g q TR Bk vk TA va TW vw) (hf : Fr (fun b => Bk = some b) H H') (hk : OR C H' Bk' vk' vs') (hB : Bk' = Bk ∨ ∃ g, Bk' = some g ∧ H.size ≤ g) :
  okW H' ⟨s, 2, none⟩ ∧ SdP C z (hset H' ⟨s, 2, none⟩ vk') s (extC col H.size H'.size 4) A R vs' L L' p g q TR Bk' vk' TA va TW vw ∧ Nx col (extC col H.size H'.size 4) H (hset H' ⟨s, 2, none⟩ vk') := by
 have hsz : (hset H' ⟨s, 2, none⟩ vk').size = H'.size := hset_size ..
 have hb := h.b.frame hf fun e => by have := h.ck s e; rw [h.cs] at this; cases this
 have hf2 : Fr (fun b => Bk = some b ∨ b = s) H (hset H' ⟨s, 2, none⟩ vk') := Fr.set (S := fun b => Bk = some b ∨ b = s) (a := ⟨s, 2, none⟩) (hf.mono fun b _ h => .inl h) (.inl (.inr rfl)) _
 have hne : ∀ b, col b ≠ 4 → col b ≠ 1 → ¬ (Bk = some b ∨ b = s) := by
  rintro b h4 h1 (e | rfl)
  ·exact h4 (h.ck b e)
  ·exact h1 h.cs
 have hBn : ∀ b, Bk' = some b → extC col H.size H'.size 4 b = 4 := fun b hb => by
  rcases hB with rfl | ⟨g', rfl, hg'⟩
  ·exact h.old (h.ck b hb) (by decide)
  ·have hl := hk.lt hb
   rw [← Option.some.inj hb] at hl ⊢
   exact extC_new hg' hl
 have hcs := h.old (n' := H'.size) (k := 4) h.cs (by decide)
 have hnx : Nx col (extC col H.size H'.size 4) H (hset H' ⟨s, 2, none⟩ vk') := by
  rw [← hsz]
  refine Nx.ext hf2 ?_
  rintro b (e | rfl)
  ·rw [h.ck b e]; decide
  ·rw [h.cs]; decide
 refine ⟨hb.okW (by simp), ⟨hb.set_same 2 vk', h.ar.frame hf2 (hne _ (by rw [h.cp]; decide) (by rw [h.cp]; decide)) (hne _ (by rw [h.cg]; decide) (by rw [h.cg]; decide)), h.rf.frame hf2 fun b hb => hne b (by rw [h.cr b hb]; decide) (by rw [h.cr b hb]; decide),
  hk.frame (Fr.set (S := (· = s)) (a := ⟨s, 2, none⟩) (Fr.refl _ H') (.inl rfl) _) (fun b hb' e => ?_),
  h.la.frame hf2 fun b hb => hne b (by rw [h.ca b hb]; decide) (by rw [h.ca b hb]; decide), h.lw.frame hf2 fun b hb => hne b (by rw [h.cw b hb]; decide) (by rw [h.cw b hb]; decide),
  hcs, h.old h.cp (by decide), h.old h.cg (by decide), fun b hb => h.old (h.cr b hb) (by decide), hBn, fun b hb => h.old (h.ca b hb) (by decide), fun b hb => h.old (h.cw b hb) (by decide), fun b hb => by rw [hsz]; exact extC_lt hf.size hb⟩, hnx⟩
 ·have := hBn b hb'
  rw [e, hcs] at this
  cases this
theorem SdP.wrKp {x : α} {i gk n c : Nat} (h : SdP C z H s col A R vs L L' p g q TR (some gk) (.slice (some ⟨gk, 0, none⟩) n c) TA va TW vw) (hi : i < vs.length) :
  okW H ⟨gk, i, none⟩ ∧ SdP C z (hset H ⟨gk, i, none⟩ (C x)) s col A R (vs.set i x) L L' p g q TR (some gk) (.slice (some ⟨gk, 0, none⟩) n c) TA va TW vw ∧ Nx col col H (hset H ⟨gk, i, none⟩ (C x)) := by
 obtain ⟨w, hk⟩ := h.kp.write hi x
 have hf : Fr (· = gk) H (hset H ⟨gk, i, none⟩ (C x)) := Fr.set (S := (· = gk)) (a := ⟨gk, i, none⟩) (Fr.refl _ H) (.inl rfl) _
 have hck := h.ck gk rfl
 have hne : ∀ b, col b ≠ 4 → ¬ b = gk := by
  rintro b h4 rfl
  exact h4 hck
 exact ⟨w, ⟨h.b.frame hf (hne _ (by rw [h.cs]; decide)), h.ar.frame hf (hne _ (by rw [h.cp]; decide)) (hne _ (by rw [h.cg]; decide)), h.rf.frame hf fun b hb => hne b (by rw [h.cr b hb]; decide), hk,
  h.la.frame hf fun b hb => hne b (by rw [h.ca b hb]; decide), h.lw.frame hf fun b hb => hne b (by rw [h.cw b hb]; decide),
  h.cs, h.cp, h.cg, h.cr, h.ck, h.ca, h.cw, fun b hb => by rw [hset_size]; exact h.lt b hb⟩, Nx.same hf fun b (e : b = gk) => by rw [e, hck]; decide⟩
theorem SdP.setLa {H' : Heap} {M : List (List Int)} {TA' : Nat → Prop} {va' : Value} (h : SdP C z H s col A R vs L L' p g q TR Bk vk TA va TW vw) (hf : Fr TA H H') (hk : LL (Value.int .i64) H' TA' va' M) (hB : ∀ b, TA' b → TA b ∨ H.size ≤ b) :
  okW H' ⟨s, 3, none⟩ ∧ SdP C z (hset H' ⟨s, 3, none⟩ va') s (extC col H.size H'.size 5) A R vs M L' p g q TR Bk vk TA' va' TW vw ∧ Nx col (extC col H.size H'.size 5) H (hset H' ⟨s, 3, none⟩ va') := by
 have hsz : (hset H' ⟨s, 3, none⟩ va').size = H'.size := hset_size ..
 have hb := h.b.frame hf fun e => by have := h.ca s e; rw [h.cs] at this; cases this
 have hf2 : Fr (fun b => TA b ∨ b = s) H (hset H' ⟨s, 3, none⟩ va') := Fr.set (S := fun b => TA b ∨ b = s) (a := ⟨s, 3, none⟩) (hf.mono fun b _ h => .inl h) (.inl (.inr rfl)) _
 have hne : ∀ b, col b ≠ 5 → col b ≠ 1 → ¬ (TA b ∨ b = s) := by
  rintro b h4 h1 (e | rfl)
  ·exact h4 (h.ca b e)
  ·exact h1 h.cs
 have hBn : ∀ b, TA' b → extC col H.size H'.size 5 b = 5 := fun b hb => by
  rcases hB b hb with e | e
  ·exact h.old (h.ca b e) (by decide)
  ·exact extC_new e (hk.lt hb)
 have hcs := h.old (n' := H'.size) (k := 5) h.cs (by decide)
 have hnx : Nx col (extC col H.size H'.size 5) H (hset H' ⟨s, 3, none⟩ va') := by
  rw [← hsz]
  refine Nx.ext hf2 ?_
  rintro b (e | rfl)
  ·rw [h.ca b e]; decide
  ·rw [h.cs]; decide
 refine ⟨hb.okW (by simp), ⟨hb.set_same 3 va', h.ar.frame hf2 (hne _ (by rw [h.cp]; decide) (by rw [h.cp]; decide)) (hne _ (by rw [h.cg]; decide) (by rw [h.cg]; decide)), h.rf.frame hf2 fun b hb => hne b (by rw [h.cr b hb]; decide) (by rw [h.cr b hb]; decide),
  h.kp.frame hf2 fun b hb => hne b (by rw [h.ck b hb]; decide) (by rw [h.ck b hb]; decide),
  hk.frame (Fr.set (S := (· = s)) (a := ⟨s, 3, none⟩) (Fr.refl _ H') (.inl rfl) _) (fun b hb' e => ?_), h.lw.frame hf2 fun b hb => hne b (by rw [h.cw b hb]; decide) (by rw [h.cw b hb]; decide),
  hcs, h.old h.cp (by decide), h.old h.cg (by decide), fun b hb => h.old (h.cr b hb) (by decide), fun b hb => h.old (h.ck b hb) (by decide), hBn, fun b hb => h.old (h.cw b hb) (by decide), fun b hb => by rw [hsz]; exact extC_lt hf.size hb⟩, hnx⟩
 ·have := hBn b hb'
  rw [e, hcs] at this
  cases this
theorem SdP.setLw {H' : Heap} {M : List (List Int)} {TW' : Nat → Prop} {vw' : Value} (h : SdP C z H s col A R vs L L' p g q TR Bk vk TA va TW vw) (hf : Fr TW H H') (hk : LL (Value.int .i64) H' TW' vw' M) (hB : ∀ b, TW' b → TW b ∨ H.size ≤ b) :
  okW H' ⟨s, 4, none⟩ ∧ SdP C z (hset H' ⟨s, 4, none⟩ vw') s (extC col H.size H'.size 6) A R vs L M p g q TR Bk vk TA va TW' vw' ∧ Nx col (extC col H.size H'.size 6) H (hset H' ⟨s, 4, none⟩ vw') := by
 have hsz : (hset H' ⟨s, 4, none⟩ vw').size = H'.size := hset_size ..
 have hb := h.b.frame hf fun e => by have := h.cw s e; rw [h.cs] at this; cases this
 have hf2 : Fr (fun b => TW b ∨ b = s) H (hset H' ⟨s, 4, none⟩ vw') := Fr.set (S := fun b => TW b ∨ b = s) (a := ⟨s, 4, none⟩) (hf.mono fun b _ h => .inl h) (.inl (.inr rfl)) _
 have hne : ∀ b, col b ≠ 6 → col b ≠ 1 → ¬ (TW b ∨ b = s) := by
  rintro b h4 h1 (e | rfl)
  ·exact h4 (h.cw b e)
  ·exact h1 h.cs
 have hBn : ∀ b, TW' b → extC col H.size H'.size 6 b = 6 := fun b hb => by
  rcases hB b hb with e | e
  ·exact h.old (h.cw b e) (by decide)
  ·exact extC_new e (hk.lt hb)
 have hcs := h.old (n' := H'.size) (k := 6) h.cs (by decide)
 have hnx : Nx col (extC col H.size H'.size 6) H (hset H' ⟨s, 4, none⟩ vw') := by
  rw [← hsz]
  refine Nx.ext hf2 ?_
  rintro b (e | rfl)
  ·rw [h.cw b e]; decide
  ·rw [h.cs]; decide
 refine ⟨hb.okW (by simp), ⟨hb.set_same 4 vw', h.ar.frame hf2 (hne _ (by rw [h.cp]; decide) (by rw [h.cp]; decide)) (hne _ (by rw [h.cg]; decide) (by rw [h.cg]; decide)), h.rf.frame hf2 fun b hb => hne b (by rw [h.cr b hb]; decide) (by rw [h.cr b hb]; decide),
  h.kp.frame hf2 fun b hb => hne b (by rw [h.ck b hb]; decide) (by rw [h.ck b hb]; decide), h.la.frame hf2 fun b hb => hne b (by rw [h.ca b hb]; decide) (by rw [h.ca b hb]; decide),
  hk.frame (Fr.set (S := (· = s)) (a := ⟨s, 4, none⟩) (Fr.refl _ H') (.inl rfl) _) (fun b hb' e => ?_),
  hcs, h.old h.cp (by decide), h.old h.cg (by decide), fun b hb => h.old (h.cr b hb) (by decide), fun b hb => h.old (h.ck b hb) (by decide), fun b hb => h.old (h.ca b hb) (by decide), hBn, fun b hb => by rw [hsz]; exact extC_lt hf.size hb⟩, hnx⟩
 ·have := hBn b hb'
  rw [e, hcs] at this
  cases this
end
def Kept {α : Type} (C : α → Value) (A : Ar) (vs : List α) : Prop := ∀ h v, A.get h = some v → ∃ x, v = [C x] ∧ vs[h]? = some x
theorem Ar.put_spec {A : Ar} {k : Nat} (ok : A.Ok k) (v : List Value) :
  ((A.put v).2.2 = 20 ∧ (A.put v).1 = A) ∨ ((A.put v).2.2 = 0 ∧ 1 ≤ (A.put v).2.1 ∧ (A.put v).2.1 ≤ 4096 ∧ ∀ h, (A.put v).1.get h = if h = (A.put v).2.1 then some v else A.get h) := by
 unfold Ar.put
 have hm := ok.most
 have hcf := A.count_free ok
 have hl := ok.len_le
 have hr := ok.room
 by_cases h : A.many = A.room
 ·rw [if_pos h]; exact .inl ⟨rfl, rfl⟩
 ·rw [if_neg h]
  right
  cases hf : A.free with
  | cons h' fs =>
   have hmem := (ok.mem h').1 (by rw [hf]; exact .head _)
   exact ⟨rfl, hmem.1, by simp only []; omega, fun i => Ar.get_set hmem.2.1⟩
  | nil =>
   rw [hf] at hcf
   simp only [List.length_nil] at hcf
   exact ⟨rfl, by simp only []; omega, by simp only []; omega, fun i => Ar.get_putNew i⟩
def Sd {α : Type} (C : α → Value) (z : List Value) (H : Heap) (s : Nat) (col : Nat → Nat) : Prop :=
 ∃ (A : Ar) (vs : List α) (L : List (List Int)) (p g q : Nat) (TR : Nat → Prop) (Bk : Option Nat) (vk : Value) (TA : Nat → Prop) (va : Value) (TW : Nat → Prop) (vw : Value),
  SdP C z H s col A (rfOf A) vs L L p g q TR Bk vk TA va TW vw ∧ Kept C A vs ∧ vs.length ≤ 5000 ∧ L.length ≤ 30 ∧ ∀ (j : Nat) xs, L[j]? = some xs → xs.length ≤ 5000
theorem Sd.grow {α : Type} {C : α → Value} {z : List Value} {H H' : Heap} {s : Nat} {col : Nat → Nat} {S : Nat → Prop} (h : Sd C z H s col) (hf : Fr S H H') (hS : ∀ b, col b ≠ 0 → ¬ S b) : Sd C z H' s col := by
 obtain ⟨A, vs, L, p, g, q, TR, Bk, vk, TA, va, TW, vw, P, h⟩ := h
 exact ⟨A, vs, L, p, g, q, TR, Bk, vk, TA, va, TW, vw, P.grow hf hS, h⟩
theorem Sd.lt {α : Type} {C : α → Value} {z : List Value} {H : Heap} {s : Nat} {col : Nat → Nat} (h : Sd C z H s col) {b : Nat} (hb : col b ≠ 0) : b < H.size := by
 obtain ⟨A, vs, L, p, g, q, TR, Bk, vk, TA, va, TW, vw, P, h⟩ := h
 exact P.lt b hb
end Go.Hp
namespace Go.Sp
open Go Go.Hp
set_option linter.unusedVariables false

def w64 (x : Int) : Int := IntKind.i64.wrap x
def or64 (a b : Int) : Int := bitOr .i64 a b
structure Item where
  value : Int
  counts : Bool
  flags : Int
  deriving DecidableEq
structure Agg where
  count : Int
  sum : Int
  least : Int
  most : Int
  flags : Int
  deriving DecidableEq
def Item.cells (x : Item) : List Value := [.int .i64 x.value, .bool x.counts, .int .i64 x.flags]
def Item.val (x : Item) : Value := .agg #[.int .i64 x.value, .bool x.counts, .int .i64 x.flags]
def Agg.val (a : Agg) : Value := .agg #[.int .i64 a.count, .int .i64 a.sum, .int .i64 a.least, .int .i64 a.most, .int .i64 a.flags]
def Agg.zero : Agg := ⟨0, 0, 0, 0, 0⟩
def Item.zero : Item := ⟨0, false, 0⟩
def minI (a b : Int) : Int := if b < a then b else a
def maxI (a b : Int) : Int := if b > a then b else a
def plusA (a b : Agg) : Agg where
  count := w64 (a.count + b.count)
  sum := w64 (a.sum + b.sum)
  least := if a.count = 0 then b.least else if b.count = 0 then a.least else minI a.least b.least
  most := if a.count = 0 then b.most else if b.count = 0 then a.most else maxI a.most b.most
  flags := or64 a.flags b.flags
def ownA (x : Item) : Agg := if x.counts then ⟨1, x.value, x.value, x.value, x.flags⟩ else ⟨0, 0, 0, 0, x.flags⟩
structure Rec where
  item : Item
  up : Nat
  l : Nat
  r : Nat
  many : Int
  total : Agg
def Rec.cells (r : Rec) : List Value :=
  [.int .i64 r.item.value, .bool r.item.counts, .int .i64 r.item.flags, .int .i64 r.up, .int .i64 r.l, .int .i64 r.r, .int .i64 r.many,
    .int .i64 r.total.count, .int .i64 r.total.sum, .int .i64 r.total.least, .int .i64 r.total.most, .int .i64 r.total.flags]
def Rec.kid (r : Rec) (s : Nat) : Nat := if s = 0 then r.l else r.r
def Rec.setKid (r : Rec) (s x : Nat) : Rec := if s = 0 then { r with l := x } else { r with r := x }
abbrev Nodes := Nat → Rec
def upd (N : Nodes) (h : Nat) (r : Rec) : Nodes := fun i => if i = h then r else N i
theorem upd_same (N : Nodes) (h : Nat) (r : Rec) : upd N h r h = r := if_pos rfl
theorem upd_ne (N : Nodes) {h i : Nat} (r : Rec) (hi : i ≠ h) : upd N h r i = N i := if_neg hi
def belowN (N : Nodes) (k : Nat) : Int × Agg := if k = 0 then (0, Agg.zero) else ((N k).many, (N k).total)
def pullR (N : Nodes) (h : Nat) : Rec :=
  { N h with many := w64 (w64 ((belowN N (N h).l).1 + 1) + (belowN N (N h).r).1), total := plusA (plusA (belowN N (N h).l).2 (ownA (N h).item)) (belowN N (N h).r).2 }
def pullN (N : Nodes) (h : Nat) : Nodes := upd N h (pullR N h)
def hangN (N : Nodes) (up s h : Nat) : Nodes :=
  if h = 0 then upd N up ((N up).setKid s h) else upd (upd N up ((N up).setKid s h)) h { upd N up ((N up).setKid s h) h with up := up }
def sideN (N : Nodes) (up h : Nat) : Nat := if (N up).r = h then 1 else 0
def turn2 (N1 : Nodes) (top up h : Nat) : Nodes := if top = 0 then N1 else upd N1 top ((N1 top).setKid (sideN N1 top up) h)
def setUp (N : Nodes) (h top : Nat) : Nodes := upd N h { N h with up := top }
def turnN (N : Nodes) (h : Nat) : Nodes :=
  pullN (pullN (hangN (setUp (turn2 (hangN N (N h).up (sideN N (N h).up h) ((N h).kid (1 - sideN N (N h).up h))) (N (N h).up).up (N h).up h) h (N (N h).up).up) h (1 - sideN N (N h).up h) (N h).up) (N h).up) h
def stepN (N : Nodes) (h : Nat) : Nodes :=
  if (N (N h).up).up = 0 then turnN N h
  else if sideN N (N (N h).up).up (N h).up = sideN N (N h).up h then turnN (turnN N (N h).up) h
  else turnN (turnN N h) h
def first (N : Nodes) (k : Nat) : Nodes := if sideN N (N (N k).up).up (N k).up = sideN N (N k).up k then turnN N (N k).up else turnN N k
def stepOk (N : Nodes) (k : Nat) : Prop := (N k).up ≠ 0 ∧ ((N (N k).up).up ≠ 0 → (first N k k).up ≠ 0)
structure Cl (U : Nat → Prop) (N : Nodes) : Prop where
  up : ∀ h, U h → (N h).up = 0 ∨ U (N h).up
  l : ∀ h, U h → (N h).l = 0 ∨ U (N h).l
  r : ∀ h, U h → (N h).r = 0 ∨ U (N h).r
theorem Cl.upd {U : Nat → Prop} {N : Nodes} (h : Cl U N) {i : Nat} {r : Rec} (h1 : r.up = 0 ∨ U r.up) (h2 : r.l = 0 ∨ U r.l) (h3 : r.r = 0 ∨ U r.r) : Cl U (upd N i r) where
  up := fun k hk => by unfold Sp.upd; by_cases e : k = i <;> simp only [e, if_true, if_false]; · exact h1
                       exact h.up k hk
  l := fun k hk => by unfold Sp.upd; by_cases e : k = i <;> simp only [e, if_true, if_false]; · exact h2
                      exact h.l k hk
  r := fun k hk => by unfold Sp.upd; by_cases e : k = i <;> simp only [e, if_true, if_false]; · exact h3
                      exact h.r k hk
theorem Cl.kid {U : Nat → Prop} {N : Nodes} (h : Cl U N) {k s : Nat} (hk : U k) : (N k).kid s = 0 ∨ U ((N k).kid s) := by
  unfold Rec.kid
  split
  · exact h.l k hk
  · exact h.r k hk
theorem Cl.pull {U : Nat → Prop} {N : Nodes} (h : Cl U N) {k : Nat} (hk : U k) : Cl U (pullN N k) := h.upd (h.up k hk) (h.l k hk) (h.r k hk)
theorem Cl.setKid {U : Nat → Prop} {N : Nodes} (h : Cl U N) {k s x : Nat} (hk : U k) (hx : x = 0 ∨ U x) : Cl U (Sp.upd N k ((N k).setKid s x)) := by
  unfold Rec.setKid
  split
  · exact h.upd (h.up k hk) hx (h.r k hk)
  · exact h.upd (h.up k hk) (h.l k hk) hx
theorem Cl.setUp {U : Nat → Prop} {N : Nodes} (h : Cl U N) {k x : Nat} (hk : U k) (hx : x = 0 ∨ U x) : Cl U (setUp N k x) := h.upd hx (h.l k hk) (h.r k hk)
theorem Cl.hang {U : Nat → Prop} {N : Nodes} (h : Cl U N) {k s x : Nat} (hk : U k) (hx : x = 0 ∨ U x) : Cl U (hangN N k s x) := by
  unfold hangN
  split
  · exact h.setKid hk hx
  · rename_i h0
    have hU := hx.resolve_left h0
    have h' := h.setKid (s := s) hk hx
    exact h'.upd (.inr hk) (h'.l x hU) (h'.r x hU)
theorem Cl.turn2 {U : Nat → Prop} {N : Nodes} (h : Cl U N) {top up k : Nat} (ht : top = 0 ∨ U top) (hk : U k) : Cl U (turn2 N top up k) := by
  unfold Sp.turn2
  split
  · exact h
  · rename_i h0
    exact h.setKid (ht.resolve_left h0) (.inr hk)
theorem Cl.turn {U : Nat → Prop} {N : Nodes} (h : Cl U N) {k : Nat} (hk : U k) (hu : U (N k).up) : Cl U (turnN N k) := by
  unfold turnN
  refine Cl.pull (Cl.pull (Cl.hang (Cl.setUp (Cl.turn2 (h.hang hu (h.kid hk)) (h.up _ hu) hk) hk (h.up _ hu)) hk (.inr hu)) hu) hk
end Go.Sp
namespace Go.Proofs.Ytndkbhlfbeiniaa
open Go Go.Hp Go.Sp
set_option linter.all false
set_option maxRecDepth 100000

theorem plus_ok {H : Heap} {a b : Agg} {K : Value → Heap → Prop} (hk : ∀ H', Fr (fun _ => False) H H' → K (plusA a b).val H') : CallsH Try.prog 68 #[a.val, b.val] H K := by
 refine call68 (by simp) ?_
 simp only [Try.f68, Option.getD_some]
 repeat' (first|(with_reducible first|refine jA ?_|(refine hK _ _ ?_;clear hK K)|refine jJ fun K hK=>?_|refine jK ?_|refine jL ?_|refine jM ?_|refine jN ?_|refine jO ?_|refine jP ?_|refine jQ ?_|(refine jB ?_;clear hK K)|(refine jC ?_;clear hK K)|refine jD ?_|refine jE ?_|refine jG ?_|refine jH ?_|refine jI ?_)|((with_reducible refine jR ?hq ?_);case hq=>rfl)|((first|(with_reducible first|refine jS fun K hK=>?_|refine jT ?_|refine jU ?_)|((with_reducible refine jV ?hy fun K hK=>?_);case hy=>rfl));simp only [go_sem, Nat.reduceEqDiff, Nat.reduceAdd, Nat.reduceMul, Nat.reduceLeDiff, Nat.reduceLT, Int.reduceLT, Int.reduceLE, Int.reduceEq, Int.reduceNeg, Int.reduceToNat, Nat.reducePow, reduceIte, reduceCtorEq, Agg.val, hcell_push, hcell_top, okW_push, okW_top, hcell_hset_ne, hcell_hset_off, hcell_hset_eq, okW_hset, hset_size, Array.size_push, Nat.lt_add_one, ne_add_one, add_one_ne, Nat.add_assoc, add_same, add_lt_same, Nat.reduceEqDiff, lt_add_k, add_k_ne, ne_add_k])|((with_reducible first|refine jW ?hy ?_|refine jY ?hy ?_);case hy=>rfl)|((with_reducible first|refine jX ?hy ?_|refine jZ ?hy ?_);case hy=>rfl)|((with_reducible refine jF ?hy ?_);case hy=>decide))
 by_cases h1 : a.count = 0
 ·have t1 : (a.count == 0) = true := by simp [h1]
  refine x_cond_true (show _ = Value.bool true by rw [← t1]; rfl) ?_
  refine x_drawS [] [0, 1, 2, 3, 4, 5, 6, 7] rfl (by kernel_rfl) (Cells [(H.size + 1, 2, .int .i64 b.least), (H.size + 1, 3, .int .i64 b.most)]) (by simp only [go_sem, Nat.reduceEqDiff, Nat.reduceAdd, Nat.reduceMul, Nat.reduceLeDiff, Nat.reduceLT, Int.reduceLT, Int.reduceLE, Int.reduceEq, Int.reduceNeg, Int.reduceToNat, Nat.reducePow, reduceIte, reduceCtorEq, Cells, and_true, hcell_push, hcell_top, okW_push, okW_top, hcell_hset_ne, hcell_hset_off, hcell_hset_eq, okW_hset, hset_size, Array.size_push, Nat.lt_add_one, ne_add_one, add_one_ne, Nat.add_assoc, add_same, add_lt_same, Nat.reduceEqDiff, lt_add_k, add_k_ne, ne_add_k]) ?_
  repeat' (first|(with_reducible refine xs_nil ?_)|((first|((with_reducible apply xs_rd);case hi=>rfl)|((with_reducible apply xs_guard_yes);(case hi=>rfl);(case hy=>rfl)));(case hr=>rfl);(case h1=>intro H' hS'; (try simp only [Cells, and_true] at hS');simp only [go_sem, Nat.reduceEqDiff, Nat.reduceAdd, Nat.reduceMul, Nat.reduceLeDiff, Nat.reduceLT, Int.reduceLT, Int.reduceLE, Int.reduceEq, Int.reduceNeg, Int.reduceToNat, Nat.reducePow, reduceIte, reduceCtorEq, hcell_push, hcell_top, okW_push, okW_top, hcell_hset_ne, hcell_hset_off, hcell_hset_eq, okW_hset, hset_size, Array.size_push, Nat.lt_add_one, ne_add_one, add_one_ne, Nat.add_assoc, add_same, add_lt_same, Nat.reduceEqDiff, lt_add_k, add_k_ne, ne_add_k, hS']; rfl))|((with_reducible refine xs_tail ?hz ?_);case hz=>rfl)|((with_reducible refine xs_keep ?hz ?_);case hz=>first|(with_reducible assumption)|assumption|(simp only [go_sem, Nat.reduceEqDiff, Nat.reduceAdd, Nat.reduceMul, Nat.reduceLeDiff, Nat.reduceLT, Int.reduceLT, Int.reduceLE, Int.reduceEq, Int.reduceNeg, Int.reduceToNat, Nat.reducePow, reduceIte, reduceCtorEq, Cells, and_true, hcell_push, hcell_top, okW_push, okW_top, hcell_hset_ne, hcell_hset_off, hcell_hset_eq, okW_hset, hset_size, Array.size_push, Nat.lt_add_one, ne_add_one, add_one_ne, Nat.add_assoc, add_same, add_lt_same, Nat.reduceEqDiff, lt_add_k, add_k_ne, ne_add_k]))|((with_reducible apply xs_guard_no);(case hi=>rfl);(case hy=>rfl);(case hS=>assumption))|((first|((with_reducible apply xs_op);(case hi=>rfl))|((with_reducible apply xs_op_yes);(case hi=>rfl);(case hy=>rfl)));(case hr=>rfl);intro K hK; simp only [go_sem, Nat.reduceEqDiff, Nat.reduceAdd, Nat.reduceMul, Nat.reduceLeDiff, Nat.reduceLT, Int.reduceLT, Int.reduceLE, Int.reduceEq, Int.reduceNeg, Int.reduceToNat, Nat.reducePow, reduceIte, reduceCtorEq, hcell_push, hcell_top, okW_push, okW_top, hcell_hset_ne, hcell_hset_off, hcell_hset_eq, okW_hset, hset_size, Array.size_push, Nat.lt_add_one, ne_add_one, add_one_ne, Nat.add_assoc, add_same, add_lt_same, Nat.reduceEqDiff, lt_add_k, add_k_ne, ne_add_k])|(with_reducible first|refine jA ?_|(refine hK _ _ ?_;clear hK K)|refine jJ fun K hK=>?_|refine jK ?_|refine jL ?_|refine jM ?_|refine jN ?_|refine jO ?_|refine jP ?_|refine jQ ?_|(refine jB ?_;clear hK K)|(refine jC ?_;clear hK K)|refine jD ?_|refine jE ?_|refine jG ?_|refine jH ?_|refine jI ?_)|((with_reducible refine jR ?hq ?_);case hq=>rfl)|((first|(with_reducible first|refine jS fun K hK=>?_|refine jT ?_|refine jU ?_)|((with_reducible refine jV ?hy fun K hK=>?_);case hy=>rfl));simp only [go_sem, Nat.reduceEqDiff, Nat.reduceAdd, Nat.reduceMul, Nat.reduceLeDiff, Nat.reduceLT, Int.reduceLT, Int.reduceLE, Int.reduceEq, Int.reduceNeg, Int.reduceToNat, Nat.reducePow, reduceIte, reduceCtorEq, hcell_push, hcell_top, okW_push, okW_top, hcell_hset_ne, hcell_hset_off, hcell_hset_eq, okW_hset, hset_size, Array.size_push, Nat.lt_add_one, ne_add_one, add_one_ne, Nat.add_assoc, add_same, add_lt_same, Nat.reduceEqDiff, lt_add_k, add_k_ne, ne_add_k])|((with_reducible first|refine jW ?hy ?_|refine jY ?hy ?_);case hy=>rfl)|((with_reducible first|refine jX ?hy ?_|refine jZ ?hy ?_);case hy=>rfl)|((with_reducible refine jF ?hy ?_);case hy=>decide))
  have e : (plusA a b).val = .agg #[.int .i64 (IntKind.i64.wrap (a.count + b.count)), .int .i64 (IntKind.i64.wrap (a.sum + b.sum)), .int .i64 b.least, .int .i64 b.most, .int .i64 (or64 a.flags b.flags)] := by
   unfold plusA Agg.val; simp only [h1, if_true]; rfl
  rw [e] at hk
  exact hk _ (by ((repeat (first | refine Fr.set ?_ (by simp) _ | refine Fr.push ?_ _)); exact Fr.refl _ _))
 ·have t1 : (a.count == 0) = false := by simp [h1]
  refine x_cond_false (show _ = Value.bool false by rw [← t1]; rfl) ?_
  by_cases h2 : b.count = 0
  ·have t2 : (b.count == 0) = true := by simp [h2]
   repeat' (first|(with_reducible first|refine jA ?_|(refine hK _ _ ?_;clear hK K)|refine jJ fun K hK=>?_|refine jK ?_|refine jL ?_|refine jM ?_|refine jN ?_|refine jO ?_|refine jP ?_|refine jQ ?_|(refine jB ?_;clear hK K)|(refine jC ?_;clear hK K)|refine jD ?_|refine jE ?_|refine jG ?_|refine jH ?_|refine jI ?_)|((with_reducible refine jR ?hq ?_);case hq=>rfl)|((first|(with_reducible first|refine jS fun K hK=>?_|refine jT ?_|refine jU ?_)|((with_reducible refine jV ?hy fun K hK=>?_);case hy=>rfl));simp only [go_sem, Nat.reduceEqDiff, Nat.reduceAdd, Nat.reduceMul, Nat.reduceLeDiff, Nat.reduceLT, Int.reduceLT, Int.reduceLE, Int.reduceEq, Int.reduceNeg, Int.reduceToNat, Nat.reducePow, reduceIte, reduceCtorEq, t2, hcell_push, hcell_top, okW_push, okW_top, hcell_hset_ne, hcell_hset_off, hcell_hset_eq, okW_hset, hset_size, Array.size_push, Nat.lt_add_one, ne_add_one, add_one_ne, Nat.add_assoc, add_same, add_lt_same, Nat.reduceEqDiff, lt_add_k, add_k_ne, ne_add_k])|((with_reducible first|refine jW ?hy ?_|refine jY ?hy ?_);case hy=>rfl)|((with_reducible first|refine jX ?hy ?_|refine jZ ?hy ?_);case hy=>rfl)|((with_reducible refine jF ?hy ?_);case hy=>decide))
   refine x_drawS [] [0, 1, 2, 3, 4, 5, 6, 7] rfl (by kernel_rfl) (Cells [(H.size, 2, .int .i64 a.least), (H.size, 3, .int .i64 a.most)]) (by simp only [go_sem, Nat.reduceEqDiff, Nat.reduceAdd, Nat.reduceMul, Nat.reduceLeDiff, Nat.reduceLT, Int.reduceLT, Int.reduceLE, Int.reduceEq, Int.reduceNeg, Int.reduceToNat, Nat.reducePow, reduceIte, reduceCtorEq, Cells, and_true, hcell_push, hcell_top, okW_push, okW_top, hcell_hset_ne, hcell_hset_off, hcell_hset_eq, okW_hset, hset_size, Array.size_push, Nat.lt_add_one, ne_add_one, add_one_ne, Nat.add_assoc, add_same, add_lt_same, Nat.reduceEqDiff, lt_add_k, add_k_ne, ne_add_k]) ?_
   repeat' (first|(with_reducible refine xs_nil ?_)|((first|((with_reducible apply xs_rd);case hi=>rfl)|((with_reducible apply xs_guard_yes);(case hi=>rfl);(case hy=>rfl)));(case hr=>rfl);(case h1=>intro H' hS'; (try simp only [Cells, and_true] at hS');simp only [go_sem, Nat.reduceEqDiff, Nat.reduceAdd, Nat.reduceMul, Nat.reduceLeDiff, Nat.reduceLT, Int.reduceLT, Int.reduceLE, Int.reduceEq, Int.reduceNeg, Int.reduceToNat, Nat.reducePow, reduceIte, reduceCtorEq, hcell_push, hcell_top, okW_push, okW_top, hcell_hset_ne, hcell_hset_off, hcell_hset_eq, okW_hset, hset_size, Array.size_push, Nat.lt_add_one, ne_add_one, add_one_ne, Nat.add_assoc, add_same, add_lt_same, Nat.reduceEqDiff, lt_add_k, add_k_ne, ne_add_k, hS']; rfl))|((with_reducible refine xs_tail ?hz ?_);case hz=>rfl)|((with_reducible refine xs_keep ?hz ?_);case hz=>first|(with_reducible assumption)|assumption|(simp only [go_sem, Nat.reduceEqDiff, Nat.reduceAdd, Nat.reduceMul, Nat.reduceLeDiff, Nat.reduceLT, Int.reduceLT, Int.reduceLE, Int.reduceEq, Int.reduceNeg, Int.reduceToNat, Nat.reducePow, reduceIte, reduceCtorEq, Cells, and_true, hcell_push, hcell_top, okW_push, okW_top, hcell_hset_ne, hcell_hset_off, hcell_hset_eq, okW_hset, hset_size, Array.size_push, Nat.lt_add_one, ne_add_one, add_one_ne, Nat.add_assoc, add_same, add_lt_same, Nat.reduceEqDiff, lt_add_k, add_k_ne, ne_add_k]))|((with_reducible apply xs_guard_no);(case hi=>rfl);(case hy=>rfl);(case hS=>assumption))|((first|((with_reducible apply xs_op);(case hi=>rfl))|((with_reducible apply xs_op_yes);(case hi=>rfl);(case hy=>rfl)));(case hr=>rfl);intro K hK; simp only [go_sem, Nat.reduceEqDiff, Nat.reduceAdd, Nat.reduceMul, Nat.reduceLeDiff, Nat.reduceLT, Int.reduceLT, Int.reduceLE, Int.reduceEq, Int.reduceNeg, Int.reduceToNat, Nat.reducePow, reduceIte, reduceCtorEq, hcell_push, hcell_top, okW_push, okW_top, hcell_hset_ne, hcell_hset_off, hcell_hset_eq, okW_hset, hset_size, Array.size_push, Nat.lt_add_one, ne_add_one, add_one_ne, Nat.add_assoc, add_same, add_lt_same, Nat.reduceEqDiff, lt_add_k, add_k_ne, ne_add_k])|(with_reducible first|refine jA ?_|(refine hK _ _ ?_;clear hK K)|refine jJ fun K hK=>?_|refine jK ?_|refine jL ?_|refine jM ?_|refine jN ?_|refine jO ?_|refine jP ?_|refine jQ ?_|(refine jB ?_;clear hK K)|(refine jC ?_;clear hK K)|refine jD ?_|refine jE ?_|refine jG ?_|refine jH ?_|refine jI ?_)|((with_reducible refine jR ?hq ?_);case hq=>rfl)|((first|(with_reducible first|refine jS fun K hK=>?_|refine jT ?_|refine jU ?_)|((with_reducible refine jV ?hy fun K hK=>?_);case hy=>rfl));simp only [go_sem, Nat.reduceEqDiff, Nat.reduceAdd, Nat.reduceMul, Nat.reduceLeDiff, Nat.reduceLT, Int.reduceLT, Int.reduceLE, Int.reduceEq, Int.reduceNeg, Int.reduceToNat, Nat.reducePow, reduceIte, reduceCtorEq, hcell_push, hcell_top, okW_push, okW_top, hcell_hset_ne, hcell_hset_off, hcell_hset_eq, okW_hset, hset_size, Array.size_push, Nat.lt_add_one, ne_add_one, add_one_ne, Nat.add_assoc, add_same, add_lt_same, Nat.reduceEqDiff, lt_add_k, add_k_ne, ne_add_k])|((with_reducible first|refine jW ?hy ?_|refine jY ?hy ?_);case hy=>rfl)|((with_reducible first|refine jX ?hy ?_|refine jZ ?hy ?_);case hy=>rfl)|((with_reducible refine jF ?hy ?_);case hy=>decide))
   have e : (plusA a b).val = .agg #[.int .i64 (IntKind.i64.wrap (a.count + b.count)), .int .i64 (IntKind.i64.wrap (a.sum + b.sum)), .int .i64 a.least, .int .i64 a.most, .int .i64 (or64 a.flags b.flags)] := by
    unfold plusA Agg.val; simp only [h1, h2, if_true, if_false]; rfl
   rw [e] at hk
   exact hk _ (by ((repeat (first | refine Fr.set ?_ (by simp) _ | refine Fr.push ?_ _)); exact Fr.refl _ _))
  ·have t2 : (b.count == 0) = false := by simp [h2]
   repeat' (first|(with_reducible first|refine jA ?_|(refine hK _ _ ?_;clear hK K)|refine jJ fun K hK=>?_|refine jK ?_|refine jL ?_|refine jM ?_|refine jN ?_|refine jO ?_|refine jP ?_|refine jQ ?_|(refine jB ?_;clear hK K)|(refine jC ?_;clear hK K)|refine jD ?_|refine jE ?_|refine jG ?_|refine jH ?_|refine jI ?_)|((with_reducible refine jR ?hq ?_);case hq=>rfl)|((first|(with_reducible first|refine jS fun K hK=>?_|refine jT ?_|refine jU ?_)|((with_reducible refine jV ?hy fun K hK=>?_);case hy=>rfl));simp only [go_sem, Nat.reduceEqDiff, Nat.reduceAdd, Nat.reduceMul, Nat.reduceLeDiff, Nat.reduceLT, Int.reduceLT, Int.reduceLE, Int.reduceEq, Int.reduceNeg, Int.reduceToNat, Nat.reducePow, reduceIte, reduceCtorEq, t2, hcell_push, hcell_top, okW_push, okW_top, hcell_hset_ne, hcell_hset_off, hcell_hset_eq, okW_hset, hset_size, Array.size_push, Nat.lt_add_one, ne_add_one, add_one_ne, Nat.add_assoc, add_same, add_lt_same, Nat.reduceEqDiff, lt_add_k, add_k_ne, ne_add_k])|((with_reducible first|refine jW ?hy ?_|refine jY ?hy ?_);case hy=>rfl)|((with_reducible first|refine jX ?hy ?_|refine jZ ?hy ?_);case hy=>rfl)|((with_reducible refine jF ?hy ?_);case hy=>decide))
   refine x_drawS [] [0, 1, 2, 3, 4, 5, 6, 7, 8, 9, 10, 11, 12, 13] rfl (by kernel_rfl) (Cells [(H.size, 2, .int .i64 a.least), (H.size, 3, .int .i64 a.most), (H.size + 1, 2, .int .i64 b.least), (H.size + 1, 3, .int .i64 b.most)]) (by simp only [go_sem, Nat.reduceEqDiff, Nat.reduceAdd, Nat.reduceMul, Nat.reduceLeDiff, Nat.reduceLT, Int.reduceLT, Int.reduceLE, Int.reduceEq, Int.reduceNeg, Int.reduceToNat, Nat.reducePow, reduceIte, reduceCtorEq, Cells, and_true, hcell_push, hcell_top, okW_push, okW_top, hcell_hset_ne, hcell_hset_off, hcell_hset_eq, okW_hset, hset_size, Array.size_push, Nat.lt_add_one, ne_add_one, add_one_ne, Nat.add_assoc, add_same, add_lt_same, Nat.reduceEqDiff, lt_add_k, add_k_ne, ne_add_k]) ?_
   repeat' (first|(with_reducible refine xs_nil ?_)|((first|((with_reducible apply xs_rd);case hi=>rfl)|((with_reducible apply xs_guard_yes);(case hi=>rfl);(case hy=>rfl)));(case hr=>rfl);(case h1=>intro H' hS'; (try simp only [Cells, and_true] at hS');simp only [go_sem, Nat.reduceEqDiff, Nat.reduceAdd, Nat.reduceMul, Nat.reduceLeDiff, Nat.reduceLT, Int.reduceLT, Int.reduceLE, Int.reduceEq, Int.reduceNeg, Int.reduceToNat, Nat.reducePow, reduceIte, reduceCtorEq, hcell_push, hcell_top, okW_push, okW_top, hcell_hset_ne, hcell_hset_off, hcell_hset_eq, okW_hset, hset_size, Array.size_push, Nat.lt_add_one, ne_add_one, add_one_ne, Nat.add_assoc, add_same, add_lt_same, Nat.reduceEqDiff, lt_add_k, add_k_ne, ne_add_k, hS']; rfl))|((with_reducible refine xs_tail ?hz ?_);case hz=>rfl)|((with_reducible refine xs_keep ?hz ?_);case hz=>first|(with_reducible assumption)|assumption|(simp only [go_sem, Nat.reduceEqDiff, Nat.reduceAdd, Nat.reduceMul, Nat.reduceLeDiff, Nat.reduceLT, Int.reduceLT, Int.reduceLE, Int.reduceEq, Int.reduceNeg, Int.reduceToNat, Nat.reducePow, reduceIte, reduceCtorEq, Cells, and_true, hcell_push, hcell_top, okW_push, okW_top, hcell_hset_ne, hcell_hset_off, hcell_hset_eq, okW_hset, hset_size, Array.size_push, Nat.lt_add_one, ne_add_one, add_one_ne, Nat.add_assoc, add_same, add_lt_same, Nat.reduceEqDiff, lt_add_k, add_k_ne, ne_add_k]))|((with_reducible apply xs_guard_no);(case hi=>rfl);(case hy=>rfl);(case hS=>assumption))|((first|((with_reducible apply xs_op);(case hi=>rfl))|((with_reducible apply xs_op_yes);(case hi=>rfl);(case hy=>rfl)));(case hr=>rfl);intro K hK; simp only [go_sem, Nat.reduceEqDiff, Nat.reduceAdd, Nat.reduceMul, Nat.reduceLeDiff, Nat.reduceLT, Int.reduceLT, Int.reduceLE, Int.reduceEq, Int.reduceNeg, Int.reduceToNat, Nat.reducePow, reduceIte, reduceCtorEq, hcell_push, hcell_top, okW_push, okW_top, hcell_hset_ne, hcell_hset_off, hcell_hset_eq, okW_hset, hset_size, Array.size_push, Nat.lt_add_one, ne_add_one, add_one_ne, Nat.add_assoc, add_same, add_lt_same, Nat.reduceEqDiff, lt_add_k, add_k_ne, ne_add_k])|(with_reducible first|refine jA ?_|(refine hK _ _ ?_;clear hK K)|refine jJ fun K hK=>?_|refine jK ?_|refine jL ?_|refine jM ?_|refine jN ?_|refine jO ?_|refine jP ?_|refine jQ ?_|(refine jB ?_;clear hK K)|(refine jC ?_;clear hK K)|refine jD ?_|refine jE ?_|refine jG ?_|refine jH ?_|refine jI ?_)|((with_reducible refine jR ?hq ?_);case hq=>rfl)|((first|(with_reducible first|refine jS fun K hK=>?_|refine jT ?_|refine jU ?_)|((with_reducible refine jV ?hy fun K hK=>?_);case hy=>rfl));simp only [go_sem, Nat.reduceEqDiff, Nat.reduceAdd, Nat.reduceMul, Nat.reduceLeDiff, Nat.reduceLT, Int.reduceLT, Int.reduceLE, Int.reduceEq, Int.reduceNeg, Int.reduceToNat, Nat.reducePow, reduceIte, reduceCtorEq, hcell_push, hcell_top, okW_push, okW_top, hcell_hset_ne, hcell_hset_off, hcell_hset_eq, okW_hset, hset_size, Array.size_push, Nat.lt_add_one, ne_add_one, add_one_ne, Nat.add_assoc, add_same, add_lt_same, Nat.reduceEqDiff, lt_add_k, add_k_ne, ne_add_k])|((with_reducible first|refine jW ?hy ?_|refine jY ?hy ?_);case hy=>rfl)|((with_reducible first|refine jX ?hy ?_|refine jZ ?hy ?_);case hy=>rfl)|((with_reducible refine jF ?hy ?_);case hy=>decide))
   have e : (plusA a b).val = .agg #[.int .i64 (IntKind.i64.wrap (a.count + b.count)), .int .i64 (IntKind.i64.wrap (a.sum + b.sum)), .int .i64 (minI a.least b.least), .int .i64 (maxI a.most b.most), .int .i64 (or64 a.flags b.flags)] := by
    unfold plusA Agg.val; simp only [h1, h2, if_false]; rfl
   rw [e] at hk
   exact hk _ (by ((repeat (first | refine Fr.set ?_ (by simp) _ | refine Fr.push ?_ _)); exact Fr.refl _ _))
end Go.Proofs.Ytndkbhlfbeiniaa
