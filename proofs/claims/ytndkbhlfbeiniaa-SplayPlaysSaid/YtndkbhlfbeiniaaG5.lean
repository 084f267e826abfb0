/-
  The document's forest: what is asked: Rank, Same, At, All.
  The document's forest: Flagged, Sum.
  The document's forest: Set, Flagged.
  The document's forest: New.
  The document's forest: Free.
  The document's forest: Make.
-/
import Derived.Test.YtndkbhlfbeiniaaG4
import Derived.Test.YtndkbhlfbeiniaaG2
import Derived.Test.YtndkbhlfbeiniaaG3
namespace Go.Proofs.Ytndkbhlfbeiniaa
open Go Go.Hp Go.Sp
set_option linter.all false
set_option maxRecDepth 100000
set_option maxHeartbeats 1600000
theorem idxOf_le_of : ∀ (xs : List Int) (i : Nat) (h : Int), xs[i]? = some h → xs.idxOf h ≤ i
 | [], i, h, e => by cases e
 | y :: xs, 0, h, e => by
  obtain rfl := Option.some.inj e
  simp
 | y :: xs, i + 1, h, e => by
  rw [List.idxOf_cons]
  have ih := idxOf_le_of xs i h (by simpa using e)
  cases hy : (y == h)
  ·simp; exact ih
  ·simp
section
variable {H : Heap} {x : Nat} {col : Nat → Nat} {R : Rf} {its : List Sp.Item} {inn : List Int} {L : List (List Int)} {q : Nat} {TR : Nat → Prop} {Bi : Option Nat} {vi : Value} {Bn : Option Nat} {vn : Value} {TL : Nat → Prop} {vl : Value} {K : Value → Heap → Prop}
theorem rg_rank_none {i : Int} (hG : RgP H x col R its inn L q TR Bi vi Bn vn TL vl) (hi : R.hasB i = false) (fin : K (.tuple #[.int .i64 0, .int .i64 31]) H) :
  CallsH Try.prog 58 #[.pointer (some ⟨x, 0, none⟩), .int .i64 i] H K := by
 refine call58 (by simp) ?_
 simp only [Try.f58, Option.getD_some]
 repeat' (first|(with_reducible first|refine jA ?_|(refine hK _ _ ?_;clear hK K)|refine jJ fun K hK=>?_|refine jK ?_|refine jL ?_|refine jM ?_|refine jN ?_|refine jO ?_|refine jP ?_|refine jQ ?_|(refine jB ?_;clear hK K)|(refine jC ?_;clear hK K)|refine jD ?_|refine jE ?_|refine jG ?_|refine jH ?_|refine jI ?_)|((with_reducible refine jR ?hq ?_);case hq=>rfl)|((first|(with_reducible first|refine jS fun K hK=>?_|refine jT ?_|refine jU ?_)|((with_reducible refine jV ?hy fun K hK=>?_);case hy=>rfl));simp only [go_sem, Nat.reduceEqDiff, Nat.reduceAdd, Nat.reduceMul, Nat.reduceLeDiff, Nat.reduceLT, Int.reduceLT, Int.reduceLE, Int.reduceEq, Int.reduceNeg, Int.reduceToNat, Nat.reducePow, reduceIte, reduceCtorEq])|((with_reducible first|refine jW ?hy ?_|refine jY ?hy ?_);case hy=>rfl)|((with_reducible first|refine jX ?hy ?_|refine jZ ?hy ?_);case hy=>rfl)|((with_reducible refine jF ?hy ?_);case hy=>decide))
 refine rg_has hG ?_
 rw [hi]
 repeat' (first|(with_reducible first|refine jA ?_|(refine hK _ _ ?_;clear hK K)|refine jJ fun K hK=>?_|refine jK ?_|refine jL ?_|refine jM ?_|refine jN ?_|refine jO ?_|refine jP ?_|refine jQ ?_|(refine jB ?_;clear hK K)|(refine jC ?_;clear hK K)|refine jD ?_|refine jE ?_|refine jG ?_|refine jH ?_|refine jI ?_)|((with_reducible refine jR ?hq ?_);case hq=>rfl)|((first|(with_reducible first|refine jS fun K hK=>?_|refine jT ?_|refine jU ?_)|((with_reducible refine jV ?hy fun K hK=>?_);case hy=>rfl));simp only [go_sem, Nat.reduceEqDiff, Nat.reduceAdd, Nat.reduceMul, Nat.reduceLeDiff, Nat.reduceLT, Int.reduceLT, Int.reduceLE, Int.reduceEq, Int.reduceNeg, Int.reduceToNat, Nat.reducePow, reduceIte, reduceCtorEq])|((with_reducible first|refine jW ?hy ?_|refine jY ?hy ?_);case hy=>rfl)|((with_reducible first|refine jX ?hy ?_|refine jZ ?hy ?_);case hy=>rfl)|((with_reducible refine jF ?hy ?_);case hy=>decide))
 exact fin
theorem rg_rank {h n : Nat} {xs : List Int} (hG : RgP H x col R its inn L q TR Bi vi Bn vn TL vl) (hi : R.hasB (h : Nat) = true) (h1 : inn[h]? = some (n : Int)) (h2 : L[n]? = some xs) (hx : (h : Int) ∈ xs) (hxl : xs.length ≤ 1099511627776)
  (fin : K (.tuple #[.int .i64 (xs.idxOf (h : Int) : Nat), .int .i64 0]) H) :
  CallsH Try.prog 58 #[.pointer (some ⟨x, 0, none⟩), .int .i64 (h : Nat)] H K := by
 have hlt := List.idxOf_lt_length_of_mem hx
 refine call58 (by simp) ?_
 simp only [Try.f58, Option.getD_some]
 repeat' (first|(with_reducible first|refine jA ?_|(refine hK _ _ ?_;clear hK K)|refine jJ fun K hK=>?_|refine jK ?_|refine jL ?_|refine jM ?_|refine jN ?_|refine jO ?_|refine jP ?_|refine jQ ?_|(refine jB ?_;clear hK K)|(refine jC ?_;clear hK K)|refine jD ?_|refine jE ?_|refine jG ?_|refine jH ?_|refine jI ?_)|((with_reducible refine jR ?hq ?_);case hq=>rfl)|((first|(with_reducible first|refine jS fun K hK=>?_|refine jT ?_|refine jU ?_)|((with_reducible refine jV ?hy fun K hK=>?_);case hy=>rfl));simp only [go_sem, Nat.reduceEqDiff, Nat.reduceAdd, Nat.reduceMul, Nat.reduceLeDiff, Nat.reduceLT, Int.reduceLT, Int.reduceLE, Int.reduceEq, Int.reduceNeg, Int.reduceToNat, Nat.reducePow, reduceIte, reduceCtorEq])|((with_reducible first|refine jW ?hy ?_|refine jY ?hy ?_);case hy=>rfl)|((with_reducible first|refine jX ?hy ?_|refine jZ ?hy ?_);case hy=>rfl)|((with_reducible refine jF ?hy ?_);case hy=>decide))
 refine rg_has hG ?_
 rw [hi]
 repeat' (first|(with_reducible first|refine jA ?_|(refine hK _ _ ?_;clear hK K)|refine jJ fun K hK=>?_|refine jK ?_|refine jL ?_|refine jM ?_|refine jN ?_|refine jO ?_|refine jP ?_|refine jQ ?_|(refine jB ?_;clear hK K)|(refine jC ?_;clear hK K)|refine jD ?_|refine jE ?_|refine jG ?_|refine jH ?_|refine jI ?_)|((with_reducible refine jR ?hq ?_);case hq=>rfl)|((first|(with_reducible first|refine jS fun K hK=>?_|refine jT ?_|refine jU ?_)|((with_reducible refine jV ?hy fun K hK=>?_);case hy=>rfl));simp only [go_sem, Nat.reduceEqDiff, Nat.reduceAdd, Nat.reduceMul, Nat.reduceLeDiff, Nat.reduceLT, Int.reduceLT, Int.reduceLE, Int.reduceEq, Int.reduceNeg, Int.reduceToNat, Nat.reducePow, reduceIte, reduceCtorEq])|((with_reducible first|refine jW ?hy ?_|refine jY ?hy ?_);case hy=>rfl)|((with_reducible first|refine jX ?hy ?_|refine jZ ?hy ?_);case hy=>rfl)|((with_reducible refine jF ?hy ?_);case hy=>decide))
 refine rg_of hG h1 h2 fun B v hv hB => ?_
 repeat' (first|(with_reducible first|refine jA ?_|(refine hK _ _ ?_;clear hK K)|refine jJ fun K hK=>?_|refine jK ?_|refine jL ?_|refine jM ?_|refine jN ?_|refine jO ?_|refine jP ?_|refine jQ ?_|(refine jB ?_;clear hK K)|(refine jC ?_;clear hK K)|refine jD ?_|refine jE ?_|refine jG ?_|refine jH ?_|refine jI ?_)|((with_reducible refine jR ?hq ?_);case hq=>rfl)|((first|(with_reducible first|refine jS fun K hK=>?_|refine jT ?_|refine jU ?_)|((with_reducible refine jV ?hy fun K hK=>?_);case hy=>rfl));simp only [go_sem, Nat.reduceEqDiff, Nat.reduceAdd, Nat.reduceMul, Nat.reduceLeDiff, Nat.reduceLT, Int.reduceLT, Int.reduceLE, Int.reduceEq, Int.reduceNeg, Int.reduceToNat, Nat.reducePow, reduceIte, reduceCtorEq])|((with_reducible first|refine jW ?hy ?_|refine jY ?hy ?_);case hy=>rfl)|((with_reducible first|refine jX ?hy ?_|refine jZ ?hy ?_);case hy=>rfl)|((with_reducible refine jF ?hy ?_);case hy=>decide))
 refine x_loop (fun m e' H' => ∃ i : Nat, H' = H ∧ e' 7 = .int .i64 (i : Nat) ∧ i ≤ xs.idxOf (h : Int) ∧ m = xs.idxOf (h : Int) - i) (xs.idxOf (h : Int)) ⟨0, rfl, rfl, Nat.zero_le _, rfl⟩ ?_
 rintro m e1 H1 ⟨i, rfl, i7, hil, rfl⟩ hoff
 have i1 := (hoff 1 rfl).trans rfl
 have i6 := (hoff 6 rfl).trans rfl
 clear hoff
 obtain ⟨z, hz⟩ : ∃ z, xs[i]? = some z := ⟨_, List.getElem?_eq_getElem (by omega)⟩
 obtain ⟨g, c, rfl, rfl, cz⟩ := hv.at hz
 have t0 : (i < xs.length) = True := by simp; omega
 by_cases hzh : z = (h : Int)
 ·have t1 : (z != (h : Int)) = false := by simp [hzh]
  have hie : i = xs.idxOf (h : Int) := by
   refine Nat.le_antisymm hil ?_
   exact idxOf_le_of xs i h (by rw [hz, hzh])
  repeat' (first|(with_reducible first|refine jA ?_|(refine hK _ _ ?_;clear hK K)|refine jJ fun K hK=>?_|refine jK ?_|refine jL ?_|refine jM ?_|refine jN ?_|refine jO ?_|refine jP ?_|refine jQ ?_|(refine jB ?_;clear hK K)|(refine jC ?_;clear hK K)|refine jD ?_|refine jE ?_|refine jG ?_|refine jH ?_|refine jI ?_)|((with_reducible refine jR ?hq ?_);case hq=>rfl)|((first|(with_reducible first|refine jS fun K hK=>?_|refine jT ?_|refine jU ?_)|((with_reducible refine jV ?hy fun K hK=>?_);case hy=>rfl));simp only [go_sem, Nat.reduceEqDiff, Nat.reduceAdd, Nat.reduceMul, Nat.reduceLeDiff, Nat.reduceLT, Int.reduceLT, Int.reduceLE, Int.reduceEq, Int.reduceNeg, Int.reduceToNat, Nat.reducePow, reduceIte, reduceCtorEq, i1, i6, i7, t0, cz, t1])|((with_reducible first|refine jW ?hy ?_|refine jY ?hy ?_);case hy=>rfl)|((with_reducible first|refine jX ?hy ?_|refine jZ ?hy ?_);case hy=>rfl)|((with_reducible refine jF ?hy ?_);case hy=>decide))
  rw [hie]
  exact fin
 ·have t1 : (z != (h : Int)) = true := by simp [hzh]
  have hne : i ≠ xs.idxOf (h : Int) := fun e => by
   have h3 := List.getElem_idxOf hlt
   have h4 := (List.getElem?_eq_some_iff.1 hz).2
   subst e
   exact hzh (h4.symm.trans h3)
  have ew : IntKind.i64.wrap ((i : Int) + 1) = ((i + 1 : Nat) : Int) := by rw [wrap_i64] <;> omega
  repeat' (first|(with_reducible first|refine jA ?_|(refine hK _ _ ?_;clear hK K)|refine jJ fun K hK=>?_|refine jK ?_|refine jL ?_|refine jM ?_|refine jN ?_|refine jO ?_|refine jP ?_|refine jQ ?_|(refine jB ?_;clear hK K)|(refine jC ?_;clear hK K)|refine jD ?_|refine jE ?_|refine jG ?_|refine jH ?_|refine jI ?_)|((with_reducible refine jR ?hq ?_);case hq=>rfl)|((first|(with_reducible first|refine jS fun K hK=>?_|refine jT ?_|refine jU ?_)|((with_reducible refine jV ?hy fun K hK=>?_);case hy=>rfl));simp only [go_sem, Nat.reduceEqDiff, Nat.reduceAdd, Nat.reduceMul, Nat.reduceLeDiff, Nat.reduceLT, Int.reduceLT, Int.reduceLE, Int.reduceEq, Int.reduceNeg, Int.reduceToNat, Nat.reducePow, reduceIte, reduceCtorEq, i1, i6, i7, t0, cz, t1, ew])|((with_reducible first|refine jW ?hy ?_|refine jY ?hy ?_);case hy=>rfl)|((with_reducible first|refine jX ?hy ?_|refine jZ ?hy ?_);case hy=>rfl)|((with_reducible refine jF ?hy ?_);case hy=>decide))
  exact loop_normal (m' := xs.idxOf (h : Int) - (i + 1)) (by omega) ⟨i + 1, rfl, rfl, by omega, rfl⟩
theorem rg_same_none {a b : Int} (hG : RgP H x col R its inn L q TR Bi vi Bn vn TL vl) (hi : R.hasB a = false ∨ R.hasB b = false) (fin : K (.tuple #[.bool false, .int .i64 31]) H) :
  CallsH Try.prog 57 #[.pointer (some ⟨x, 0, none⟩), .int .i64 a, .int .i64 b] H K := by
 refine call57 (by simp) ?_
 simp only [Try.f57, Option.getD_some]
 cases ha : R.hasB a with
 | false =>
  repeat' (first|(with_reducible first|refine jA ?_|(refine hK _ _ ?_;clear hK K)|refine jJ fun K hK=>?_|refine jK ?_|refine jL ?_|refine jM ?_|refine jN ?_|refine jO ?_|refine jP ?_|refine jQ ?_|(refine jB ?_;clear hK K)|(refine jC ?_;clear hK K)|refine jD ?_|refine jE ?_|refine jG ?_|refine jH ?_|refine jI ?_)|((with_reducible refine jR ?hq ?_);case hq=>rfl)|((first|(with_reducible first|refine jS fun K hK=>?_|refine jT ?_|refine jU ?_)|((with_reducible refine jV ?hy fun K hK=>?_);case hy=>rfl));simp only [go_sem, Nat.reduceEqDiff, Nat.reduceAdd, Nat.reduceMul, Nat.reduceLeDiff, Nat.reduceLT, Int.reduceLT, Int.reduceLE, Int.reduceEq, Int.reduceNeg, Int.reduceToNat, Nat.reducePow, reduceIte, reduceCtorEq])|((with_reducible first|refine jW ?hy ?_|refine jY ?hy ?_);case hy=>rfl)|((with_reducible first|refine jX ?hy ?_|refine jZ ?hy ?_);case hy=>rfl)|((with_reducible refine jF ?hy ?_);case hy=>decide))
  refine rg_has hG ?_
  rw [ha]
  repeat' (first|(with_reducible first|refine jA ?_|(refine hK _ _ ?_;clear hK K)|refine jJ fun K hK=>?_|refine jK ?_|refine jL ?_|refine jM ?_|refine jN ?_|refine jO ?_|refine jP ?_|refine jQ ?_|(refine jB ?_;clear hK K)|(refine jC ?_;clear hK K)|refine jD ?_|refine jE ?_|refine jG ?_|refine jH ?_|refine jI ?_)|((with_reducible refine jR ?hq ?_);case hq=>rfl)|((first|(with_reducible first|refine jS fun K hK=>?_|refine jT ?_|refine jU ?_)|((with_reducible refine jV ?hy fun K hK=>?_);case hy=>rfl));simp only [go_sem, Nat.reduceEqDiff, Nat.reduceAdd, Nat.reduceMul, Nat.reduceLeDiff, Nat.reduceLT, Int.reduceLT, Int.reduceLE, Int.reduceEq, Int.reduceNeg, Int.reduceToNat, Nat.reducePow, reduceIte, reduceCtorEq])|((with_reducible first|refine jW ?hy ?_|refine jY ?hy ?_);case hy=>rfl)|((with_reducible first|refine jX ?hy ?_|refine jZ ?hy ?_);case hy=>rfl)|((with_reducible refine jF ?hy ?_);case hy=>decide))
  refine rg_has hG ?_
  repeat' (first|(with_reducible first|refine jA ?_|(refine hK _ _ ?_;clear hK K)|refine jJ fun K hK=>?_|refine jK ?_|refine jL ?_|refine jM ?_|refine jN ?_|refine jO ?_|refine jP ?_|refine jQ ?_|(refine jB ?_;clear hK K)|(refine jC ?_;clear hK K)|refine jD ?_|refine jE ?_|refine jG ?_|refine jH ?_|refine jI ?_)|((with_reducible refine jR ?hq ?_);case hq=>rfl)|((first|(with_reducible first|refine jS fun K hK=>?_|refine jT ?_|refine jU ?_)|((with_reducible refine jV ?hy fun K hK=>?_);case hy=>rfl));simp only [go_sem, Nat.reduceEqDiff, Nat.reduceAdd, Nat.reduceMul, Nat.reduceLeDiff, Nat.reduceLT, Int.reduceLT, Int.reduceLE, Int.reduceEq, Int.reduceNeg, Int.reduceToNat, Nat.reducePow, reduceIte, reduceCtorEq])|((with_reducible first|refine jW ?hy ?_|refine jY ?hy ?_);case hy=>rfl)|((with_reducible first|refine jX ?hy ?_|refine jZ ?hy ?_);case hy=>rfl)|((with_reducible refine jF ?hy ?_);case hy=>decide))
  exact fin
 | true =>
  have hb : R.hasB b = false := hi.resolve_left (by rw [ha]; simp)
  repeat' (first|(with_reducible first|refine jA ?_|(refine hK _ _ ?_;clear hK K)|refine jJ fun K hK=>?_|refine jK ?_|refine jL ?_|refine jM ?_|refine jN ?_|refine jO ?_|refine jP ?_|refine jQ ?_|(refine jB ?_;clear hK K)|(refine jC ?_;clear hK K)|refine jD ?_|refine jE ?_|refine jG ?_|refine jH ?_|refine jI ?_)|((with_reducible refine jR ?hq ?_);case hq=>rfl)|((first|(with_reducible first|refine jS fun K hK=>?_|refine jT ?_|refine jU ?_)|((with_reducible refine jV ?hy fun K hK=>?_);case hy=>rfl));simp only [go_sem, Nat.reduceEqDiff, Nat.reduceAdd, Nat.reduceMul, Nat.reduceLeDiff, Nat.reduceLT, Int.reduceLT, Int.reduceLE, Int.reduceEq, Int.reduceNeg, Int.reduceToNat, Nat.reducePow, reduceIte, reduceCtorEq])|((with_reducible first|refine jW ?hy ?_|refine jY ?hy ?_);case hy=>rfl)|((with_reducible first|refine jX ?hy ?_|refine jZ ?hy ?_);case hy=>rfl)|((with_reducible refine jF ?hy ?_);case hy=>decide))
  refine rg_has hG ?_
  rw [ha]
  repeat' (first|(with_reducible first|refine jA ?_|(refine hK _ _ ?_;clear hK K)|refine jJ fun K hK=>?_|refine jK ?_|refine jL ?_|refine jM ?_|refine jN ?_|refine jO ?_|refine jP ?_|refine jQ ?_|(refine jB ?_;clear hK K)|(refine jC ?_;clear hK K)|refine jD ?_|refine jE ?_|refine jG ?_|refine jH ?_|refine jI ?_)|((with_reducible refine jR ?hq ?_);case hq=>rfl)|((first|(with_reducible first|refine jS fun K hK=>?_|refine jT ?_|refine jU ?_)|((with_reducible refine jV ?hy fun K hK=>?_);case hy=>rfl));simp only [go_sem, Nat.reduceEqDiff, Nat.reduceAdd, Nat.reduceMul, Nat.reduceLeDiff, Nat.reduceLT, Int.reduceLT, Int.reduceLE, Int.reduceEq, Int.reduceNeg, Int.reduceToNat, Nat.reducePow, reduceIte, reduceCtorEq])|((with_reducible first|refine jW ?hy ?_|refine jY ?hy ?_);case hy=>rfl)|((with_reducible first|refine jX ?hy ?_|refine jZ ?hy ?_);case hy=>rfl)|((with_reducible refine jF ?hy ?_);case hy=>decide))
  refine rg_has hG ?_
  rw [hb]
  repeat' (first|(with_reducible first|refine jA ?_|(refine hK _ _ ?_;clear hK K)|refine jJ fun K hK=>?_|refine jK ?_|refine jL ?_|refine jM ?_|refine jN ?_|refine jO ?_|refine jP ?_|refine jQ ?_|(refine jB ?_;clear hK K)|(refine jC ?_;clear hK K)|refine jD ?_|refine jE ?_|refine jG ?_|refine jH ?_|refine jI ?_)|((with_reducible refine jR ?hq ?_);case hq=>rfl)|((first|(with_reducible first|refine jS fun K hK=>?_|refine jT ?_|refine jU ?_)|((with_reducible refine jV ?hy fun K hK=>?_);case hy=>rfl));simp only [go_sem, Nat.reduceEqDiff, Nat.reduceAdd, Nat.reduceMul, Nat.reduceLeDiff, Nat.reduceLT, Int.reduceLT, Int.reduceLE, Int.reduceEq, Int.reduceNeg, Int.reduceToNat, Nat.reducePow, reduceIte, reduceCtorEq])|((with_reducible first|refine jW ?hy ?_|refine jY ?hy ?_);case hy=>rfl)|((with_reducible first|refine jX ?hy ?_|refine jZ ?hy ?_);case hy=>rfl)|((with_reducible refine jF ?hy ?_);case hy=>decide))
  exact fin
theorem rg_same {a b na nb : Nat} (hG : RgP H x col R its inn L q TR Bi vi Bn vn TL vl) (ha : R.hasB (a : Nat) = true) (hb : R.hasB (b : Nat) = true) (h1 : inn[a]? = some (na : Int)) (h2 : inn[b]? = some (nb : Int)) (fin : K (.tuple #[.bool (decide (na = nb)), .int .i64 0]) H) :
  CallsH Try.prog 57 #[.pointer (some ⟨x, 0, none⟩), .int .i64 (a : Nat), .int .i64 (b : Nat)] H K := by
 have c2 := hG.b.cellOf (i := 2) rfl
 obtain ⟨gn, cn, rfl, rfl, d1⟩ := hG.inn.at h1
 have d2 := hG.inn.cell h2
 have l1 := (List.getElem?_eq_some_iff.1 h1).1
 have l2 := (List.getElem?_eq_some_iff.1 h2).1
 have e : ((na : Int) == (nb : Int)) = decide (na = nb) := by rw [Bool.eq_iff_iff]; simp; omega
 rw [← e] at fin
 refine call57 (by simp) ?_
 simp only [Try.f57, Option.getD_some]
 repeat' (first|(with_reducible first|refine jA ?_|(refine hK _ _ ?_;clear hK K)|refine jJ fun K hK=>?_|refine jK ?_|refine jL ?_|refine jM ?_|refine jN ?_|refine jO ?_|refine jP ?_|refine jQ ?_|(refine jB ?_;clear hK K)|(refine jC ?_;clear hK K)|refine jD ?_|refine jE ?_|refine jG ?_|refine jH ?_|refine jI ?_)|((with_reducible refine jR ?hq ?_);case hq=>rfl)|((first|(with_reducible first|refine jS fun K hK=>?_|refine jT ?_|refine jU ?_)|((with_reducible refine jV ?hy fun K hK=>?_);case hy=>rfl));simp only [go_sem, Nat.reduceEqDiff, Nat.reduceAdd, Nat.reduceMul, Nat.reduceLeDiff, Nat.reduceLT, Int.reduceLT, Int.reduceLE, Int.reduceEq, Int.reduceNeg, Int.reduceToNat, Nat.reducePow, reduceIte, reduceCtorEq])|((with_reducible first|refine jW ?hy ?_|refine jY ?hy ?_);case hy=>rfl)|((with_reducible first|refine jX ?hy ?_|refine jZ ?hy ?_);case hy=>rfl)|((with_reducible refine jF ?hy ?_);case hy=>decide))
 refine rg_has hG ?_
 rw [ha]
 repeat' (first|(with_reducible first|refine jA ?_|(refine hK _ _ ?_;clear hK K)|refine jJ fun K hK=>?_|refine jK ?_|refine jL ?_|refine jM ?_|refine jN ?_|refine jO ?_|refine jP ?_|refine jQ ?_|(refine jB ?_;clear hK K)|(refine jC ?_;clear hK K)|refine jD ?_|refine jE ?_|refine jG ?_|refine jH ?_|refine jI ?_)|((with_reducible refine jR ?hq ?_);case hq=>rfl)|((first|(with_reducible first|refine jS fun K hK=>?_|refine jT ?_|refine jU ?_)|((with_reducible refine jV ?hy fun K hK=>?_);case hy=>rfl));simp only [go_sem, Nat.reduceEqDiff, Nat.reduceAdd, Nat.reduceMul, Nat.reduceLeDiff, Nat.reduceLT, Int.reduceLT, Int.reduceLE, Int.reduceEq, Int.reduceNeg, Int.reduceToNat, Nat.reducePow, reduceIte, reduceCtorEq])|((with_reducible first|refine jW ?hy ?_|refine jY ?hy ?_);case hy=>rfl)|((with_reducible first|refine jX ?hy ?_|refine jZ ?hy ?_);case hy=>rfl)|((with_reducible refine jF ?hy ?_);case hy=>decide))
 refine rg_has hG ?_
 rw [hb]
 repeat' (first|(with_reducible first|refine jA ?_|(refine hK _ _ ?_;clear hK K)|refine jJ fun K hK=>?_|refine jK ?_|refine jL ?_|refine jM ?_|refine jN ?_|refine jO ?_|refine jP ?_|refine jQ ?_|(refine jB ?_;clear hK K)|(refine jC ?_;clear hK K)|refine jD ?_|refine jE ?_|refine jG ?_|refine jH ?_|refine jI ?_)|((with_reducible refine jR ?hq ?_);case hq=>rfl)|((first|(with_reducible first|refine jS fun K hK=>?_|refine jT ?_|refine jU ?_)|((with_reducible refine jV ?hy fun K hK=>?_);case hy=>rfl));simp only [go_sem, Nat.reduceEqDiff, Nat.reduceAdd, Nat.reduceMul, Nat.reduceLeDiff, Nat.reduceLT, Int.reduceLT, Int.reduceLE, Int.reduceEq, Int.reduceNeg, Int.reduceToNat, Nat.reducePow, reduceIte, reduceCtorEq, c2, d1, d2, l1, l2])|((with_reducible first|refine jW ?hy ?_|refine jY ?hy ?_);case hy=>rfl)|((with_reducible first|refine jX ?hy ?_|refine jZ ?hy ?_);case hy=>rfl)|((with_reducible refine jF ?hy ?_);case hy=>decide))
 exact fin
theorem rg_at_none {i n : Int} (hG : RgP H x col R its inn L q TR Bi vi Bn vn TL vl) (hi : R.hasB i = false) (fin : K (.tuple #[.int .i64 0, .int .i64 31]) H) :
  CallsH Try.prog 59 #[.pointer (some ⟨x, 0, none⟩), .int .i64 i, .int .i64 n] H K := by
 refine call59 (by simp) ?_
 simp only [Try.f59, Option.getD_some]
 repeat' (first|(with_reducible first|refine jA ?_|(refine hK _ _ ?_;clear hK K)|refine jJ fun K hK=>?_|refine jK ?_|refine jL ?_|refine jM ?_|refine jN ?_|refine jO ?_|refine jP ?_|refine jQ ?_|(refine jB ?_;clear hK K)|(refine jC ?_;clear hK K)|refine jD ?_|refine jE ?_|refine jG ?_|refine jH ?_|refine jI ?_)|((with_reducible refine jR ?hq ?_);case hq=>rfl)|((first|(with_reducible first|refine jS fun K hK=>?_|refine jT ?_|refine jU ?_)|((with_reducible refine jV ?hy fun K hK=>?_);case hy=>rfl));simp only [go_sem, Nat.reduceEqDiff, Nat.reduceAdd, Nat.reduceMul, Nat.reduceLeDiff, Nat.reduceLT, Int.reduceLT, Int.reduceLE, Int.reduceEq, Int.reduceNeg, Int.reduceToNat, Nat.reducePow, reduceIte, reduceCtorEq])|((with_reducible first|refine jW ?hy ?_|refine jY ?hy ?_);case hy=>rfl)|((with_reducible first|refine jX ?hy ?_|refine jZ ?hy ?_);case hy=>rfl)|((with_reducible refine jF ?hy ?_);case hy=>decide))
 refine rg_has hG ?_
 rw [hi]
 repeat' (first|(with_reducible first|refine jA ?_|(refine hK _ _ ?_;clear hK K)|refine jJ fun K hK=>?_|refine jK ?_|refine jL ?_|refine jM ?_|refine jN ?_|refine jO ?_|refine jP ?_|refine jQ ?_|(refine jB ?_;clear hK K)|(refine jC ?_;clear hK K)|refine jD ?_|refine jE ?_|refine jG ?_|refine jH ?_|refine jI ?_)|((with_reducible refine jR ?hq ?_);case hq=>rfl)|((first|(with_reducible first|refine jS fun K hK=>?_|refine jT ?_|refine jU ?_)|((with_reducible refine jV ?hy fun K hK=>?_);case hy=>rfl));simp only [go_sem, Nat.reduceEqDiff, Nat.reduceAdd, Nat.reduceMul, Nat.reduceLeDiff, Nat.reduceLT, Int.reduceLT, Int.reduceLE, Int.reduceEq, Int.reduceNeg, Int.reduceToNat, Nat.reducePow, reduceIte, reduceCtorEq])|((with_reducible first|refine jW ?hy ?_|refine jY ?hy ?_);case hy=>rfl)|((with_reducible first|refine jX ?hy ?_|refine jZ ?hy ?_);case hy=>rfl)|((with_reducible refine jF ?hy ?_);case hy=>decide))
 exact fin
theorem rg_at_bad {h n : Nat} {i : Int} {xs : List Int} (hG : RgP H x col R its inn L q TR Bi vi Bn vn TL vl) (hi : R.hasB (h : Nat) = true) (h1 : inn[h]? = some (n : Int)) (h2 : L[n]? = some xs) (hn : i < 0 ∨ (xs.length : Int) ≤ i) (fin : K (.tuple #[.int .i64 0, .int .i64 34]) H) :
  CallsH Try.prog 59 #[.pointer (some ⟨x, 0, none⟩), .int .i64 (h : Nat), .int .i64 i] H K := by
 refine call59 (by simp) ?_
 simp only [Try.f59, Option.getD_some]
 repeat' (first|(with_reducible first|refine jA ?_|(refine hK _ _ ?_;clear hK K)|refine jJ fun K hK=>?_|refine jK ?_|refine jL ?_|refine jM ?_|refine jN ?_|refine jO ?_|refine jP ?_|refine jQ ?_|(refine jB ?_;clear hK K)|(refine jC ?_;clear hK K)|refine jD ?_|refine jE ?_|refine jG ?_|refine jH ?_|refine jI ?_)|((with_reducible refine jR ?hq ?_);case hq=>rfl)|((first|(with_reducible first|refine jS fun K hK=>?_|refine jT ?_|refine jU ?_)|((with_reducible refine jV ?hy fun K hK=>?_);case hy=>rfl));simp only [go_sem, Nat.reduceEqDiff, Nat.reduceAdd, Nat.reduceMul, Nat.reduceLeDiff, Nat.reduceLT, Int.reduceLT, Int.reduceLE, Int.reduceEq, Int.reduceNeg, Int.reduceToNat, Nat.reducePow, reduceIte, reduceCtorEq])|((with_reducible first|refine jW ?hy ?_|refine jY ?hy ?_);case hy=>rfl)|((with_reducible first|refine jX ?hy ?_|refine jZ ?hy ?_);case hy=>rfl)|((with_reducible refine jF ?hy ?_);case hy=>decide))
 refine rg_has hG ?_
 rw [hi]
 repeat' (first|(with_reducible first|refine jA ?_|(refine hK _ _ ?_;clear hK K)|refine jJ fun K hK=>?_|refine jK ?_|refine jL ?_|refine jM ?_|refine jN ?_|refine jO ?_|refine jP ?_|refine jQ ?_|(refine jB ?_;clear hK K)|(refine jC ?_;clear hK K)|refine jD ?_|refine jE ?_|refine jG ?_|refine jH ?_|refine jI ?_)|((with_reducible refine jR ?hq ?_);case hq=>rfl)|((first|(with_reducible first|refine jS fun K hK=>?_|refine jT ?_|refine jU ?_)|((with_reducible refine jV ?hy fun K hK=>?_);case hy=>rfl));simp only [go_sem, Nat.reduceEqDiff, Nat.reduceAdd, Nat.reduceMul, Nat.reduceLeDiff, Nat.reduceLT, Int.reduceLT, Int.reduceLE, Int.reduceEq, Int.reduceNeg, Int.reduceToNat, Nat.reducePow, reduceIte, reduceCtorEq])|((with_reducible first|refine jW ?hy ?_|refine jY ?hy ?_);case hy=>rfl)|((with_reducible first|refine jX ?hy ?_|refine jZ ?hy ?_);case hy=>rfl)|((with_reducible refine jF ?hy ?_);case hy=>decide))
 refine rg_of hG h1 h2 fun B v hv hB => ?_
 obtain ⟨a, c, rfl⟩ := hv.slice
 by_cases h0 : i < 0
 ·have t1 : (i < 0) = True := by simp [h0]
  repeat' (first|(with_reducible first|refine jA ?_|(refine hK _ _ ?_;clear hK K)|refine jJ fun K hK=>?_|refine jK ?_|refine jL ?_|refine jM ?_|refine jN ?_|refine jO ?_|refine jP ?_|refine jQ ?_|(refine jB ?_;clear hK K)|(refine jC ?_;clear hK K)|refine jD ?_|refine jE ?_|refine jG ?_|refine jH ?_|refine jI ?_)|((with_reducible refine jR ?hq ?_);case hq=>rfl)|((first|(with_reducible first|refine jS fun K hK=>?_|refine jT ?_|refine jU ?_)|((with_reducible refine jV ?hy fun K hK=>?_);case hy=>rfl));simp only [go_sem, Nat.reduceEqDiff, Nat.reduceAdd, Nat.reduceMul, Nat.reduceLeDiff, Nat.reduceLT, Int.reduceLT, Int.reduceLE, Int.reduceEq, Int.reduceNeg, Int.reduceToNat, Nat.reducePow, reduceIte, reduceCtorEq, t1])|((with_reducible first|refine jW ?hy ?_|refine jY ?hy ?_);case hy=>rfl)|((with_reducible first|refine jX ?hy ?_|refine jZ ?hy ?_);case hy=>rfl)|((with_reducible refine jF ?hy ?_);case hy=>decide))
  exact fin
 ·have t1 : (i < 0) = False := by simp [h0]
  have t2 : ((xs.length : Int) ≤ i) = True := by simp; omega
  repeat' (first|(with_reducible first|refine jA ?_|(refine hK _ _ ?_;clear hK K)|refine jJ fun K hK=>?_|refine jK ?_|refine jL ?_|refine jM ?_|refine jN ?_|refine jO ?_|refine jP ?_|refine jQ ?_|(refine jB ?_;clear hK K)|(refine jC ?_;clear hK K)|refine jD ?_|refine jE ?_|refine jG ?_|refine jH ?_|refine jI ?_)|((with_reducible refine jR ?hq ?_);case hq=>rfl)|((first|(with_reducible first|refine jS fun K hK=>?_|refine jT ?_|refine jU ?_)|((with_reducible refine jV ?hy fun K hK=>?_);case hy=>rfl));simp only [go_sem, Nat.reduceEqDiff, Nat.reduceAdd, Nat.reduceMul, Nat.reduceLeDiff, Nat.reduceLT, Int.reduceLT, Int.reduceLE, Int.reduceEq, Int.reduceNeg, Int.reduceToNat, Nat.reducePow, reduceIte, reduceCtorEq, t1, t2])|((with_reducible first|refine jW ?hy ?_|refine jY ?hy ?_);case hy=>rfl)|((with_reducible first|refine jX ?hy ?_|refine jZ ?hy ?_);case hy=>rfl)|((with_reducible refine jF ?hy ?_);case hy=>decide))
  exact fin
theorem rg_at {h n k : Nat} {xs : List Int} {z : Int} (hG : RgP H x col R its inn L q TR Bi vi Bn vn TL vl) (hi : R.hasB (h : Nat) = true) (h1 : inn[h]? = some (n : Int)) (h2 : L[n]? = some xs) (hk : xs[k]? = some z) (fin : K (.tuple #[.int .i64 z, .int .i64 0]) H) :
  CallsH Try.prog 59 #[.pointer (some ⟨x, 0, none⟩), .int .i64 (h : Nat), .int .i64 (k : Nat)] H K := by
 refine call59 (by simp) ?_
 simp only [Try.f59, Option.getD_some]
 repeat' (first|(with_reducible first|refine jA ?_|(refine hK _ _ ?_;clear hK K)|refine jJ fun K hK=>?_|refine jK ?_|refine jL ?_|refine jM ?_|refine jN ?_|refine jO ?_|refine jP ?_|refine jQ ?_|(refine jB ?_;clear hK K)|(refine jC ?_;clear hK K)|refine jD ?_|refine jE ?_|refine jG ?_|refine jH ?_|refine jI ?_)|((with_reducible refine jR ?hq ?_);case hq=>rfl)|((first|(with_reducible first|refine jS fun K hK=>?_|refine jT ?_|refine jU ?_)|((with_reducible refine jV ?hy fun K hK=>?_);case hy=>rfl));simp only [go_sem, Nat.reduceEqDiff, Nat.reduceAdd, Nat.reduceMul, Nat.reduceLeDiff, Nat.reduceLT, Int.reduceLT, Int.reduceLE, Int.reduceEq, Int.reduceNeg, Int.reduceToNat, Nat.reducePow, reduceIte, reduceCtorEq])|((with_reducible first|refine jW ?hy ?_|refine jY ?hy ?_);case hy=>rfl)|((with_reducible first|refine jX ?hy ?_|refine jZ ?hy ?_);case hy=>rfl)|((with_reducible refine jF ?hy ?_);case hy=>decide))
 refine rg_has hG ?_
 rw [hi]
 repeat' (first|(with_reducible first|refine jA ?_|(refine hK _ _ ?_;clear hK K)|refine jJ fun K hK=>?_|refine jK ?_|refine jL ?_|refine jM ?_|refine jN ?_|refine jO ?_|refine jP ?_|refine jQ ?_|(refine jB ?_;clear hK K)|(refine jC ?_;clear hK K)|refine jD ?_|refine jE ?_|refine jG ?_|refine jH ?_|refine jI ?_)|((with_reducible refine jR ?hq ?_);case hq=>rfl)|((first|(with_reducible first|refine jS fun K hK=>?_|refine jT ?_|refine jU ?_)|((with_reducible refine jV ?hy fun K hK=>?_);case hy=>rfl));simp only [go_sem, Nat.reduceEqDiff, Nat.reduceAdd, Nat.reduceMul, Nat.reduceLeDiff, Nat.reduceLT, Int.reduceLT, Int.reduceLE, Int.reduceEq, Int.reduceNeg, Int.reduceToNat, Nat.reducePow, reduceIte, reduceCtorEq])|((with_reducible first|refine jW ?hy ?_|refine jY ?hy ?_);case hy=>rfl)|((with_reducible first|refine jX ?hy ?_|refine jZ ?hy ?_);case hy=>rfl)|((with_reducible refine jF ?hy ?_);case hy=>decide))
 refine rg_of hG h1 h2 fun B v hv hB => ?_
 obtain ⟨g, c, rfl, rfl, cz⟩ := hv.at hk
 have hl := (List.getElem?_eq_some_iff.1 hk).1
 have t1 : ((k : Int) < 0) = False := by simp
 have t2 : ((xs.length : Int) ≤ (k : Int)) = False := by simp; omega
 have t2' : (xs.length ≤ k) = False := by simp; omega
 repeat' (first|(with_reducible first|refine jA ?_|(refine hK _ _ ?_;clear hK K)|refine jJ fun K hK=>?_|refine jK ?_|refine jL ?_|refine jM ?_|refine jN ?_|refine jO ?_|refine jP ?_|refine jQ ?_|(refine jB ?_;clear hK K)|(refine jC ?_;clear hK K)|refine jD ?_|refine jE ?_|refine jG ?_|refine jH ?_|refine jI ?_)|((with_reducible refine jR ?hq ?_);case hq=>rfl)|((first|(with_reducible first|refine jS fun K hK=>?_|refine jT ?_|refine jU ?_)|((with_reducible refine jV ?hy fun K hK=>?_);case hy=>rfl));simp only [go_sem, Nat.reduceEqDiff, Nat.reduceAdd, Nat.reduceMul, Nat.reduceLeDiff, Nat.reduceLT, Int.reduceLT, Int.reduceLE, Int.reduceEq, Int.reduceNeg, Int.reduceToNat, Nat.reducePow, reduceIte, reduceCtorEq, t1, t2, t2', hl, cz])|((with_reducible first|refine jW ?hy ?_|refine jY ?hy ?_);case hy=>rfl)|((with_reducible first|refine jX ?hy ?_|refine jZ ?hy ?_);case hy=>rfl)|((with_reducible refine jF ?hy ?_);case hy=>decide))
 exact fin
theorem rg_all_none {i : Int} (hG : RgP H x col R its inn L q TR Bi vi Bn vn TL vl) (hi : R.hasB i = false) (fin : K (.tuple #[.slice none 0 0, .int .i64 31]) H) :
  CallsH Try.prog 62 #[.pointer (some ⟨x, 0, none⟩), .int .i64 i] H K := by
 refine call62 (by simp) ?_
 simp only [Try.f62, Option.getD_some]
 repeat' (first|(with_reducible first|refine jA ?_|(refine hK _ _ ?_;clear hK K)|refine jJ fun K hK=>?_|refine jK ?_|refine jL ?_|refine jM ?_|refine jN ?_|refine jO ?_|refine jP ?_|refine jQ ?_|(refine jB ?_;clear hK K)|(refine jC ?_;clear hK K)|refine jD ?_|refine jE ?_|refine jG ?_|refine jH ?_|refine jI ?_)|((with_reducible refine jR ?hq ?_);case hq=>rfl)|((first|(with_reducible first|refine jS fun K hK=>?_|refine jT ?_|refine jU ?_)|((with_reducible refine jV ?hy fun K hK=>?_);case hy=>rfl));simp only [go_sem, Nat.reduceEqDiff, Nat.reduceAdd, Nat.reduceMul, Nat.reduceLeDiff, Nat.reduceLT, Int.reduceLT, Int.reduceLE, Int.reduceEq, Int.reduceNeg, Int.reduceToNat, Nat.reducePow, reduceIte, reduceCtorEq])|((with_reducible first|refine jW ?hy ?_|refine jY ?hy ?_);case hy=>rfl)|((with_reducible first|refine jX ?hy ?_|refine jZ ?hy ?_);case hy=>rfl)|((with_reducible refine jF ?hy ?_);case hy=>decide))
 refine rg_has hG ?_
 rw [hi]
 repeat' (first|(with_reducible first|refine jA ?_|(refine hK _ _ ?_;clear hK K)|refine jJ fun K hK=>?_|refine jK ?_|refine jL ?_|refine jM ?_|refine jN ?_|refine jO ?_|refine jP ?_|refine jQ ?_|(refine jB ?_;clear hK K)|(refine jC ?_;clear hK K)|refine jD ?_|refine jE ?_|refine jG ?_|refine jH ?_|refine jI ?_)|((with_reducible refine jR ?hq ?_);case hq=>rfl)|((first|(with_reducible first|refine jS fun K hK=>?_|refine jT ?_|refine jU ?_)|((with_reducible refine jV ?hy fun K hK=>?_);case hy=>rfl));simp only [go_sem, Nat.reduceEqDiff, Nat.reduceAdd, Nat.reduceMul, Nat.reduceLeDiff, Nat.reduceLT, Int.reduceLT, Int.reduceLE, Int.reduceEq, Int.reduceNeg, Int.reduceToNat, Nat.reducePow, reduceIte, reduceCtorEq])|((with_reducible first|refine jW ?hy ?_|refine jY ?hy ?_);case hy=>rfl)|((with_reducible first|refine jX ?hy ?_|refine jZ ?hy ?_);case hy=>rfl)|((with_reducible refine jF ?hy ?_);case hy=>decide))
 exact fin
theorem rg_all {h n : Nat} {xs : List Int} (hG : RgP H x col R its inn L q TR Bi vi Bn vn TL vl) (hi : R.hasB (h : Nat) = true) (h1 : inn[h]? = some (n : Int)) (h2 : L[n]? = some xs) (hne : xs ≠ []) (hxl : xs.length ≤ 100000)
  (fin : ∀ v H' B, IR H' B v xs → Fr (fun _ => False) H H' → (∀ g, B = some g → H.size ≤ g) → K (.tuple #[v, .int .i64 0]) H') :
  CallsH Try.prog 62 #[.pointer (some ⟨x, 0, none⟩), .int .i64 (h : Nat)] H K := by
 refine call62 (by simp) ?_
 simp only [Try.f62, Option.getD_some]
 repeat' (first|(with_reducible first|refine jA ?_|(refine hK _ _ ?_;clear hK K)|refine jJ fun K hK=>?_|refine jK ?_|refine jL ?_|refine jM ?_|refine jN ?_|refine jO ?_|refine jP ?_|refine jQ ?_|(refine jB ?_;clear hK K)|(refine jC ?_;clear hK K)|refine jD ?_|refine jE ?_|refine jG ?_|refine jH ?_|refine jI ?_)|((with_reducible refine jR ?hq ?_);case hq=>rfl)|((first|(with_reducible first|refine jS fun K hK=>?_|refine jT ?_|refine jU ?_)|((with_reducible refine jV ?hy fun K hK=>?_);case hy=>rfl));simp only [go_sem, Nat.reduceEqDiff, Nat.reduceAdd, Nat.reduceMul, Nat.reduceLeDiff, Nat.reduceLT, Int.reduceLT, Int.reduceLE, Int.reduceEq, Int.reduceNeg, Int.reduceToNat, Nat.reducePow, reduceIte, reduceCtorEq])|((with_reducible first|refine jW ?hy ?_|refine jY ?hy ?_);case hy=>rfl)|((with_reducible first|refine jX ?hy ?_|refine jZ ?hy ?_);case hy=>rfl)|((with_reducible refine jF ?hy ?_);case hy=>decide))
 refine rg_has hG ?_
 rw [hi]
 repeat' (first|(with_reducible first|refine jA ?_|(refine hK _ _ ?_;clear hK K)|refine jJ fun K hK=>?_|refine jK ?_|refine jL ?_|refine jM ?_|refine jN ?_|refine jO ?_|refine jP ?_|refine jQ ?_|(refine jB ?_;clear hK K)|(refine jC ?_;clear hK K)|refine jD ?_|refine jE ?_|refine jG ?_|refine jH ?_|refine jI ?_)|((with_reducible refine jR ?hq ?_);case hq=>rfl)|((first|(with_reducible first|refine jS fun K hK=>?_|refine jT ?_|refine jU ?_)|((with_reducible refine jV ?hy fun K hK=>?_);case hy=>rfl));simp only [go_sem, Nat.reduceEqDiff, Nat.reduceAdd, Nat.reduceMul, Nat.reduceLeDiff, Nat.reduceLT, Int.reduceLT, Int.reduceLE, Int.reduceEq, Int.reduceNeg, Int.reduceToNat, Nat.reducePow, reduceIte, reduceCtorEq])|((with_reducible first|refine jW ?hy ?_|refine jY ?hy ?_);case hy=>rfl)|((with_reducible first|refine jX ?hy ?_|refine jZ ?hy ?_);case hy=>rfl)|((with_reducible refine jF ?hy ?_);case hy=>decide))
 refine rg_of hG h1 h2 fun B v hv hB => ?_
 have hv' : IR H B v xs := hv
 obtain ⟨g, c, rfl, rfl, _⟩ := hv.open hne
 repeat' (first|(with_reducible first|refine jA ?_|(refine hK _ _ ?_;clear hK K)|refine jJ fun K hK=>?_|refine jK ?_|refine jL ?_|refine jM ?_|refine jN ?_|refine jO ?_|refine jP ?_|refine jQ ?_|(refine jB ?_;clear hK K)|(refine jC ?_;clear hK K)|refine jD ?_|refine jE ?_|refine jG ?_|refine jH ?_|refine jI ?_)|((with_reducible refine jR ?hq ?_);case hq=>rfl)|((first|(with_reducible first|refine jS fun K hK=>?_|refine jT ?_|refine jU ?_)|((with_reducible refine jV ?hy fun K hK=>?_);case hy=>rfl));simp only [go_sem, Nat.reduceEqDiff, Nat.reduceAdd, Nat.reduceMul, Nat.reduceLeDiff, Nat.reduceLT, Int.reduceLT, Int.reduceLE, Int.reduceEq, Int.reduceNeg, Int.reduceToNat, Nat.reducePow, reduceIte, reduceCtorEq])|((with_reducible first|refine jW ?hy ?_|refine jY ?hy ?_);case hy=>rfl)|((with_reducible first|refine jX ?hy ?_|refine jZ ?hy ?_);case hy=>rfl)|((with_reducible refine jF ?hy ?_);case hy=>decide))
 refine append_irs (xs := []) (ys := xs) elems23 tl3 (IR.nil H) (by have := hv'.readL (o := 0) (m := xs.length) (by omega); simpa using this) rfl (by decide) (by simp; omega) rfl ?_
 intro v2 H2 B2 hv2 hf2 hB2
 repeat' (first|(with_reducible first|refine jA ?_|(refine hK _ _ ?_;clear hK K)|refine jJ fun K hK=>?_|refine jK ?_|refine jL ?_|refine jM ?_|refine jN ?_|refine jO ?_|refine jP ?_|refine jQ ?_|(refine jB ?_;clear hK K)|(refine jC ?_;clear hK K)|refine jD ?_|refine jE ?_|refine jG ?_|refine jH ?_|refine jI ?_)|((with_reducible refine jR ?hq ?_);case hq=>rfl)|((first|(with_reducible first|refine jS fun K hK=>?_|refine jT ?_|refine jU ?_)|((with_reducible refine jV ?hy fun K hK=>?_);case hy=>rfl));simp only [go_sem, Nat.reduceEqDiff, Nat.reduceAdd, Nat.reduceMul, Nat.reduceLeDiff, Nat.reduceLT, Int.reduceLT, Int.reduceLE, Int.reduceEq, Int.reduceNeg, Int.reduceToNat, Nat.reducePow, reduceIte, reduceCtorEq])|((with_reducible first|refine jW ?hy ?_|refine jY ?hy ?_);case hy=>rfl)|((with_reducible first|refine jX ?hy ?_|refine jZ ?hy ?_);case hy=>rfl)|((with_reducible refine jF ?hy ?_);case hy=>decide))
 refine fin v2 H2 B2 (by simpa using hv2) (hf2.mono fun b _ h => by cases h) fun g hg => ?_
 rcases hB2 with rfl | ⟨g', rfl, hg'⟩
 ·cases hg
 ·rw [← Option.some.inj hg]; exact hg'
end
section
variable {H : Heap} {x : Nat} {col : Nat → Nat} {R : Rf} {its : List Sp.Item} {inn : List Int} {L : List (List Int)} {q : Nat} {TR : Nat → Prop} {Bi : Option Nat} {vi : Value} {Bn : Option Nat} {vn : Value} {TL : Nat → Prop} {vl : Value} {K : Value → Heap → Prop}
def flagV (o : Option Nat) : Value := match o with | some j => .tuple #[.int .i64 (j : Nat), .int .i64 0] | none => .tuple #[.int .i64 0, .int .i64 35]
theorem rg_flagged {h n fl : Nat} {ys : List Nat} {it : Nat → Sp.Item} (hG : RgP H x col R its inn L q TR Bi vi Bn vn TL vl) (hi : R.hasB (h : Nat) = true) (hfl : fl < 256) (h1 : inn[h]? = some (n : Int)) (h2 : L[n]? = some (ys.map Int.ofNat)) (hyl : ys.length ≤ 1099511627776)
  (hit : ∀ k ∈ ys, its[k]? = some (it k) ∧ May (it k)) (fin : K (flagV (firstF it fl ys)) H) :
  CallsH Try.prog 61 #[.pointer (some ⟨x, 0, none⟩), .int .i64 (h : Nat), .int .i64 (fl : Nat)] H K := by
 have c1 := hG.b.cellOf (i := 1) rfl
 have t255 : ((255 : Int) < (fl : Int)) = False := eq_false (by omega)
 have t0 : ((fl : Int) < 0) = False := eq_false (by omega)
 have hml : (ys.map Int.ofNat).length = ys.length := by simp
 refine call61 (by simp) ?_
 simp only [Try.f61, Option.getD_some]
 repeat' (first|(with_reducible first|refine jA ?_|(refine hK _ _ ?_;clear hK K)|refine jJ fun K hK=>?_|refine jK ?_|refine jL ?_|refine jM ?_|refine jN ?_|refine jO ?_|refine jP ?_|refine jQ ?_|(refine jB ?_;clear hK K)|(refine jC ?_;clear hK K)|refine jD ?_|refine jE ?_|refine jG ?_|refine jH ?_|refine jI ?_)|((with_reducible refine jR ?hq ?_);case hq=>rfl)|((first|(with_reducible first|refine jS fun K hK=>?_|refine jT ?_|refine jU ?_)|((with_reducible refine jV ?hy fun K hK=>?_);case hy=>rfl));simp only [go_sem, Nat.reduceEqDiff, Nat.reduceAdd, Nat.reduceMul, Nat.reduceLeDiff, Nat.reduceLT, Int.reduceLT, Int.reduceLE, Int.reduceEq, Int.reduceNeg, Int.reduceToNat, Nat.reducePow, reduceIte, reduceCtorEq])|((with_reducible first|refine jW ?hy ?_|refine jY ?hy ?_);case hy=>rfl)|((with_reducible first|refine jX ?hy ?_|refine jZ ?hy ?_);case hy=>rfl)|((with_reducible refine jF ?hy ?_);case hy=>decide))
 refine rg_has hG ?_
 rw [hi]
 repeat' (first|(with_reducible first|refine jA ?_|(refine hK _ _ ?_;clear hK K)|refine jJ fun K hK=>?_|refine jK ?_|refine jL ?_|refine jM ?_|refine jN ?_|refine jO ?_|refine jP ?_|refine jQ ?_|(refine jB ?_;clear hK K)|(refine jC ?_;clear hK K)|refine jD ?_|refine jE ?_|refine jG ?_|refine jH ?_|refine jI ?_)|((with_reducible refine jR ?hq ?_);case hq=>rfl)|((first|(with_reducible first|refine jS fun K hK=>?_|refine jT ?_|refine jU ?_)|((with_reducible refine jV ?hy fun K hK=>?_);case hy=>rfl));simp only [go_sem, Nat.reduceEqDiff, Nat.reduceAdd, Nat.reduceMul, Nat.reduceLeDiff, Nat.reduceLT, Int.reduceLT, Int.reduceLE, Int.reduceEq, Int.reduceNeg, Int.reduceToNat, Nat.reducePow, reduceIte, reduceCtorEq, t0, t255])|((with_reducible first|refine jW ?hy ?_|refine jY ?hy ?_);case hy=>rfl)|((with_reducible first|refine jX ?hy ?_|refine jZ ?hy ?_);case hy=>rfl)|((with_reducible refine jF ?hy ?_);case hy=>decide))
 refine rg_of hG h1 h2 fun B v hv hB => ?_
 obtain ⟨av, cv, rfl⟩ := hv.slice
 repeat' (first|(with_reducible first|refine jA ?_|(refine hK _ _ ?_;clear hK K)|refine jJ fun K hK=>?_|refine jK ?_|refine jL ?_|refine jM ?_|refine jN ?_|refine jO ?_|refine jP ?_|refine jQ ?_|(refine jB ?_;clear hK K)|(refine jC ?_;clear hK K)|refine jD ?_|refine jE ?_|refine jG ?_|refine jH ?_|refine jI ?_)|((with_reducible refine jR ?hq ?_);case hq=>rfl)|((first|(with_reducible first|refine jS fun K hK=>?_|refine jT ?_|refine jU ?_)|((with_reducible refine jV ?hy fun K hK=>?_);case hy=>rfl));simp only [go_sem, Nat.reduceEqDiff, Nat.reduceAdd, Nat.reduceMul, Nat.reduceLeDiff, Nat.reduceLT, Int.reduceLT, Int.reduceLE, Int.reduceEq, Int.reduceNeg, Int.reduceToNat, Nat.reducePow, reduceIte, reduceCtorEq])|((with_reducible first|refine jW ?hy ?_|refine jY ?hy ?_);case hy=>rfl)|((with_reducible first|refine jX ?hy ?_|refine jZ ?hy ?_);case hy=>rfl)|((with_reducible refine jF ?hy ?_);case hy=>decide))
 refine x_loop (fun m e' H' => ∃ i : Nat, H' = H ∧ e' 9 = .int .i64 (i : Nat) ∧ i ≤ ys.length ∧ firstF it fl (ys.take i) = none ∧ m = ys.length - i) ys.length ⟨0, rfl, rfl, Nat.zero_le _, rfl, rfl⟩ ?_
 rintro m e1 H1 ⟨i, rfl, i9, hil, hno, rfl⟩ hoff
 have i0 : e1 0 = .pointer (some ⟨x, 0, none⟩) := (hoff 0 rfl).trans rfl
 have i2 : e1 2 = .int .i64 (fl : Nat) := (hoff 2 rfl).trans rfl
 have i8 : e1 8 = .slice av (ys.map Int.ofNat).length cv := (hoff 8 rfl).trans rfl
 clear hoff
 by_cases hlt : i < ys.length
 ·obtain ⟨k, hk⟩ : ∃ k, ys[i]? = some k := ⟨_, List.getElem?_eq_getElem hlt⟩
  have hmem := List.mem_of_getElem? hk
  obtain ⟨hz, hmy⟩ := hit k hmem
  obtain ⟨g, c, rfl, hv', cz⟩ := hv.at (i := i) (x := (k : Int)) (by rw [List.getElem?_map, hk]; rfl)
  simp only [Value.slice.injEq, true_and] at hv'
  obtain ⟨rfl, rfl⟩ := hv'
  obtain ⟨gi, ci, rfl, rfl, d0, d1, d2⟩ := hG.it.read hz
  have lk := (List.getElem?_eq_some_iff.1 hz).1
  have tl1 : (i < (ys.map Int.ofNat).length) = True := by simp; omega
  have ew : IntKind.i64.wrap ((i : Int) + 1) = ((i + 1 : Nat) : Int) := by rw [wrap_i64] <;> omega
  have efl : bitAnd .i64 (it k).flags (fl : Int) = (((it k).flags.toNat &&& fl : Nat) : Int) := by
   have h1 := hmy.f1
   obtain ⟨n, hn⟩ := Int.eq_ofNat_of_zero_le hmy.f0
   rw [hn]
   exact and64_nat (by omega) hfl
  have hts : ys.take (i + 1) = ys.take i ++ [k] := by rw [List.take_add_one, hk]; rfl
  by_cases hz0 : (it k).flags.toNat &&& fl = 0
  ·have tz : ((((it k).flags.toNat &&& fl : Nat) : Int) != 0) = false := by rw [hz0]; rfl
   repeat' (first|(with_reducible first|refine jA ?_|(refine hK _ _ ?_;clear hK K)|refine jJ fun K hK=>?_|refine jK ?_|refine jL ?_|refine jM ?_|refine jN ?_|refine jO ?_|refine jP ?_|refine jQ ?_|(refine jB ?_;clear hK K)|(refine jC ?_;clear hK K)|refine jD ?_|refine jE ?_|refine jG ?_|refine jH ?_|refine jI ?_)|((with_reducible refine jR ?hq ?_);case hq=>rfl)|((first|(with_reducible first|refine jS fun K hK=>?_|refine jT ?_|refine jU ?_)|((with_reducible refine jV ?hy fun K hK=>?_);case hy=>rfl));simp only [go_sem, Nat.reduceEqDiff, Nat.reduceAdd, Nat.reduceMul, Nat.reduceLeDiff, Nat.reduceLT, Int.reduceLT, Int.reduceLE, Int.reduceEq, Int.reduceNeg, Int.reduceToNat, Nat.reducePow, reduceIte, reduceCtorEq, i0, i2, i8, i9, c1, cz, tl1, lk, d2, efl, ew, tz])|((with_reducible first|refine jW ?hy ?_|refine jY ?hy ?_);case hy=>rfl)|((with_reducible first|refine jX ?hy ?_|refine jZ ?hy ?_);case hy=>rfl)|((with_reducible refine jF ?hy ?_);case hy=>decide))
   refine loop_normal (m' := ys.length - (i + 1)) (by omega) ⟨i + 1, rfl, rfl, hlt, ?_, rfl⟩
   rw [hts]
   unfold firstF at hno ⊢
   rw [List.find?_append, hno]
   simp [hasF, hz0]
  ·have tz : ((((it k).flags.toNat &&& fl : Nat) : Int) != 0) = true := by simp only [bne_iff_ne, ne_eq]; omega
   have hf : firstF it fl ys = some k := by
    have : ys = ys.take (i + 1) ++ ys.drop (i + 1) := (List.take_append_drop _ _).symm
    rw [this, hts]
    unfold firstF at hno ⊢
    rw [List.find?_append, List.find?_append, hno]
    simp [hasF, hz0]
   rw [hf] at fin
   repeat' (first|(with_reducible first|refine jA ?_|(refine hK _ _ ?_;clear hK K)|refine jJ fun K hK=>?_|refine jK ?_|refine jL ?_|refine jM ?_|refine jN ?_|refine jO ?_|refine jP ?_|refine jQ ?_|(refine jB ?_;clear hK K)|(refine jC ?_;clear hK K)|refine jD ?_|refine jE ?_|refine jG ?_|refine jH ?_|refine jI ?_)|((with_reducible refine jR ?hq ?_);case hq=>rfl)|((first|(with_reducible first|refine jS fun K hK=>?_|refine jT ?_|refine jU ?_)|((with_reducible refine jV ?hy fun K hK=>?_);case hy=>rfl));simp only [go_sem, Nat.reduceEqDiff, Nat.reduceAdd, Nat.reduceMul, Nat.reduceLeDiff, Nat.reduceLT, Int.reduceLT, Int.reduceLE, Int.reduceEq, Int.reduceNeg, Int.reduceToNat, Nat.reducePow, reduceIte, reduceCtorEq, i0, i2, i8, i9, c1, cz, tl1, lk, d2, efl, tz])|((with_reducible first|refine jW ?hy ?_|refine jY ?hy ?_);case hy=>rfl)|((with_reducible first|refine jX ?hy ?_|refine jZ ?hy ?_);case hy=>rfl)|((with_reducible refine jF ?hy ?_);case hy=>decide))
   exact fin
 ·have tl1 : (i < (ys.map Int.ofNat).length) = False := by simp; omega
  have : ys.take i = ys := List.take_of_length_le (by omega)
  rw [this] at hno
  rw [hno] at fin
  repeat' (first|(with_reducible first|refine jA ?_|(refine hK _ _ ?_;clear hK K)|refine jJ fun K hK=>?_|refine jK ?_|refine jL ?_|refine jM ?_|refine jN ?_|refine jO ?_|refine jP ?_|refine jQ ?_|(refine jB ?_;clear hK K)|(refine jC ?_;clear hK K)|refine jD ?_|refine jE ?_|refine jG ?_|refine jH ?_|refine jI ?_)|((with_reducible refine jR ?hq ?_);case hq=>rfl)|((first|(with_reducible first|refine jS fun K hK=>?_|refine jT ?_|refine jU ?_)|((with_reducible refine jV ?hy fun K hK=>?_);case hy=>rfl));simp only [go_sem, Nat.reduceEqDiff, Nat.reduceAdd, Nat.reduceMul, Nat.reduceLeDiff, Nat.reduceLT, Int.reduceLT, Int.reduceLE, Int.reduceEq, Int.reduceNeg, Int.reduceToNat, Nat.reducePow, reduceIte, reduceCtorEq, i8, i9, tl1])|((with_reducible first|refine jW ?hy ?_|refine jY ?hy ?_);case hy=>rfl)|((with_reducible first|refine jX ?hy ?_|refine jZ ?hy ?_);case hy=>rfl)|((with_reducible refine jF ?hy ?_);case hy=>decide))
  exact fin
def addI (a : Agg) (z : Sp.Item) : Agg := plusA a (ownA z)
theorem minL_nil : minL [] = 0 := rfl
theorem rg_add {xs : List Sp.Item} {z : Sp.Item} (hx : ∀ y ∈ xs, May y) (hz : May z) (hl : xs.length ≤ 1000000) (fin : ∀ H', Fr (fun _ => False) H H' → K (aggL (xs ++ [z])).val H') :
  CallsH Try.prog 75 #[(aggL xs).val, z.val] H K := by
 have hp := plusA_aggL (xs := xs) (ys := [z]) hx (by intro y hy; rw [List.mem_singleton.1 hy]; exact hz) (by simp; omega)
 rw [← ownA_aggL hz] at hp
 rw [← hp] at fin
 have lx := valsL_length xs
 have sx := sum_bound hx
 have hc0 : (aggL xs).count = ((valsL xs).length : Nat) := rfl
 have hs0 : (aggL xs).sum = (valsL xs).sum := rfl
 have hempty : (aggL xs).count = 0 → (aggL xs).least = 0 ∧ (aggL xs).most = 0 := fun h => by
  have : valsL xs = [] := List.length_eq_zero_iff.1 (by rw [hc0] at h; omega)
  unfold aggL; rw [this]; exact ⟨rfl, rfl⟩
 have hzl := hz.lo
 have hzh := hz.hi
 generalize aggL xs = a at *
 obtain ⟨a1, a2, a3, a4, a5⟩ := a
 obtain ⟨z1, z2, z3⟩ := z
 simp only at hc0 hs0 hempty hzl hzh
 unfold plusA ownA or64 w64 at fin
 have w1 : IntKind.i64.wrap (a1 + 1) = a1 + 1 := by rw [wrap_i64] <;> omega
 have w2 : IntKind.i64.wrap (a2 + z1) = a2 + z1 := by rw [wrap_i64] <;> omega
 have w3 : IntKind.i64.wrap a1 = a1 := by rw [wrap_i64] <;> omega
 have w4 : IntKind.i64.wrap a2 = a2 := by rw [wrap_i64] <;> omega
 unfold Agg.val Sp.Item.val
 unfold Agg.val at fin
 simp only at fin ⊢
 cases z2
 ·simp only [Bool.false_eq_true, if_false, if_true, Int.add_zero, w3, w4] at fin
  have hl0 : (if a1 = 0 then 0 else a3) = a3 := by
   by_cases h : a1 = 0
   ·rw [if_pos h, (hempty h).1]
   ·rw [if_neg h]
  have hl1 : (if a1 = 0 then 0 else a4) = a4 := by
   by_cases h : a1 = 0
   ·rw [if_pos h, (hempty h).2]
   ·rw [if_neg h]
  rw [hl0, hl1] at fin
  refine call75 (by simp) ?_
  simp only [Try.f75, Option.getD_some]
  repeat' (first|(with_reducible first|refine jA ?_|(refine hK _ _ ?_;clear hK K)|refine jJ fun K hK=>?_|refine jK ?_|refine jL ?_|refine jM ?_|refine jN ?_|refine jO ?_|refine jP ?_|refine jQ ?_|(refine jB ?_;clear hK K)|(refine jC ?_;clear hK K)|refine jD ?_|refine jE ?_|refine jG ?_|refine jH ?_|refine jI ?_)|((with_reducible refine jR ?hq ?_);case hq=>rfl)|((first|(with_reducible first|refine jS fun K hK=>?_|refine jT ?_|refine jU ?_)|((with_reducible refine jV ?hy fun K hK=>?_);case hy=>rfl));simp only [go_sem, Nat.reduceEqDiff, Nat.reduceAdd, Nat.reduceMul, Nat.reduceLeDiff, Nat.reduceLT, Int.reduceLT, Int.reduceLE, Int.reduceEq, Int.reduceNeg, Int.reduceToNat, Nat.reducePow, reduceIte, reduceCtorEq, hcell_push, hcell_top, okW_push, okW_top, hcell_hset_ne, hcell_hset_off, hcell_hset_eq, okW_hset, hset_size, Array.size_push, Nat.lt_add_one, ne_add_one, add_one_ne, Nat.add_assoc, add_same, add_lt_same, Nat.reduceEqDiff, lt_add_k, add_k_ne, ne_add_k])|((with_reducible first|refine jW ?hy ?_|refine jY ?hy ?_);case hy=>rfl)|((with_reducible first|refine jX ?hy ?_|refine jZ ?hy ?_);case hy=>rfl)|((with_reducible refine jF ?hy ?_);case hy=>decide))
  exact fin _ (by ((repeat (first | refine Fr.set ?_ (by simp) _ | refine Fr.push ?_ _)); exact Fr.refl _ _))
 ·have one : ((1 : Int) = 0) = False := by simp
  simp only [if_true, w1, w2, one, if_false] at fin
  by_cases hc : a1 = 0
  ·have tc : (a1 == 0) = true := by simp [hc]
   rw [if_pos hc, if_pos hc] at fin
   refine call75 (by simp) ?_
   simp only [Try.f75, Option.getD_some]
   repeat' (first|(with_reducible first|refine jA ?_|(refine hK _ _ ?_;clear hK K)|refine jJ fun K hK=>?_|refine jK ?_|refine jL ?_|refine jM ?_|refine jN ?_|refine jO ?_|refine jP ?_|refine jQ ?_|(refine jB ?_;clear hK K)|(refine jC ?_;clear hK K)|refine jD ?_|refine jE ?_|refine jG ?_|refine jH ?_|refine jI ?_)|((with_reducible refine jR ?hq ?_);case hq=>rfl)|((first|(with_reducible first|refine jS fun K hK=>?_|refine jT ?_|refine jU ?_)|((with_reducible refine jV ?hy fun K hK=>?_);case hy=>rfl));simp only [go_sem, Nat.reduceEqDiff, Nat.reduceAdd, Nat.reduceMul, Nat.reduceLeDiff, Nat.reduceLT, Int.reduceLT, Int.reduceLE, Int.reduceEq, Int.reduceNeg, Int.reduceToNat, Nat.reducePow, reduceIte, reduceCtorEq, hcell_push, hcell_top, okW_push, okW_top, hcell_hset_ne, hcell_hset_off, hcell_hset_eq, okW_hset, hset_size, Array.size_push, Nat.lt_add_one, ne_add_one, add_one_ne, Nat.add_assoc, add_same, add_lt_same, Nat.reduceEqDiff, lt_add_k, add_k_ne, ne_add_k, tc, w1, w2])|((with_reducible first|refine jW ?hy ?_|refine jY ?hy ?_);case hy=>rfl)|((with_reducible first|refine jX ?hy ?_|refine jZ ?hy ?_);case hy=>rfl)|((with_reducible refine jF ?hy ?_);case hy=>decide))
   simp only [ite_self]
   exact fin _ (by ((repeat (first | refine Fr.set ?_ (by simp) _ | refine Fr.push ?_ _)); exact Fr.refl _ _))
  ·have tc : (a1 == 0) = false := by simp [hc]
   rw [if_neg hc, if_neg hc] at fin
   unfold minI maxI at fin
   refine call75 (by simp) ?_
   simp only [Try.f75, Option.getD_some]
   repeat' (first|(with_reducible first|refine jA ?_|(refine hK _ _ ?_;clear hK K)|refine jJ fun K hK=>?_|refine jK ?_|refine jL ?_|refine jM ?_|refine jN ?_|refine jO ?_|refine jP ?_|refine jQ ?_|(refine jB ?_;clear hK K)|(refine jC ?_;clear hK K)|refine jD ?_|refine jE ?_|refine jG ?_|refine jH ?_|refine jI ?_)|((with_reducible refine jR ?hq ?_);case hq=>rfl)|((first|(with_reducible first|refine jS fun K hK=>?_|refine jT ?_|refine jU ?_)|((with_reducible refine jV ?hy fun K hK=>?_);case hy=>rfl));simp only [go_sem, Nat.reduceEqDiff, Nat.reduceAdd, Nat.reduceMul, Nat.reduceLeDiff, Nat.reduceLT, Int.reduceLT, Int.reduceLE, Int.reduceEq, Int.reduceNeg, Int.reduceToNat, Nat.reducePow, reduceIte, reduceCtorEq, hcell_push, hcell_top, okW_push, okW_top, hcell_hset_ne, hcell_hset_off, hcell_hset_eq, okW_hset, hset_size, Array.size_push, Nat.lt_add_one, ne_add_one, add_one_ne, Nat.add_assoc, add_same, add_lt_same, Nat.reduceEqDiff, lt_add_k, add_k_ne, ne_add_k, tc, w1, w2])|((with_reducible first|refine jW ?hy ?_|refine jY ?hy ?_);case hy=>rfl)|((with_reducible first|refine jX ?hy ?_|refine jZ ?hy ?_);case hy=>rfl)|((with_reducible refine jF ?hy ?_);case hy=>decide))
   simp only [gt_iff_lt] at fin
   exact fin _ (by ((repeat (first | refine Fr.set ?_ (by simp) _ | refine Fr.push ?_ _)); exact Fr.refl _ _))
theorem rg_sum_none {i : Int} (hG : RgP H x col R its inn L q TR Bi vi Bn vn TL vl) (hi : R.hasB i = false) (fin : ∀ H', Fr (fun _ => False) H H' → K (.tuple #[Agg.zero.val, .int .i64 31]) H') :
  CallsH Try.prog 60 #[.pointer (some ⟨x, 0, none⟩), .int .i64 i] H K := by
 have fr0 : Fr (fun _ => False) H (H.push (.cells #[.int .i64 0, .int .i64 0, .int .i64 0, .int .i64 0, .int .i64 0] 42)) := (Fr.refl _ _).push _
 have hG1 := hG.grow fr0 (fun _ _ h => h)
 refine call60 (by simp) ?_
 simp only [Try.f60, Option.getD_some]
 repeat' (first|(with_reducible first|refine jA ?_|(refine hK _ _ ?_;clear hK K)|refine jJ fun K hK=>?_|refine jK ?_|refine jL ?_|refine jM ?_|refine jN ?_|refine jO ?_|refine jP ?_|refine jQ ?_|(refine jB ?_;clear hK K)|(refine jC ?_;clear hK K)|refine jD ?_|refine jE ?_|refine jG ?_|refine jH ?_|refine jI ?_)|((with_reducible refine jR ?hq ?_);case hq=>rfl)|((first|(with_reducible first|refine jS fun K hK=>?_|refine jT ?_|refine jU ?_)|((with_reducible refine jV ?hy fun K hK=>?_);case hy=>rfl));simp only [go_sem, Nat.reduceEqDiff, Nat.reduceAdd, Nat.reduceMul, Nat.reduceLeDiff, Nat.reduceLT, Int.reduceLT, Int.reduceLE, Int.reduceEq, Int.reduceNeg, Int.reduceToNat, Nat.reducePow, reduceIte, reduceCtorEq])|((with_reducible first|refine jW ?hy ?_|refine jY ?hy ?_);case hy=>rfl)|((with_reducible first|refine jX ?hy ?_|refine jZ ?hy ?_);case hy=>rfl)|((with_reducible refine jF ?hy ?_);case hy=>decide))
 refine rg_has hG1 ?_
 rw [hi]
 repeat' (first|(with_reducible first|refine jA ?_|(refine hK _ _ ?_;clear hK K)|refine jJ fun K hK=>?_|refine jK ?_|refine jL ?_|refine jM ?_|refine jN ?_|refine jO ?_|refine jP ?_|refine jQ ?_|(refine jB ?_;clear hK K)|(refine jC ?_;clear hK K)|refine jD ?_|refine jE ?_|refine jG ?_|refine jH ?_|refine jI ?_)|((with_reducible refine jR ?hq ?_);case hq=>rfl)|((first|(with_reducible first|refine jS fun K hK=>?_|refine jT ?_|refine jU ?_)|((with_reducible refine jV ?hy fun K hK=>?_);case hy=>rfl));simp only [go_sem, Nat.reduceEqDiff, Nat.reduceAdd, Nat.reduceMul, Nat.reduceLeDiff, Nat.reduceLT, Int.reduceLT, Int.reduceLE, Int.reduceEq, Int.reduceNeg, Int.reduceToNat, Nat.reducePow, reduceIte, reduceCtorEq, hcell_push, hcell_top, okW_push, okW_top, hcell_hset_ne, hcell_hset_off, hcell_hset_eq, okW_hset, hset_size, Array.size_push, Nat.lt_add_one, ne_add_one, add_one_ne, Nat.add_assoc, add_same, add_lt_same, Nat.reduceEqDiff, lt_add_k, add_k_ne, ne_add_k])|((with_reducible first|refine jW ?hy ?_|refine jY ?hy ?_);case hy=>rfl)|((with_reducible first|refine jX ?hy ?_|refine jZ ?hy ?_);case hy=>rfl)|((with_reducible refine jF ?hy ?_);case hy=>decide))
 exact fin _ (by ((repeat (first | refine Fr.set ?_ (by simp) _ | refine Fr.push ?_ _)); exact Fr.refl _ _))
def aggC (a : Agg) : List Value := [.int .i64 a.count, .int .i64 a.sum, .int .i64 a.least, .int .i64 a.most, .int .i64 a.flags]
theorem rg_sum {h n : Nat} {ys : List Nat} {it : Nat → Sp.Item} (hG : RgP H x col R its inn L q TR Bi vi Bn vn TL vl) (hi : R.hasB (h : Nat) = true) (h1 : inn[h]? = some (n : Int)) (h2 : L[n]? = some (ys.map Int.ofNat)) (hyl : ys.length ≤ 100000)
  (hit : ∀ k ∈ ys, its[k]? = some (it k) ∧ May (it k)) (fin : ∀ H', Fr (fun _ => False) H H' → K (.tuple #[(aggOf it ys).val, .int .i64 0]) H') :
  CallsH Try.prog 60 #[.pointer (some ⟨x, 0, none⟩), .int .i64 (h : Nat)] H K := by
 have hml : (ys.map Int.ofNat).length = ys.length := by simp
 have fr0 : Fr (fun _ => False) H (H.push (.cells #[.int .i64 0, .int .i64 0, .int .i64 0, .int .i64 0, .int .i64 0] 42)) := (Fr.refl _ _).push _
 have b4 := Blk.new H [.int .i64 0, .int .i64 0, .int .i64 0, .int .i64 0, .int .i64 0] 42
 have hG1 := hG.grow fr0 (fun _ _ h => h)
 refine call60 (by simp) ?_
 simp only [Try.f60, Option.getD_some]
 repeat' (first|(with_reducible first|refine jA ?_|(refine hK _ _ ?_;clear hK K)|refine jJ fun K hK=>?_|refine jK ?_|refine jL ?_|refine jM ?_|refine jN ?_|refine jO ?_|refine jP ?_|refine jQ ?_|(refine jB ?_;clear hK K)|(refine jC ?_;clear hK K)|refine jD ?_|refine jE ?_|refine jG ?_|refine jH ?_|refine jI ?_)|((with_reducible refine jR ?hq ?_);case hq=>rfl)|((first|(with_reducible first|refine jS fun K hK=>?_|refine jT ?_|refine jU ?_)|((with_reducible refine jV ?hy fun K hK=>?_);case hy=>rfl));simp only [go_sem, Nat.reduceEqDiff, Nat.reduceAdd, Nat.reduceMul, Nat.reduceLeDiff, Nat.reduceLT, Int.reduceLT, Int.reduceLE, Int.reduceEq, Int.reduceNeg, Int.reduceToNat, Nat.reducePow, reduceIte, reduceCtorEq])|((with_reducible first|refine jW ?hy ?_|refine jY ?hy ?_);case hy=>rfl)|((with_reducible first|refine jX ?hy ?_|refine jZ ?hy ?_);case hy=>rfl)|((with_reducible refine jF ?hy ?_);case hy=>decide))
 generalize hH1 : H.push (.cells #[.int .i64 0, .int .i64 0, .int .i64 0, .int .i64 0, .int .i64 0] 42) = H1 at *
 have s1 : H1.size = H.size + 1 := by rw [← hH1]; simp
 clear hH1
 refine rg_has hG1 ?_
 rw [hi]
 repeat' (first|(with_reducible first|refine jA ?_|(refine hK _ _ ?_;clear hK K)|refine jJ fun K hK=>?_|refine jK ?_|refine jL ?_|refine jM ?_|refine jN ?_|refine jO ?_|refine jP ?_|refine jQ ?_|(refine jB ?_;clear hK K)|(refine jC ?_;clear hK K)|refine jD ?_|refine jE ?_|refine jG ?_|refine jH ?_|refine jI ?_)|((with_reducible refine jR ?hq ?_);case hq=>rfl)|((first|(with_reducible first|refine jS fun K hK=>?_|refine jT ?_|refine jU ?_)|((with_reducible refine jV ?hy fun K hK=>?_);case hy=>rfl));simp only [go_sem, Nat.reduceEqDiff, Nat.reduceAdd, Nat.reduceMul, Nat.reduceLeDiff, Nat.reduceLT, Int.reduceLT, Int.reduceLE, Int.reduceEq, Int.reduceNeg, Int.reduceToNat, Nat.reducePow, reduceIte, reduceCtorEq])|((with_reducible first|refine jW ?hy ?_|refine jY ?hy ?_);case hy=>rfl)|((with_reducible first|refine jX ?hy ?_|refine jZ ?hy ?_);case hy=>rfl)|((with_reducible refine jF ?hy ?_);case hy=>decide))
 refine rg_of hG1 h1 h2 fun B v hv hB => ?_
 obtain ⟨av, cv, rfl⟩ := hv.slice
 repeat' (first|(with_reducible first|refine jA ?_|(refine hK _ _ ?_;clear hK K)|refine jJ fun K hK=>?_|refine jK ?_|refine jL ?_|refine jM ?_|refine jN ?_|refine jO ?_|refine jP ?_|refine jQ ?_|(refine jB ?_;clear hK K)|(refine jC ?_;clear hK K)|refine jD ?_|refine jE ?_|refine jG ?_|refine jH ?_|refine jI ?_)|((with_reducible refine jR ?hq ?_);case hq=>rfl)|((first|(with_reducible first|refine jS fun K hK=>?_|refine jT ?_|refine jU ?_)|((with_reducible refine jV ?hy fun K hK=>?_);case hy=>rfl));simp only [go_sem, Nat.reduceEqDiff, Nat.reduceAdd, Nat.reduceMul, Nat.reduceLeDiff, Nat.reduceLT, Int.reduceLT, Int.reduceLE, Int.reduceEq, Int.reduceNeg, Int.reduceToNat, Nat.reducePow, reduceIte, reduceCtorEq, hcell_push, hcell_top, okW_push, okW_top, hcell_hset_ne, hcell_hset_off, hcell_hset_eq, okW_hset, hset_size, Array.size_push, Nat.lt_add_one, ne_add_one, add_one_ne, Nat.add_assoc, add_same, add_lt_same, Nat.reduceEqDiff, lt_add_k, add_k_ne, ne_add_k])|((with_reducible first|refine jW ?hy ?_|refine jY ?hy ?_);case hy=>rfl)|((with_reducible first|refine jX ?hy ?_|refine jZ ?hy ?_);case hy=>rfl)|((with_reducible refine jF ?hy ?_);case hy=>decide))
 have b7 := (((((Blk.new H1 [.int .i64 0, .int .i64 0, .int .i64 0, .int .i64 0, .int .i64 0] 42).set_same 0 (.int .i64 0)).set_same 1 (.int .i64 0)).set_same 2 (.int .i64 0)).set_same 3 (.int .i64 0)).set_same 4 (.int .i64 0)
 simp only [List.set_cons_zero, List.set_cons_succ] at b7
 have b4' := b4.lt
 refine x_loop (fun m e' H' => ∃ i : Nat, e' 8 = .int .i64 (i : Nat) ∧ i ≤ ys.length ∧ Blk H' H1.size (aggC (aggOf it (ys.take i))) ∧ Fr (fun b => H1.size ≤ b) H1 H' ∧ m = ys.length - i) ys.length ⟨0, rfl, Nat.zero_le _, b7, (by (repeat (first | refine Fr.set ?_ (by simp) _ | refine Fr.push ?_ _)); exact Fr.refl _ _), rfl⟩ ?_
 clear b7
 rintro m e1 H2 ⟨i, i8, hil, b7, hf, rfl⟩ hoff
 have i0 : e1 0 = .pointer (some ⟨x, 0, none⟩) := (hoff 0 rfl).trans rfl
 have i4 : e1 4 = .pointer (some ⟨H.size, 0, none⟩) := (hoff 4 rfl).trans rfl
 have i6 : e1 6 = .slice av (ys.map Int.ofNat).length cv := (hoff 6 rfl).trans rfl
 have i7 : e1 7 = .pointer (some ⟨H1.size, 0, none⟩) := (hoff 7 rfl).trans rfl
 clear hoff
 have hG2 := hG1.grow hf (fun b hb e => by have := hG1.lt b hb; omega)
 have hv2 := hv.frame hf (fun g hg e => by have := hv.lt hg; omega)
 have b42 := b4.frame hf (by omega)
 have k0 := b7.cellOf (i := 0) rfl
 have k1 := b7.cellOf (i := 1) rfl
 have k2 := b7.cellOf (i := 2) rfl
 have k3 := b7.cellOf (i := 3) rfl
 have k4 := b7.cellOf (i := 4) rfl
 by_cases hlt : i < ys.length
 ·obtain ⟨k, hk⟩ : ∃ k, ys[i]? = some k := ⟨_, List.getElem?_eq_getElem hlt⟩
  have hmem := List.mem_of_getElem? hk
  obtain ⟨hz, hmy⟩ := hit k hmem
  obtain ⟨g, c, rfl, hv', cz⟩ := hv2.at (i := i) (x := (k : Int)) (by rw [List.getElem?_map, hk]; rfl)
  simp only [Value.slice.injEq, true_and] at hv'
  obtain ⟨rfl, rfl⟩ := hv'
  have c1 := hG2.b.cellOf (i := 1) rfl
  obtain ⟨gi, ci, rfl, rfl, d0, d1, d2⟩ := hG2.it.read hz
  have lk := (List.getElem?_eq_some_iff.1 hz).1
  have tl1 : (i < (ys.map Int.ofNat).length) = True := by simp; omega
  have ew : IntKind.i64.wrap ((i : Int) + 1) = ((i + 1 : Nat) : Int) := by rw [wrap_i64] <;> omega
  repeat' (first|(with_reducible first|refine jA ?_|(refine hK _ _ ?_;clear hK K)|refine jJ fun K hK=>?_|refine jK ?_|refine jL ?_|refine jM ?_|refine jN ?_|refine jO ?_|refine jP ?_|refine jQ ?_|(refine jB ?_;clear hK K)|(refine jC ?_;clear hK K)|refine jD ?_|refine jE ?_|refine jG ?_|refine jH ?_|refine jI ?_)|((with_reducible refine jR ?hq ?_);case hq=>rfl)|((first|(with_reducible first|refine jS fun K hK=>?_|refine jT ?_|refine jU ?_)|((with_reducible refine jV ?hy fun K hK=>?_);case hy=>rfl));simp only [go_sem, Nat.reduceEqDiff, Nat.reduceAdd, Nat.reduceMul, Nat.reduceLeDiff, Nat.reduceLT, Int.reduceLT, Int.reduceLE, Int.reduceEq, Int.reduceNeg, Int.reduceToNat, Nat.reducePow, reduceIte, reduceCtorEq, i0, i6, i7, i8, c1, cz, tl1, lk, d0, d1, d2, k0, k1, k2, k3, k4])|((with_reducible first|refine jW ?hy ?_|refine jY ?hy ?_);case hy=>rfl)|((with_reducible first|refine jX ?hy ?_|refine jZ ?hy ?_);case hy=>rfl)|((with_reducible refine jF ?hy ?_);case hy=>decide))
  refine rg_add (xs := (ys.take i).map it) (z := it k) (fun y hy => by
   obtain ⟨j, hj, rfl⟩ := List.mem_map.1 hy
   exact (hit j (List.mem_of_mem_take hj)).2) hmy (by simp; omega) fun H3 f3 => ?_
  have b73 := b7.frame f3 (fun h => h)
  have w0 := b73.okW (i := 0) (by simp [aggC])
  have w1 := b73.okW (i := 1) (by simp [aggC])
  have w2 := b73.okW (i := 2) (by simp [aggC])
  have w3 := b73.okW (i := 3) (by simp [aggC])
  have w4 := b73.okW (i := 4) (by simp [aggC])
  have hts : (ys.take i).map it ++ [it k] = (ys.take (i + 1)).map it := by rw [List.take_add_one, hk, List.map_append]; rfl
  rw [hts]
  have hag : aggL ((ys.take (i + 1)).map it) = aggOf it (ys.take (i + 1)) := rfl
  rw [hag]
  repeat' (first|(with_reducible first|refine jA ?_|(refine hK _ _ ?_;clear hK K)|refine jJ fun K hK=>?_|refine jK ?_|refine jL ?_|refine jM ?_|refine jN ?_|refine jO ?_|refine jP ?_|refine jQ ?_|(refine jB ?_;clear hK K)|(refine jC ?_;clear hK K)|refine jD ?_|refine jE ?_|refine jG ?_|refine jH ?_|refine jI ?_)|((with_reducible refine jR ?hq ?_);case hq=>rfl)|((first|(with_reducible first|refine jS fun K hK=>?_|refine jT ?_|refine jU ?_)|((with_reducible refine jV ?hy fun K hK=>?_);case hy=>rfl));simp only [go_sem, Nat.reduceEqDiff, Nat.reduceAdd, Nat.reduceMul, Nat.reduceLeDiff, Nat.reduceLT, Int.reduceLT, Int.reduceLE, Int.reduceEq, Int.reduceNeg, Int.reduceToNat, Nat.reducePow, reduceIte, reduceCtorEq, i7, i8, Agg.val, okW_hset, w0, w1, w2, w3, w4, ew])|((with_reducible first|refine jW ?hy ?_|refine jY ?hy ?_);case hy=>rfl)|((with_reducible first|refine jX ?hy ?_|refine jZ ?hy ?_);case hy=>rfl)|((with_reducible refine jF ?hy ?_);case hy=>decide))
  have b8 := ((((b73.set_same 0 (.int .i64 (aggOf it (ys.take (i + 1))).count)).set_same 1 (.int .i64 (aggOf it (ys.take (i + 1))).sum)).set_same 2 (.int .i64 (aggOf it (ys.take (i + 1))).least)).set_same 3 (.int .i64 (aggOf it (ys.take (i + 1))).most)).set_same 4 (.int .i64 (aggOf it (ys.take (i + 1))).flags)
  refine loop_normal (m' := ys.length - (i + 1)) (by omega) ⟨i + 1, rfl, hlt, b8, ?_, rfl⟩
  refine Fr.set (Fr.set (Fr.set (Fr.set (Fr.set (hf.trans (f3.mono fun _ _ h => h.elim)) (.inl (Nat.le_refl _)) _) (.inl (Nat.le_refl _)) _) (.inl (Nat.le_refl _)) _) (.inl (Nat.le_refl _)) _) (.inl (Nat.le_refl _)) _
 ·have tl1 : (i < (ys.map Int.ofNat).length) = False := by simp; omega
  have ht : ys.take i = ys := List.take_of_length_le (by omega)
  rw [ht] at k0 k1 k2 k3 k4
  have w0 := b42.okW (i := 0) (by simp)
  have w1 := b42.okW (i := 1) (by simp)
  have w2 := b42.okW (i := 2) (by simp)
  have w3 := b42.okW (i := 3) (by simp)
  have w4 := b42.okW (i := 4) (by simp)
  repeat' (first|(with_reducible first|refine jA ?_|(refine hK _ _ ?_;clear hK K)|refine jJ fun K hK=>?_|refine jK ?_|refine jL ?_|refine jM ?_|refine jN ?_|refine jO ?_|refine jP ?_|refine jQ ?_|(refine jB ?_;clear hK K)|(refine jC ?_;clear hK K)|refine jD ?_|refine jE ?_|refine jG ?_|refine jH ?_|refine jI ?_)|((with_reducible refine jR ?hq ?_);case hq=>rfl)|((first|(with_reducible first|refine jS fun K hK=>?_|refine jT ?_|refine jU ?_)|((with_reducible refine jV ?hy fun K hK=>?_);case hy=>rfl));simp only [go_sem, Nat.reduceEqDiff, Nat.reduceAdd, Nat.reduceMul, Nat.reduceLeDiff, Nat.reduceLT, Int.reduceLT, Int.reduceLE, Int.reduceEq, Int.reduceNeg, Int.reduceToNat, Nat.reducePow, reduceIte, reduceCtorEq, i4, i6, i7, i8, tl1, k0, k1, k2, k3, k4, okW_hset, w0, w1, w2, w3, w4])|((with_reducible first|refine jW ?hy ?_|refine jY ?hy ?_);case hy=>rfl)|((with_reducible first|refine jX ?hy ?_|refine jZ ?hy ?_);case hy=>rfl)|((with_reducible refine jF ?hy ?_);case hy=>decide))
  simp only [go_sem, Nat.reduceEqDiff, Nat.reduceAdd, Nat.reduceMul, Nat.reduceLeDiff, Nat.reduceLT, Int.reduceLT, Int.reduceLE, Int.reduceEq, Int.reduceNeg, Int.reduceToNat, Nat.reducePow, reduceIte, reduceCtorEq, hcell_push, hcell_top, okW_push, okW_top, hcell_hset_ne, hcell_hset_off, hcell_hset_eq, okW_hset, hset_size, Array.size_push, Nat.lt_add_one, ne_add_one, add_one_ne, Nat.add_assoc, add_same, add_lt_same, Nat.reduceEqDiff, lt_add_k, add_k_ne, ne_add_k, okW_hset, w0, w1, w2, w3, w4]
  refine fin _ ?_
  refine Fr.set (Fr.set (Fr.set (Fr.set (Fr.set (fr0.trans' hf fun b hb h => by omega) (.inr (Nat.le_refl _)) _) (.inr (Nat.le_refl _)) _) (.inr (Nat.le_refl _)) _) (.inr (Nat.le_refl _)) _) (.inr (Nat.le_refl _)) _
end
section
variable {H : Heap} {x : Nat} {col : Nat → Nat} {R : Rf} {its : List Sp.Item} {inn : List Int} {L : List (List Int)} {q : Nat} {TR : Nat → Prop} {Bi : Option Nat} {vi : Value} {Bn : Option Nat} {vn : Value} {TL : Nat → Prop} {vl : Value} {K : Value → Heap → Prop}
theorem rg_set_none {i : Int} {z : Sp.Item} (hG : RgP H x col R its inn L q TR Bi vi Bn vn TL vl) (hi : R.hasB i = false) (fin : ∀ H', Fr (fun _ => False) H H' → K (.int .i64 31) H') :
  CallsH Try.prog 53 #[.pointer (some ⟨x, 0, none⟩), .int .i64 i, z.val] H K := by
 have fr0 : Fr (fun _ => False) H (H.push (.cells #[.int .i64 z.value, .bool z.counts, .int .i64 z.flags] 31)) := (Fr.refl _ _).push _
 have hG1 := hG.grow fr0 (fun _ _ h => h)
 refine call53 (by simp) ?_
 simp only [Try.f53, Option.getD_some]
 repeat' (first|(with_reducible first|refine jA ?_|(refine hK _ _ ?_;clear hK K)|refine jJ fun K hK=>?_|refine jK ?_|refine jL ?_|refine jM ?_|refine jN ?_|refine jO ?_|refine jP ?_|refine jQ ?_|(refine jB ?_;clear hK K)|(refine jC ?_;clear hK K)|refine jD ?_|refine jE ?_|refine jG ?_|refine jH ?_|refine jI ?_)|((with_reducible refine jR ?hq ?_);case hq=>rfl)|((first|(with_reducible first|refine jS fun K hK=>?_|refine jT ?_|refine jU ?_)|((with_reducible refine jV ?hy fun K hK=>?_);case hy=>rfl));simp only [go_sem, Nat.reduceEqDiff, Nat.reduceAdd, Nat.reduceMul, Nat.reduceLeDiff, Nat.reduceLT, Int.reduceLT, Int.reduceLE, Int.reduceEq, Int.reduceNeg, Int.reduceToNat, Nat.reducePow, reduceIte, reduceCtorEq, Sp.Item.val])|((with_reducible first|refine jW ?hy ?_|refine jY ?hy ?_);case hy=>rfl)|((with_reducible first|refine jX ?hy ?_|refine jZ ?hy ?_);case hy=>rfl)|((with_reducible refine jF ?hy ?_);case hy=>decide))
 refine rg_has hG1 ?_
 rw [hi]
 repeat' (first|(with_reducible first|refine jA ?_|(refine hK _ _ ?_;clear hK K)|refine jJ fun K hK=>?_|refine jK ?_|refine jL ?_|refine jM ?_|refine jN ?_|refine jO ?_|refine jP ?_|refine jQ ?_|(refine jB ?_;clear hK K)|(refine jC ?_;clear hK K)|refine jD ?_|refine jE ?_|refine jG ?_|refine jH ?_|refine jI ?_)|((with_reducible refine jR ?hq ?_);case hq=>rfl)|((first|(with_reducible first|refine jS fun K hK=>?_|refine jT ?_|refine jU ?_)|((with_reducible refine jV ?hy fun K hK=>?_);case hy=>rfl));simp only [go_sem, Nat.reduceEqDiff, Nat.reduceAdd, Nat.reduceMul, Nat.reduceLeDiff, Nat.reduceLT, Int.reduceLT, Int.reduceLE, Int.reduceEq, Int.reduceNeg, Int.reduceToNat, Nat.reducePow, reduceIte, reduceCtorEq])|((with_reducible first|refine jW ?hy ?_|refine jY ?hy ?_);case hy=>rfl)|((with_reducible first|refine jX ?hy ?_|refine jZ ?hy ?_);case hy=>rfl)|((with_reducible refine jF ?hy ?_);case hy=>decide))
 exact fin _ (by ((repeat (first | refine Fr.set ?_ (by simp) _ | refine Fr.push ?_ _)); exact Fr.refl _ _))
theorem rg_set {h : Nat} {z : Sp.Item} (hG : RgP H x col R its inn L q TR Bi vi Bn vn TL vl) (hi : R.hasB (h : Nat) = true) (hh : h < its.length)
  (bad : mayB z = false → ∀ H', Fr (fun _ => False) H H' → K (.int .i64 1) H')
  (fin : mayB z = true → ∀ H' Bi' vi', RgP H' x col R (its.set h z) inn L q TR Bi' vi' Bn vn TL vl → Nx col col H H' → K (.int .i64 0) H') :
  CallsH Try.prog 53 #[.pointer (some ⟨x, 0, none⟩), .int .i64 (h : Nat), z.val] H K := by
 have fr0 : Fr (fun _ => False) H (H.push (.cells #[.int .i64 z.value, .bool z.counts, .int .i64 z.flags] 31)) := (Fr.refl _ _).push _
 have hG1 := hG.grow fr0 (fun _ _ h => h)
 have b1 := Blk.new H [.int .i64 z.value, .bool z.counts, .int .i64 z.flags] 31
 have k0 := b1.cellOf (i := 0) rfl
 have k1 := b1.cellOf (i := 1) rfl
 have k2 := b1.cellOf (i := 2) rfl
 refine call53 (by simp) ?_
 simp only [Try.f53, Option.getD_some]
 repeat' (first|(with_reducible first|refine jA ?_|(refine hK _ _ ?_;clear hK K)|refine jJ fun K hK=>?_|refine jK ?_|refine jL ?_|refine jM ?_|refine jN ?_|refine jO ?_|refine jP ?_|refine jQ ?_|(refine jB ?_;clear hK K)|(refine jC ?_;clear hK K)|refine jD ?_|refine jE ?_|refine jG ?_|refine jH ?_|refine jI ?_)|((with_reducible refine jR ?hq ?_);case hq=>rfl)|((first|(with_reducible first|refine jS fun K hK=>?_|refine jT ?_|refine jU ?_)|((with_reducible refine jV ?hy fun K hK=>?_);case hy=>rfl));simp only [go_sem, Nat.reduceEqDiff, Nat.reduceAdd, Nat.reduceMul, Nat.reduceLeDiff, Nat.reduceLT, Int.reduceLT, Int.reduceLE, Int.reduceEq, Int.reduceNeg, Int.reduceToNat, Nat.reducePow, reduceIte, reduceCtorEq, Sp.Item.val])|((with_reducible first|refine jW ?hy ?_|refine jY ?hy ?_);case hy=>rfl)|((with_reducible first|refine jX ?hy ?_|refine jZ ?hy ?_);case hy=>rfl)|((with_reducible refine jF ?hy ?_);case hy=>decide))
 refine rg_has hG1 ?_
 rw [hi]
 repeat' (first|(with_reducible first|refine jA ?_|(refine hK _ _ ?_;clear hK K)|refine jJ fun K hK=>?_|refine jK ?_|refine jL ?_|refine jM ?_|refine jN ?_|refine jO ?_|refine jP ?_|refine jQ ?_|(refine jB ?_;clear hK K)|(refine jC ?_;clear hK K)|refine jD ?_|refine jE ?_|refine jG ?_|refine jH ?_|refine jI ?_)|((with_reducible refine jR ?hq ?_);case hq=>rfl)|((first|(with_reducible first|refine jS fun K hK=>?_|refine jT ?_|refine jU ?_)|((with_reducible refine jV ?hy fun K hK=>?_);case hy=>rfl));simp only [go_sem, Nat.reduceEqDiff, Nat.reduceAdd, Nat.reduceMul, Nat.reduceLeDiff, Nat.reduceLT, Int.reduceLT, Int.reduceLE, Int.reduceEq, Int.reduceNeg, Int.reduceToNat, Nat.reducePow, reduceIte, reduceCtorEq, Sp.Item.val, k0, k1, k2])|((with_reducible first|refine jW ?hy ?_|refine jY ?hy ?_);case hy=>rfl)|((with_reducible first|refine jX ?hy ?_|refine jZ ?hy ?_);case hy=>rfl)|((with_reducible refine jF ?hy ?_);case hy=>decide))
 refine rg_may (z := z) fun H2 hf2 => ?_
 cases hm : mayB z with
 | false =>
  repeat' (first|(with_reducible first|refine jA ?_|(refine hK _ _ ?_;clear hK K)|refine jJ fun K hK=>?_|refine jK ?_|refine jL ?_|refine jM ?_|refine jN ?_|refine jO ?_|refine jP ?_|refine jQ ?_|(refine jB ?_;clear hK K)|(refine jC ?_;clear hK K)|refine jD ?_|refine jE ?_|refine jG ?_|refine jH ?_|refine jI ?_)|((with_reducible refine jR ?hq ?_);case hq=>rfl)|((first|(with_reducible first|refine jS fun K hK=>?_|refine jT ?_|refine jU ?_)|((with_reducible refine jV ?hy fun K hK=>?_);case hy=>rfl));simp only [go_sem, Nat.reduceEqDiff, Nat.reduceAdd, Nat.reduceMul, Nat.reduceLeDiff, Nat.reduceLT, Int.reduceLT, Int.reduceLE, Int.reduceEq, Int.reduceNeg, Int.reduceToNat, Nat.reducePow, reduceIte, reduceCtorEq])|((with_reducible first|refine jW ?hy ?_|refine jY ?hy ?_);case hy=>rfl)|((with_reducible first|refine jX ?hy ?_|refine jZ ?hy ?_);case hy=>rfl)|((with_reducible refine jF ?hy ?_);case hy=>decide))
  exact bad hm _ (fr0.trans hf2)
 | true =>
  have hG2 := hG1.grow hf2 (fun _ _ h => h)
  have b2 := b1.frame hf2 (fun h => h)
  have j0 := b2.cellOf (i := 0) rfl
  have j1 := b2.cellOf (i := 1) rfl
  have j2 := b2.cellOf (i := 2) rfl
  have c1 := hG2.b.cellOf (i := 1) rfl
  obtain ⟨z0, hz0⟩ : ∃ z0, its[h]? = some z0 := ⟨_, List.getElem?_eq_getElem hh⟩
  obtain ⟨g, c, rfl, rfl, -⟩ := hG2.it.read hz0
  obtain ⟨w0, w1, w2, hG3, n3⟩ := hG2.wrIt (z := z) hh
  repeat' (first|(with_reducible first|refine jA ?_|(refine hK _ _ ?_;clear hK K)|refine jJ fun K hK=>?_|refine jK ?_|refine jL ?_|refine jM ?_|refine jN ?_|refine jO ?_|refine jP ?_|refine jQ ?_|(refine jB ?_;clear hK K)|(refine jC ?_;clear hK K)|refine jD ?_|refine jE ?_|refine jG ?_|refine jH ?_|refine jI ?_)|((with_reducible refine jR ?hq ?_);case hq=>rfl)|((first|(with_reducible first|refine jS fun K hK=>?_|refine jT ?_|refine jU ?_)|((with_reducible refine jV ?hy fun K hK=>?_);case hy=>rfl));simp only [go_sem, Nat.reduceEqDiff, Nat.reduceAdd, Nat.reduceMul, Nat.reduceLeDiff, Nat.reduceLT, Int.reduceLT, Int.reduceLE, Int.reduceEq, Int.reduceNeg, Int.reduceToNat, Nat.reducePow, reduceIte, reduceCtorEq, c1, hh, j0, j1, j2, w0, w1, w2, okW_hset])|((with_reducible first|refine jW ?hy ?_|refine jY ?hy ?_);case hy=>rfl)|((with_reducible first|refine jX ?hy ?_|refine jZ ?hy ?_);case hy=>rfl)|((with_reducible refine jF ?hy ?_);case hy=>decide))
  exact fin hm _ _ _ hG3 ((Nx.same (fr0.trans hf2) fun _ h => h.elim).trans n3)
theorem rg_flagged_none {i n : Int} (hG : RgP H x col R its inn L q TR Bi vi Bn vn TL vl) (hi : R.hasB i = false) (fin : K (.tuple #[.int .i64 0, .int .i64 31]) H) :
  CallsH Try.prog 61 #[.pointer (some ⟨x, 0, none⟩), .int .i64 i, .int .i64 n] H K := by
 refine call61 (by simp) ?_
 simp only [Try.f61, Option.getD_some]
 repeat' (first|(with_reducible first|refine jA ?_|(refine hK _ _ ?_;clear hK K)|refine jJ fun K hK=>?_|refine jK ?_|refine jL ?_|refine jM ?_|refine jN ?_|refine jO ?_|refine jP ?_|refine jQ ?_|(refine jB ?_;clear hK K)|(refine jC ?_;clear hK K)|refine jD ?_|refine jE ?_|refine jG ?_|refine jH ?_|refine jI ?_)|((with_reducible refine jR ?hq ?_);case hq=>rfl)|((first|(with_reducible first|refine jS fun K hK=>?_|refine jT ?_|refine jU ?_)|((with_reducible refine jV ?hy fun K hK=>?_);case hy=>rfl));simp only [go_sem, Nat.reduceEqDiff, Nat.reduceAdd, Nat.reduceMul, Nat.reduceLeDiff, Nat.reduceLT, Int.reduceLT, Int.reduceLE, Int.reduceEq, Int.reduceNeg, Int.reduceToNat, Nat.reducePow, reduceIte, reduceCtorEq])|((with_reducible first|refine jW ?hy ?_|refine jY ?hy ?_);case hy=>rfl)|((with_reducible first|refine jX ?hy ?_|refine jZ ?hy ?_);case hy=>rfl)|((with_reducible refine jF ?hy ?_);case hy=>decide))
 refine rg_has hG ?_
 rw [hi]
 repeat' (first|(with_reducible first|refine jA ?_|(refine hK _ _ ?_;clear hK K)|refine jJ fun K hK=>?_|refine jK ?_|refine jL ?_|refine jM ?_|refine jN ?_|refine jO ?_|refine jP ?_|refine jQ ?_|(refine jB ?_;clear hK K)|(refine jC ?_;clear hK K)|refine jD ?_|refine jE ?_|refine jG ?_|refine jH ?_|refine jI ?_)|((with_reducible refine jR ?hq ?_);case hq=>rfl)|((first|(with_reducible first|refine jS fun K hK=>?_|refine jT ?_|refine jU ?_)|((with_reducible refine jV ?hy fun K hK=>?_);case hy=>rfl));simp only [go_sem, Nat.reduceEqDiff, Nat.reduceAdd, Nat.reduceMul, Nat.reduceLeDiff, Nat.reduceLT, Int.reduceLT, Int.reduceLE, Int.reduceEq, Int.reduceNeg, Int.reduceToNat, Nat.reducePow, reduceIte, reduceCtorEq])|((with_reducible first|refine jW ?hy ?_|refine jY ?hy ?_);case hy=>rfl)|((with_reducible first|refine jX ?hy ?_|refine jZ ?hy ?_);case hy=>rfl)|((with_reducible refine jF ?hy ?_);case hy=>decide))
 exact fin
theorem rg_flagged_bad {i n : Int} (hG : RgP H x col R its inn L q TR Bi vi Bn vn TL vl) (hi : R.hasB i = true) (hn : ¬ (0 ≤ n ∧ n < 256)) (fin : K (.tuple #[.int .i64 0, .int .i64 1]) H) :
  CallsH Try.prog 61 #[.pointer (some ⟨x, 0, none⟩), .int .i64 i, .int .i64 n] H K := by
 refine call61 (by simp) ?_
 simp only [Try.f61, Option.getD_some]
 repeat' (first|(with_reducible first|refine jA ?_|(refine hK _ _ ?_;clear hK K)|refine jJ fun K hK=>?_|refine jK ?_|refine jL ?_|refine jM ?_|refine jN ?_|refine jO ?_|refine jP ?_|refine jQ ?_|(refine jB ?_;clear hK K)|(refine jC ?_;clear hK K)|refine jD ?_|refine jE ?_|refine jG ?_|refine jH ?_|refine jI ?_)|((with_reducible refine jR ?hq ?_);case hq=>rfl)|((first|(with_reducible first|refine jS fun K hK=>?_|refine jT ?_|refine jU ?_)|((with_reducible refine jV ?hy fun K hK=>?_);case hy=>rfl));simp only [go_sem, Nat.reduceEqDiff, Nat.reduceAdd, Nat.reduceMul, Nat.reduceLeDiff, Nat.reduceLT, Int.reduceLT, Int.reduceLE, Int.reduceEq, Int.reduceNeg, Int.reduceToNat, Nat.reducePow, reduceIte, reduceCtorEq])|((with_reducible first|refine jW ?hy ?_|refine jY ?hy ?_);case hy=>rfl)|((with_reducible first|refine jX ?hy ?_|refine jZ ?hy ?_);case hy=>rfl)|((with_reducible refine jF ?hy ?_);case hy=>decide))
 refine rg_has hG ?_
 rw [hi]
 by_cases h0 : n < 0
 ·have t1 : (n < 0) = True := by simp [h0]
  repeat' (first|(with_reducible first|refine jA ?_|(refine hK _ _ ?_;clear hK K)|refine jJ fun K hK=>?_|refine jK ?_|refine jL ?_|refine jM ?_|refine jN ?_|refine jO ?_|refine jP ?_|refine jQ ?_|(refine jB ?_;clear hK K)|(refine jC ?_;clear hK K)|refine jD ?_|refine jE ?_|refine jG ?_|refine jH ?_|refine jI ?_)|((with_reducible refine jR ?hq ?_);case hq=>rfl)|((first|(with_reducible first|refine jS fun K hK=>?_|refine jT ?_|refine jU ?_)|((with_reducible refine jV ?hy fun K hK=>?_);case hy=>rfl));simp only [go_sem, Nat.reduceEqDiff, Nat.reduceAdd, Nat.reduceMul, Nat.reduceLeDiff, Nat.reduceLT, Int.reduceLT, Int.reduceLE, Int.reduceEq, Int.reduceNeg, Int.reduceToNat, Nat.reducePow, reduceIte, reduceCtorEq, t1])|((with_reducible first|refine jW ?hy ?_|refine jY ?hy ?_);case hy=>rfl)|((with_reducible first|refine jX ?hy ?_|refine jZ ?hy ?_);case hy=>rfl)|((with_reducible refine jF ?hy ?_);case hy=>decide))
  exact fin
 ·have t1 : (n < 0) = False := by simp [h0]
  have t2 : (255 < n) = True := by simp; omega
  repeat' (first|(with_reducible first|refine jA ?_|(refine hK _ _ ?_;clear hK K)|refine jJ fun K hK=>?_|refine jK ?_|refine jL ?_|refine jM ?_|refine jN ?_|refine jO ?_|refine jP ?_|refine jQ ?_|(refine jB ?_;clear hK K)|(refine jC ?_;clear hK K)|refine jD ?_|refine jE ?_|refine jG ?_|refine jH ?_|refine jI ?_)|((with_reducible refine jR ?hq ?_);case hq=>rfl)|((first|(with_reducible first|refine jS fun K hK=>?_|refine jT ?_|refine jU ?_)|((with_reducible refine jV ?hy fun K hK=>?_);case hy=>rfl));simp only [go_sem, Nat.reduceEqDiff, Nat.reduceAdd, Nat.reduceMul, Nat.reduceLeDiff, Nat.reduceLT, Int.reduceLT, Int.reduceLE, Int.reduceEq, Int.reduceNeg, Int.reduceToNat, Nat.reducePow, reduceIte, reduceCtorEq, t1, t2])|((with_reducible first|refine jW ?hy ?_|refine jY ?hy ?_);case hy=>rfl)|((with_reducible first|refine jX ?hy ?_|refine jZ ?hy ?_);case hy=>rfl)|((with_reducible refine jF ?hy ?_);case hy=>decide))
  exact fin
end
end Go.Proofs.Ytndkbhlfbeiniaa
namespace Go.Hp
open Go
set_option linter.unusedVariables false
theorem anyH_two {P : Program} {ops : Array Oper} {S : Heap → Prop} {Z : List Nat} {K : Env → Heap → Prop} {i j : Nat} {oi oj : Oper} {fuel : Nat} {listed : Array Bool} {e : Env} {H : Heap}
  (hr : Region.ready .any ops listed = [i, j]) (hi : ops[i]? = some oi) (hj : ops[j]? = some oj) (gi : oi.guard = none) (gj : oj.guard = none)
  (h1 : ∀ K' : Value → Heap → Prop, (∀ v H', (Z.contains i = false → S H') ∧ anyH P ops S Z K fuel (listed.setIfInBounds i true) (e.put oi.dst v) H' → K' v H') → opX P oi (Env.eval e) H K')
  (h2 : ∀ K' : Value → Heap → Prop, (∀ v H', (Z.contains j = false → S H') ∧ anyH P ops S Z K fuel (listed.setIfInBounds j true) (e.put oj.dst v) H' → K' v H') → opX P oj (Env.eval e) H K') :
  anyH P ops S Z K (fuel + 1) listed e H := by
 refine ⟨fun h => (by rw [h] at hr; cases hr), fun k hk => ?_⟩
 rw [hr] at hk
 rcases List.mem_cons.1 hk with rfl | hk
 ·simp only [hi]
  refine opAtR_of ?_
  unfold opAt
  rw [gi]
  exact h1 _ fun v H' h => h
 ·obtain rfl := List.mem_singleton.1 hk
  simp only [hj]
  refine opAtR_of ?_
  unfold opAt
  rw [gj]
  exact h2 _ fun v H' h => h
end Go.Hp
namespace Go.Proofs.Ytndkbhlfbeiniaa
open Go Go.Hp Go.Sp
set_option linter.all false
set_option maxRecDepth 100000
set_option maxHeartbeats 1600000
theorem rg_new_bad {H : Heap} {n : Int} {K : Value → Heap → Prop} (hn : n < 0 ∨ 1024 < n) (fin : K (.tuple #[.pointer none, .int .i64 1]) H) : CallsH Try.prog 30 #[.int .i64 n] H K := by
 refine call30 (by simp) ?_
 simp only [Try.f30, Option.getD_some]
 by_cases h0 : n < 0
 ·have e1 : (n < 0) = True := by simp [h0]
  repeat' (first|(with_reducible first|refine jA ?_|(refine hK _ _ ?_;clear hK K)|refine jJ fun K hK=>?_|refine jK ?_|refine jL ?_|refine jM ?_|refine jN ?_|refine jO ?_|refine jP ?_|refine jQ ?_|(refine jB ?_;clear hK K)|(refine jC ?_;clear hK K)|refine jD ?_|refine jE ?_|refine jG ?_|refine jH ?_|refine jI ?_)|((with_reducible refine jR ?hq ?_);case hq=>rfl)|((first|(with_reducible first|refine jS fun K hK=>?_|refine jT ?_|refine jU ?_)|((with_reducible refine jV ?hy fun K hK=>?_);case hy=>rfl));simp only [go_sem, Nat.reduceEqDiff, Nat.reduceAdd, Nat.reduceMul, Nat.reduceLeDiff, Nat.reduceLT, Int.reduceLT, Int.reduceLE, Int.reduceEq, Int.reduceNeg, Int.reduceToNat, Nat.reducePow, reduceIte, reduceCtorEq, e1])|((with_reducible first|refine jW ?hy ?_|refine jY ?hy ?_);case hy=>rfl)|((with_reducible first|refine jX ?hy ?_|refine jZ ?hy ?_);case hy=>rfl)|((with_reducible refine jF ?hy ?_);case hy=>decide))
  exact fin
 ·have e1 : (n < 0) = False := by simp [h0]
  have e2 : (1024 < n) = True := by simp; omega
  repeat' (first|(with_reducible first|refine jA ?_|(refine hK _ _ ?_;clear hK K)|refine jJ fun K hK=>?_|refine jK ?_|refine jL ?_|refine jM ?_|refine jN ?_|refine jO ?_|refine jP ?_|refine jQ ?_|(refine jB ?_;clear hK K)|(refine jC ?_;clear hK K)|refine jD ?_|refine jE ?_|refine jG ?_|refine jH ?_|refine jI ?_)|((with_reducible refine jR ?hq ?_);case hq=>rfl)|((first|(with_reducible first|refine jS fun K hK=>?_|refine jT ?_|refine jU ?_)|((with_reducible refine jV ?hy fun K hK=>?_);case hy=>rfl));simp only [go_sem, Nat.reduceEqDiff, Nat.reduceAdd, Nat.reduceMul, Nat.reduceLeDiff, Nat.reduceLT, Int.reduceLT, Int.reduceLE, Int.reduceEq, Int.reduceNeg, Int.reduceToNat, Nat.reducePow, reduceIte, reduceCtorEq, e1, e2])|((with_reducible first|refine jW ?hy ?_|refine jY ?hy ?_);case hy=>rfl)|((with_reducible first|refine jX ?hy ?_|refine jZ ?hy ?_);case hy=>rfl)|((with_reducible refine jF ?hy ?_);case hy=>decide))
  exact fin
theorem opX_make1 {P : Program} {o : Oper} {ρ : Operand → Value} {H : Heap} {K : Value → Heap → Prop} {t e : TypeId} {l c : Operand} {n : Nat} {te : TL} {k1 k2 : IntKind} {ln cn : Int} (ho : o.op = .makeSlice t l c) (he : elems P t = some (none, e, n)) (ht : tl P e = some te) (hl : ρ l = .int k1 ln) (hc : ρ c = .int k2 cn)
  (h0 : 0 ≤ ln) (h1 : ln ≤ cn) (hb : 0 < te.bytes) (hs : cn.toNat * te.bytes ≤ 281474976710656) (hk : K (.slice (some ⟨H.size, 0, none⟩) ln.toNat cn.toNat) (H.push (.cells (repL cn.toNat te.zero.cells.toList).toArray e))) : opX P o ρ H K := by
 unfold opX
 rw [ho]
 simp only [isRdOp, he, ht, hl, hc, intX]
 exact ⟨h0, h1, hb, hs, hk⟩
open Classical in
noncomputable def colG (x : Nat) (TR : Nat → Prop) (bi bn : Nat) (b : Nat) : Nat := if b = x then 1 else if TR b then 2 else if b = bi then 3 else if b = bn then 4 else 0
theorem rg_init {H : Heap} {x q bi bn : Nat} {TR : Nat → Prop} {R : Rf} (hr : RfM H q TR R) (hb : Blk H x [.pointer (some ⟨q, 0, none⟩), .slice (some ⟨bi, 0, none⟩) 1 1, .slice (some ⟨bn, 0, none⟩) 1 1, .slice none 0 0])
  (b1 : Blk H bi [.int .i64 0, .bool false, .int .i64 0]) (b2 : Blk H bn [.int .i64 0]) (h1 : bi ≠ x) (h2 : bn ≠ x) (h3 : bn ≠ bi) (h4 : ∀ b, TR b → b ≠ x ∧ b ≠ bi ∧ b ≠ bn) :
  RgP H x (colG x TR bi bn) R [Sp.Item.zero] [0] [] q TR (some bi) (.slice (some ⟨bi, 0, none⟩) 1 1) (some bn) (.slice (some ⟨bn, 0, none⟩) 1 1) (fun _ => False) (.slice none 0 0) ∧ ∀ b, colG x TR bi bn b ≠ 0 → b = x ∨ TR b ∨ b = bi ∨ b = bn := by
 have hc : ∀ b, colG x TR bi bn b ≠ 0 → b = x ∨ TR b ∨ b = bi ∨ b = bn := by
  intro b h
  unfold colG at h
  by_cases e1 : b = x
  ·exact .inl e1
  rw [if_neg e1] at h
  by_cases e2 : TR b
  ·exact .inr (.inl e2)
  rw [if_neg e2] at h
  by_cases e3 : b = bi
  ·exact .inr (.inr (.inl e3))
  rw [if_neg e3] at h
  by_cases e4 : b = bn
  ·exact .inr (.inr (.inr e4))
  rw [if_neg e4] at h
  exact absurd rfl h
 refine ⟨⟨hb, hr, ⟨rfl, .inr ⟨bi, 1, [], rfl, rfl, b1, rfl, Nat.le_refl _⟩⟩, ⟨rfl, .inr ⟨bn, 1, [], rfl, rfl, b2, rfl, Nat.le_refl _⟩⟩, LL.nil _ _, if_pos rfl, fun b hT => ?_, fun b e => ?_, fun b e => ?_, fun b e => e.elim, fun b h => ?_⟩, hc⟩
 ·unfold colG; rw [if_neg (h4 b hT).1, if_pos hT]
 ·obtain rfl := Option.some.inj e
  unfold colG; rw [if_neg h1, if_neg (fun h => (h4 _ h).2.1 rfl), if_pos rfl]
 ·obtain rfl := Option.some.inj e
  unfold colG; rw [if_neg h2, if_neg (fun h => (h4 _ h).2.2 rfl), if_neg h3, if_pos rfl]
 ·rcases hc b h with rfl | h | rfl | rfl
  ·exact hb.lt
  ·exact hr.lt h
  ·exact b1.lt
  ·exact b2.lt
theorem rg_new {H : Heap} {n : Nat} {K : Value → Heap → Prop} (hn : n ≤ 1024)
  (fin : ∀ H' x col q TR Bi vi Bn vn TL vl, RgP H' x col ⟨n, [false], []⟩ [Sp.Item.zero] [0] [] q TR Bi vi Bn vn TL vl → Fr (fun _ => False) H H' → (∀ b, col b ≠ 0 → H.size ≤ b) → K (.tuple #[.pointer (some ⟨x, 0, none⟩), .int .i64 0]) H') :
  CallsH Try.prog 30 #[.int .i64 (n : Nat)] H K := by
 have e1 : ((n : Int) < 0) = False := by simp
 have e2 : (1024 < (n : Int)) = False := by simp; omega
 refine call30 (by simp) ?_
 simp only [Try.f30, Option.getD_some]
 repeat' (first|(with_reducible first|refine jA ?_|(refine hK _ _ ?_;clear hK K)|refine jJ fun K hK=>?_|refine jK ?_|refine jL ?_|refine jM ?_|refine jN ?_|refine jO ?_|refine jP ?_|refine jQ ?_|(refine jB ?_;clear hK K)|(refine jC ?_;clear hK K)|refine jD ?_|refine jE ?_|refine jG ?_|refine jH ?_|refine jI ?_)|((with_reducible refine jR ?hq ?_);case hq=>rfl)|((first|(with_reducible first|refine jS fun K hK=>?_|refine jT ?_|refine jU ?_)|((with_reducible refine jV ?hy fun K hK=>?_);case hy=>rfl));simp only [go_sem, Nat.reduceEqDiff, Nat.reduceAdd, Nat.reduceMul, Nat.reduceLeDiff, Nat.reduceLT, Int.reduceLT, Int.reduceLE, Int.reduceEq, Int.reduceNeg, Int.reduceToNat, Nat.reducePow, reduceIte, reduceCtorEq, e1, e2])|((with_reducible first|refine jW ?hy ?_|refine jY ?hy ?_);case hy=>rfl)|((with_reducible first|refine jX ?hy ?_|refine jZ ?hy ?_);case hy=>rfl)|((with_reducible refine jF ?hy ?_);case hy=>decide))
 refine rf_new (n := n) (by omega) fun H1 q TR hr hf1 hT => ?_
 repeat' (first|(with_reducible first|refine jA ?_|(refine hK _ _ ?_;clear hK K)|refine jJ fun K hK=>?_|refine jK ?_|refine jL ?_|refine jM ?_|refine jN ?_|refine jO ?_|refine jP ?_|refine jQ ?_|(refine jB ?_;clear hK K)|(refine jC ?_;clear hK K)|refine jD ?_|refine jE ?_|refine jG ?_|refine jH ?_|refine jI ?_)|((with_reducible refine jR ?hq ?_);case hq=>rfl)|((first|(with_reducible first|refine jS fun K hK=>?_|refine jT ?_|refine jU ?_)|((with_reducible refine jV ?hy fun K hK=>?_);case hy=>rfl));simp only [go_sem, Nat.reduceEqDiff, Nat.reduceAdd, Nat.reduceMul, Nat.reduceLeDiff, Nat.reduceLT, Int.reduceLT, Int.reduceLE, Int.reduceEq, Int.reduceNeg, Int.reduceToNat, Nat.reducePow, reduceIte, reduceCtorEq])|((with_reducible first|refine jW ?hy ?_|refine jY ?hy ?_);case hy=>rfl)|((with_reducible first|refine jX ?hy ?_|refine jZ ?hy ?_);case hy=>rfl)|((with_reducible refine jF ?hy ?_);case hy=>decide))
 refine x_draw rfl (fun _ => True) [] trivial ?_
 refine anyH_take (i := 0) (v := .pointer (some ⟨q, 0, none⟩)) (show _ = some (Oper.mk (some 17) _ _ _ _ none) from rfl) (by kernel_rfl) (still_of rfl fun H' _ => by simp only [go_sem, Nat.reduceEqDiff, Nat.reduceAdd, Nat.reduceMul, Nat.reduceLeDiff, Nat.reduceLT, Int.reduceLT, Int.reduceLE, Int.reduceEq, Int.reduceNeg, Int.reduceToNat, Nat.reducePow, reduceIte, reduceCtorEq]) trivial ?_
 refine anyH_two (i := 1) (j := 2) (by kernel_rfl) (show _ = some (Oper.mk (some 18) _ _ _ _ none) from rfl) (show _ = some (Oper.mk (some 19) _ _ _ _ none) from rfl) rfl rfl (fun K' hK' => ?_) (fun K' hK' => ?_)
 ·refine opX_make1 rfl elems22 tl31 rfl rfl (by decide) (by decide) (by decide) (by decide) ?_
  refine hK' _ _ ⟨fun _ => trivial, ?_⟩
  refine anyH_one (i := 2) (by kernel_rfl) (show _ = some (Oper.mk (some 19) _ _ _ _ none) from rfl) rfl (fun K' hK' => ?_)
  refine opX_make1 rfl elems23 tl3 rfl rfl (by decide) (by decide) (by decide) (by decide) ?_
  refine hK' _ _ ⟨fun _ => trivial, ?_⟩
  refine anyH_one (i := 3) (by kernel_rfl) (show _ = some (Oper.mk (some 20) (.build 97 #[(0, .tmp 17), (1, .tmp 18), (2, .tmp 19)]) 97 "ref.go:28" _ none) from rfl) rfl (fun K' hK' => ?_)
  simp only [go_sem, Nat.reduceEqDiff, Nat.reduceAdd, Nat.reduceMul, Nat.reduceLeDiff, Nat.reduceLT, Int.reduceLT, Int.reduceLE, Int.reduceEq, Int.reduceNeg, Int.reduceToNat, Nat.reducePow, reduceIte, reduceCtorEq]
  refine hK' _ _ ⟨fun _ => trivial, ?_⟩
  refine anyH_one (i := 4) (by kernel_rfl) (show _ = some (Oper.mk (some 21) _ _ _ _ none) from rfl) rfl (fun K' hK' => ?_)
  simp only [go_sem, Nat.reduceEqDiff, Nat.reduceAdd, Nat.reduceMul, Nat.reduceLeDiff, Nat.reduceLT, Int.reduceLT, Int.reduceLE, Int.reduceEq, Int.reduceNeg, Int.reduceToNat, Nat.reducePow, reduceIte, reduceCtorEq]
  refine hK' _ _ ⟨fun _ => trivial, ?_⟩
  refine anyH_one (i := 5) (by kernel_rfl) (show _ = some (Oper.mk (some 2) _ _ _ _ none) from rfl) rfl (fun K' hK' => ?_)
  simp only [go_sem, Nat.reduceEqDiff, Nat.reduceAdd, Nat.reduceMul, Nat.reduceLeDiff, Nat.reduceLT, Int.reduceLT, Int.reduceLE, Int.reduceEq, Int.reduceNeg, Int.reduceToNat, Nat.reducePow, reduceIte, reduceCtorEq]
  refine hK' _ _ ⟨fun _ => trivial, ?_⟩
  refine anyH_one (i := 6) (by kernel_rfl) (show _ = some (Oper.mk (some 3) _ _ _ _ none) from rfl) rfl (fun K' hK' => ?_)
  simp only [go_sem, Nat.reduceEqDiff, Nat.reduceAdd, Nat.reduceMul, Nat.reduceLeDiff, Nat.reduceLT, Int.reduceLT, Int.reduceLE, Int.reduceEq, Int.reduceNeg, Int.reduceToNat, Nat.reducePow, reduceIte, reduceCtorEq]
  refine hK' _ _ ⟨fun _ => trivial, ?_⟩
  refine anyH_done (by kernel_rfl) ?_
  refine hK _ _ ?_
  repeat' (first|(with_reducible first|refine jA ?_|(refine hK _ _ ?_;clear hK K)|refine jJ fun K hK=>?_|refine jK ?_|refine jL ?_|refine jM ?_|refine jN ?_|refine jO ?_|refine jP ?_|refine jQ ?_|(refine jB ?_;clear hK K)|(refine jC ?_;clear hK K)|refine jD ?_|refine jE ?_|refine jG ?_|refine jH ?_|refine jI ?_)|((with_reducible refine jR ?hq ?_);case hq=>rfl)|((first|(with_reducible first|refine jS fun K hK=>?_|refine jT ?_|refine jU ?_)|((with_reducible refine jV ?hy fun K hK=>?_);case hy=>rfl));simp only [go_sem, Nat.reduceEqDiff, Nat.reduceAdd, Nat.reduceMul, Nat.reduceLeDiff, Nat.reduceLT, Int.reduceLT, Int.reduceLE, Int.reduceEq, Int.reduceNeg, Int.reduceToNat, Nat.reducePow, reduceIte, reduceCtorEq])|((with_reducible first|refine jW ?hy ?_|refine jY ?hy ?_);case hy=>rfl)|((with_reducible first|refine jX ?hy ?_|refine jZ ?hy ?_);case hy=>rfl)|((with_reducible refine jF ?hy ?_);case hy=>decide))
  generalize hH2 : Array.push H1 _ = H2
  have s2 : H2.size = H1.size + 1 := by rw [← hH2]; simp
  have b2 : Blk H2 H1.size [.int .i64 0, .bool false, .int .i64 0] := by rw [← hH2]; exact Blk.new H1 [.int .i64 0, .bool false, .int .i64 0] _
  have f2 : Fr (fun _ => False) H1 H2 := by rw [← hH2]; exact (Fr.refl _ _).push _
  clear hH2
  generalize hH3 : Array.push H2 _ = H3
  have s3 : H3.size = H2.size + 1 := by rw [← hH3]; simp
  have b3 : Blk H3 H2.size [.int .i64 0] := by rw [← hH3]; exact Blk.new H2 [.int .i64 0] _
  have f3 : Fr (fun _ => False) H2 H3 := by rw [← hH3]; exact (Fr.refl _ _).push _
  clear hH3
  generalize hH4 : Array.push H3 _ = H4
  have s4 : H4.size = H3.size + 1 := by rw [← hH4]; simp
  have b4 : Blk H4 H3.size [.pointer (some ⟨q, 0, none⟩), .slice (some ⟨H1.size, 0, none⟩) 1 1, .slice (some ⟨H2.size, 0, none⟩) 1 1, .slice none 0 0] := by rw [← hH4]; exact Blk.new H3 [.pointer (some ⟨q, 0, none⟩), .slice (some ⟨H1.size, 0, none⟩) 1 1, .slice (some ⟨H2.size, 0, none⟩) 1 1, .slice none 0 0] _
  have f4 : Fr (fun _ => False) H3 H4 := by rw [← hH4]; exact (Fr.refl _ _).push _
  clear hH4
  have hs1 := hf1.size
  have hlT : ∀ b, TR b → b < H1.size := fun b hb => hr.lt hb
  have c2 := (b2.frame f3 (fun h => h)).frame f4 (fun h => h)
  have c3 := b3.frame f4 (fun h => h)
  obtain ⟨hG, hc⟩ := rg_init (hr.grow ((f2.trans f3).trans f4)) b4 c2 c3 (by omega) (by omega) (by omega) (fun b hb => by have := hlT b hb; omega)
  refine fin _ _ _ _ _ _ _ _ _ _ _ hG (hf1.trans ((f2.trans f3).trans f4)) fun b hb => ?_
  rcases hc b hb with e | e | e | e
  ·omega
  ·exact hT b e
  ·omega
  ·omega
 ·refine opX_make1 rfl elems23 tl3 rfl rfl (by decide) (by decide) (by decide) (by decide) ?_
  refine hK' _ _ ⟨fun _ => trivial, ?_⟩
  refine anyH_one (i := 1) (by kernel_rfl) (show _ = some (Oper.mk (some 18) _ _ _ _ none) from rfl) rfl (fun K' hK' => ?_)
  refine opX_make1 rfl elems22 tl31 rfl rfl (by decide) (by decide) (by decide) (by decide) ?_
  refine hK' _ _ ⟨fun _ => trivial, ?_⟩
  refine anyH_one (i := 3) (by kernel_rfl) (show _ = some (Oper.mk (some 20) (.build 97 #[(0, .tmp 17), (1, .tmp 18), (2, .tmp 19)]) 97 "ref.go:28" _ none) from rfl) rfl (fun K' hK' => ?_)
  simp only [go_sem, Nat.reduceEqDiff, Nat.reduceAdd, Nat.reduceMul, Nat.reduceLeDiff, Nat.reduceLT, Int.reduceLT, Int.reduceLE, Int.reduceEq, Int.reduceNeg, Int.reduceToNat, Nat.reducePow, reduceIte, reduceCtorEq]
  refine hK' _ _ ⟨fun _ => trivial, ?_⟩
  refine anyH_one (i := 4) (by kernel_rfl) (show _ = some (Oper.mk (some 21) _ _ _ _ none) from rfl) rfl (fun K' hK' => ?_)
  simp only [go_sem, Nat.reduceEqDiff, Nat.reduceAdd, Nat.reduceMul, Nat.reduceLeDiff, Nat.reduceLT, Int.reduceLT, Int.reduceLE, Int.reduceEq, Int.reduceNeg, Int.reduceToNat, Nat.reducePow, reduceIte, reduceCtorEq]
  refine hK' _ _ ⟨fun _ => trivial, ?_⟩
  refine anyH_one (i := 5) (by kernel_rfl) (show _ = some (Oper.mk (some 2) _ _ _ _ none) from rfl) rfl (fun K' hK' => ?_)
  simp only [go_sem, Nat.reduceEqDiff, Nat.reduceAdd, Nat.reduceMul, Nat.reduceLeDiff, Nat.reduceLT, Int.reduceLT, Int.reduceLE, Int.reduceEq, Int.reduceNeg, Int.reduceToNat, Nat.reducePow, reduceIte, reduceCtorEq]
  refine hK' _ _ ⟨fun _ => trivial, ?_⟩
  refine anyH_one (i := 6) (by kernel_rfl) (show _ = some (Oper.mk (some 3) _ _ _ _ none) from rfl) rfl (fun K' hK' => ?_)
  simp only [go_sem, Nat.reduceEqDiff, Nat.reduceAdd, Nat.reduceMul, Nat.reduceLeDiff, Nat.reduceLT, Int.reduceLT, Int.reduceLE, Int.reduceEq, Int.reduceNeg, Int.reduceToNat, Nat.reducePow, reduceIte, reduceCtorEq]
  refine hK' _ _ ⟨fun _ => trivial, ?_⟩
  refine anyH_done (by kernel_rfl) ?_
  refine hK _ _ ?_
  repeat' (first|(with_reducible first|refine jA ?_|(refine hK _ _ ?_;clear hK K)|refine jJ fun K hK=>?_|refine jK ?_|refine jL ?_|refine jM ?_|refine jN ?_|refine jO ?_|refine jP ?_|refine jQ ?_|(refine jB ?_;clear hK K)|(refine jC ?_;clear hK K)|refine jD ?_|refine jE ?_|refine jG ?_|refine jH ?_|refine jI ?_)|((with_reducible refine jR ?hq ?_);case hq=>rfl)|((first|(with_reducible first|refine jS fun K hK=>?_|refine jT ?_|refine jU ?_)|((with_reducible refine jV ?hy fun K hK=>?_);case hy=>rfl));simp only [go_sem, Nat.reduceEqDiff, Nat.reduceAdd, Nat.reduceMul, Nat.reduceLeDiff, Nat.reduceLT, Int.reduceLT, Int.reduceLE, Int.reduceEq, Int.reduceNeg, Int.reduceToNat, Nat.reducePow, reduceIte, reduceCtorEq])|((with_reducible first|refine jW ?hy ?_|refine jY ?hy ?_);case hy=>rfl)|((with_reducible first|refine jX ?hy ?_|refine jZ ?hy ?_);case hy=>rfl)|((with_reducible refine jF ?hy ?_);case hy=>decide))
  generalize hH2 : Array.push H1 _ = H2
  have s2 : H2.size = H1.size + 1 := by rw [← hH2]; simp
  have b2 : Blk H2 H1.size [.int .i64 0] := by rw [← hH2]; exact Blk.new H1 [.int .i64 0] _
  have f2 : Fr (fun _ => False) H1 H2 := by rw [← hH2]; exact (Fr.refl _ _).push _
  clear hH2
  generalize hH3 : Array.push H2 _ = H3
  have s3 : H3.size = H2.size + 1 := by rw [← hH3]; simp
  have b3 : Blk H3 H2.size [.int .i64 0, .bool false, .int .i64 0] := by rw [← hH3]; exact Blk.new H2 [.int .i64 0, .bool false, .int .i64 0] _
  have f3 : Fr (fun _ => False) H2 H3 := by rw [← hH3]; exact (Fr.refl _ _).push _
  clear hH3
  generalize hH4 : Array.push H3 _ = H4
  have s4 : H4.size = H3.size + 1 := by rw [← hH4]; simp
  have b4 : Blk H4 H3.size [.pointer (some ⟨q, 0, none⟩), .slice (some ⟨H2.size, 0, none⟩) 1 1, .slice (some ⟨H1.size, 0, none⟩) 1 1, .slice none 0 0] := by rw [← hH4]; exact Blk.new H3 [.pointer (some ⟨q, 0, none⟩), .slice (some ⟨H2.size, 0, none⟩) 1 1, .slice (some ⟨H1.size, 0, none⟩) 1 1, .slice none 0 0] _
  have f4 : Fr (fun _ => False) H3 H4 := by rw [← hH4]; exact (Fr.refl _ _).push _
  clear hH4
  have hs1 := hf1.size
  have hlT : ∀ b, TR b → b < H1.size := fun b hb => hr.lt hb
  have c2 := (b2.frame f3 (fun h => h)).frame f4 (fun h => h)
  have c3 := b3.frame f4 (fun h => h)
  obtain ⟨hG, hc⟩ := rg_init (hr.grow ((f2.trans f3).trans f4)) b4 c3 c2 (by omega) (by omega) (by omega) (fun b hb => by have := hlT b hb; omega)
  refine fin _ _ _ _ _ _ _ _ _ _ _ hG (hf1.trans ((f2.trans f3).trans f4)) fun b hb => ?_
  rcases hc b hb with e | e | e | e
  ·omega
  ·exact hT b e
  ·omega
  ·omega
end Go.Proofs.Ytndkbhlfbeiniaa
namespace Go.Proofs.Ytndkbhlfbeiniaa
open Go Go.Hp Go.Sp
set_option linter.all false
set_option maxRecDepth 100000
set_option maxHeartbeats 1600000
section
variable {H : Heap} {x : Nat} {col : Nat → Nat} {R : Rf} {its : List Sp.Item} {inn : List Int} {L : List (List Int)} {q : Nat} {TR : Nat → Prop} {Bi : Option Nat} {vi : Value} {Bn : Option Nat} {vn : Value} {TL : Nat → Prop} {vl : Value} {K : Value → Heap → Prop}
theorem rg_free_none {i : Int} (hG : RgP H x col R its inn L q TR Bi vi Bn vn TL vl) (hi : R.hasB i = false) (fin : K (.int .i64 31) H) :
  CallsH Try.prog 52 #[.pointer (some ⟨x, 0, none⟩), .int .i64 i] H K := by
 refine call52 (by simp) ?_
 simp only [Try.f52, Option.getD_some]
 repeat' (first|(with_reducible first|refine jA ?_|(refine hK _ _ ?_;clear hK K)|refine jJ fun K hK=>?_|refine jK ?_|refine jL ?_|refine jM ?_|refine jN ?_|refine jO ?_|refine jP ?_|refine jQ ?_|(refine jB ?_;clear hK K)|(refine jC ?_;clear hK K)|refine jD ?_|refine jE ?_|refine jG ?_|refine jH ?_|refine jI ?_)|((with_reducible refine jR ?hq ?_);case hq=>rfl)|((first|(with_reducible first|refine jS fun K hK=>?_|refine jT ?_|refine jU ?_)|((with_reducible refine jV ?hy fun K hK=>?_);case hy=>rfl));simp only [go_sem, Nat.reduceEqDiff, Nat.reduceAdd, Nat.reduceMul, Nat.reduceLeDiff, Nat.reduceLT, Int.reduceLT, Int.reduceLE, Int.reduceEq, Int.reduceNeg, Int.reduceToNat, Nat.reducePow, reduceIte, reduceCtorEq])|((with_reducible first|refine jW ?hy ?_|refine jY ?hy ?_);case hy=>rfl)|((with_reducible first|refine jX ?hy ?_|refine jZ ?hy ?_);case hy=>rfl)|((with_reducible refine jF ?hy ?_);case hy=>decide))
 refine rg_has hG ?_
 rw [hi]
 repeat' (first|(with_reducible first|refine jA ?_|(refine hK _ _ ?_;clear hK K)|refine jJ fun K hK=>?_|refine jK ?_|refine jL ?_|refine jM ?_|refine jN ?_|refine jO ?_|refine jP ?_|refine jQ ?_|(refine jB ?_;clear hK K)|(refine jC ?_;clear hK K)|refine jD ?_|refine jE ?_|refine jG ?_|refine jH ?_|refine jI ?_)|((with_reducible refine jR ?hq ?_);case hq=>rfl)|((first|(with_reducible first|refine jS fun K hK=>?_|refine jT ?_|refine jU ?_)|((with_reducible refine jV ?hy fun K hK=>?_);case hy=>rfl));simp only [go_sem, Nat.reduceEqDiff, Nat.reduceAdd, Nat.reduceMul, Nat.reduceLeDiff, Nat.reduceLT, Int.reduceLT, Int.reduceLE, Int.reduceEq, Int.reduceNeg, Int.reduceToNat, Nat.reducePow, reduceIte, reduceCtorEq])|((with_reducible first|refine jW ?hy ?_|refine jY ?hy ?_);case hy=>rfl)|((with_reducible first|refine jX ?hy ?_|refine jZ ?hy ?_);case hy=>rfl)|((with_reducible refine jF ?hy ?_);case hy=>decide))
 exact fin
theorem rg_free_busy {h n : Nat} {xs : List Int} (hG : RgP H x col R its inn L q TR Bi vi Bn vn TL vl) (hi : R.hasB (h : Nat) = true) (h1 : inn[h]? = some (n : Int)) (h2 : L[n]? = some xs) (hx : 1 < xs.length) (fin : K (.int .i64 32) H) :
  CallsH Try.prog 52 #[.pointer (some ⟨x, 0, none⟩), .int .i64 (h : Nat)] H K := by
 refine call52 (by simp) ?_
 simp only [Try.f52, Option.getD_some]
 repeat' (first|(with_reducible first|refine jA ?_|(refine hK _ _ ?_;clear hK K)|refine jJ fun K hK=>?_|refine jK ?_|refine jL ?_|refine jM ?_|refine jN ?_|refine jO ?_|refine jP ?_|refine jQ ?_|(refine jB ?_;clear hK K)|(refine jC ?_;clear hK K)|refine jD ?_|refine jE ?_|refine jG ?_|refine jH ?_|refine jI ?_)|((with_reducible refine jR ?hq ?_);case hq=>rfl)|((first|(with_reducible first|refine jS fun K hK=>?_|refine jT ?_|refine jU ?_)|((with_reducible refine jV ?hy fun K hK=>?_);case hy=>rfl));simp only [go_sem, Nat.reduceEqDiff, Nat.reduceAdd, Nat.reduceMul, Nat.reduceLeDiff, Nat.reduceLT, Int.reduceLT, Int.reduceLE, Int.reduceEq, Int.reduceNeg, Int.reduceToNat, Nat.reducePow, reduceIte, reduceCtorEq])|((with_reducible first|refine jW ?hy ?_|refine jY ?hy ?_);case hy=>rfl)|((with_reducible first|refine jX ?hy ?_|refine jZ ?hy ?_);case hy=>rfl)|((with_reducible refine jF ?hy ?_);case hy=>decide))
 refine rg_has hG ?_
 rw [hi]
 repeat' (first|(with_reducible first|refine jA ?_|(refine hK _ _ ?_;clear hK K)|refine jJ fun K hK=>?_|refine jK ?_|refine jL ?_|refine jM ?_|refine jN ?_|refine jO ?_|refine jP ?_|refine jQ ?_|(refine jB ?_;clear hK K)|(refine jC ?_;clear hK K)|refine jD ?_|refine jE ?_|refine jG ?_|refine jH ?_|refine jI ?_)|((with_reducible refine jR ?hq ?_);case hq=>rfl)|((first|(with_reducible first|refine jS fun K hK=>?_|refine jT ?_|refine jU ?_)|((with_reducible refine jV ?hy fun K hK=>?_);case hy=>rfl));simp only [go_sem, Nat.reduceEqDiff, Nat.reduceAdd, Nat.reduceMul, Nat.reduceLeDiff, Nat.reduceLT, Int.reduceLT, Int.reduceLE, Int.reduceEq, Int.reduceNeg, Int.reduceToNat, Nat.reducePow, reduceIte, reduceCtorEq])|((with_reducible first|refine jW ?hy ?_|refine jY ?hy ?_);case hy=>rfl)|((with_reducible first|refine jX ?hy ?_|refine jZ ?hy ?_);case hy=>rfl)|((with_reducible refine jF ?hy ?_);case hy=>decide))
 refine rg_of hG h1 h2 fun B v hv hB => ?_
 obtain ⟨a, c, rfl⟩ := hv.slice
 have t1 : ((1 : Int) < (xs.length : Int)) = True := by simp; omega
 have t1' : (1 < xs.length) = True := by simp; omega
 repeat' (first|(with_reducible first|refine jA ?_|(refine hK _ _ ?_;clear hK K)|refine jJ fun K hK=>?_|refine jK ?_|refine jL ?_|refine jM ?_|refine jN ?_|refine jO ?_|refine jP ?_|refine jQ ?_|(refine jB ?_;clear hK K)|(refine jC ?_;clear hK K)|refine jD ?_|refine jE ?_|refine jG ?_|refine jH ?_|refine jI ?_)|((with_reducible refine jR ?hq ?_);case hq=>rfl)|((first|(with_reducible first|refine jS fun K hK=>?_|refine jT ?_|refine jU ?_)|((with_reducible refine jV ?hy fun K hK=>?_);case hy=>rfl));simp only [go_sem, Nat.reduceEqDiff, Nat.reduceAdd, Nat.reduceMul, Nat.reduceLeDiff, Nat.reduceLT, Int.reduceLT, Int.reduceLE, Int.reduceEq, Int.reduceNeg, Int.reduceToNat, Nat.reducePow, reduceIte, reduceCtorEq, t1, t1'])|((with_reducible first|refine jW ?hy ?_|refine jY ?hy ?_);case hy=>rfl)|((with_reducible first|refine jX ?hy ?_|refine jZ ?hy ?_);case hy=>rfl)|((with_reducible refine jF ?hy ?_);case hy=>decide))
 exact fin
theorem rg_free {h n : Nat} {xs : List Int} (hG : RgP H x col R its inn L q TR Bi vi Bn vn TL vl) (hi : R.hasB (h : Nat) = true) (h1 : inn[h]? = some (n : Int)) (h2 : L[n]? = some xs) (hx : xs.length ≤ 1) (hfl : R.free.length < 4096)
  (fin : ∀ H' col' TR', RgP H' x col' (R.dropped h) its inn (L.set n []) q TR' Bi vi Bn vn TL vl → Nx col col' H H' → K (.int .i64 0) H') :
  CallsH Try.prog 52 #[.pointer (some ⟨x, 0, none⟩), .int .i64 (h : Nat)] H K := by
 have l1 := (List.getElem?_eq_some_iff.1 h1).1
 have l2 := (List.getElem?_eq_some_iff.1 h2).1
 refine call52 (by simp) ?_
 simp only [Try.f52, Option.getD_some]
 repeat' (first|(with_reducible first|refine jA ?_|(refine hK _ _ ?_;clear hK K)|refine jJ fun K hK=>?_|refine jK ?_|refine jL ?_|refine jM ?_|refine jN ?_|refine jO ?_|refine jP ?_|refine jQ ?_|(refine jB ?_;clear hK K)|(refine jC ?_;clear hK K)|refine jD ?_|refine jE ?_|refine jG ?_|refine jH ?_|refine jI ?_)|((with_reducible refine jR ?hq ?_);case hq=>rfl)|((first|(with_reducible first|refine jS fun K hK=>?_|refine jT ?_|refine jU ?_)|((with_reducible refine jV ?hy fun K hK=>?_);case hy=>rfl));simp only [go_sem, Nat.reduceEqDiff, Nat.reduceAdd, Nat.reduceMul, Nat.reduceLeDiff, Nat.reduceLT, Int.reduceLT, Int.reduceLE, Int.reduceEq, Int.reduceNeg, Int.reduceToNat, Nat.reducePow, reduceIte, reduceCtorEq])|((with_reducible first|refine jW ?hy ?_|refine jY ?hy ?_);case hy=>rfl)|((with_reducible first|refine jX ?hy ?_|refine jZ ?hy ?_);case hy=>rfl)|((with_reducible refine jF ?hy ?_);case hy=>decide))
 refine rg_has hG ?_
 rw [hi]
 repeat' (first|(with_reducible first|refine jA ?_|(refine hK _ _ ?_;clear hK K)|refine jJ fun K hK=>?_|refine jK ?_|refine jL ?_|refine jM ?_|refine jN ?_|refine jO ?_|refine jP ?_|refine jQ ?_|(refine jB ?_;clear hK K)|(refine jC ?_;clear hK K)|refine jD ?_|refine jE ?_|refine jG ?_|refine jH ?_|refine jI ?_)|((with_reducible refine jR ?hq ?_);case hq=>rfl)|((first|(with_reducible first|refine jS fun K hK=>?_|refine jT ?_|refine jU ?_)|((with_reducible refine jV ?hy fun K hK=>?_);case hy=>rfl));simp only [go_sem, Nat.reduceEqDiff, Nat.reduceAdd, Nat.reduceMul, Nat.reduceLeDiff, Nat.reduceLT, Int.reduceLT, Int.reduceLE, Int.reduceEq, Int.reduceNeg, Int.reduceToNat, Nat.reducePow, reduceIte, reduceCtorEq])|((with_reducible first|refine jW ?hy ?_|refine jY ?hy ?_);case hy=>rfl)|((with_reducible first|refine jX ?hy ?_|refine jZ ?hy ?_);case hy=>rfl)|((with_reducible refine jF ?hy ?_);case hy=>decide))
 refine rg_of hG h1 h2 fun B v hv hB => ?_
 obtain ⟨a, c, rfl⟩ := hv.slice
 have t1 : ((1 : Int) < (xs.length : Int)) = False := by simp; omega
 have t1' : (1 < xs.length) = False := by simp; omega
 have c2 := hG.b.cellOf (i := 2) rfl
 have c3 := hG.b.cellOf (i := 3) rfl
 obtain ⟨gn, cn, rfl, rfl, d1⟩ := hG.inn.at h1
 obtain ⟨gl, cl, rfl, w, hgl, hLc⟩ := hG.ls.clear l2
 have hf : Fr TL H (hset H ⟨gl, n, none⟩ (.slice none 0 0)) := Fr.set (S := TL) (a := ⟨gl, n, none⟩) (Fr.refl _ H) (.inl hgl) _
 obtain ⟨hG1, n1⟩ := hG.chL hf hLc (fun b hb => .inl hb)
 generalize hH1 : hset H ⟨gl, n, none⟩ (.slice none 0 0) = H1 at hG1 n1 hf hLc
 have c0 := hG1.b.cellOf (i := 0) rfl
 repeat' (first|(with_reducible first|refine jA ?_|(refine hK _ _ ?_;clear hK K)|refine jJ fun K hK=>?_|refine jK ?_|refine jL ?_|refine jM ?_|refine jN ?_|refine jO ?_|refine jP ?_|refine jQ ?_|(refine jB ?_;clear hK K)|(refine jC ?_;clear hK K)|refine jD ?_|refine jE ?_|refine jG ?_|refine jH ?_|refine jI ?_)|((with_reducible refine jR ?hq ?_);case hq=>rfl)|((first|(with_reducible first|refine jS fun K hK=>?_|refine jT ?_|refine jU ?_)|((with_reducible refine jV ?hy fun K hK=>?_);case hy=>rfl));simp only [go_sem, Nat.reduceEqDiff, Nat.reduceAdd, Nat.reduceMul, Nat.reduceLeDiff, Nat.reduceLT, Int.reduceLT, Int.reduceLE, Int.reduceEq, Int.reduceNeg, Int.reduceToNat, Nat.reducePow, reduceIte, reduceCtorEq, t1, t1', c2, c3, d1, l1, l2, w, hH1, c0])|((with_reducible first|refine jW ?hy ?_|refine jY ?hy ?_);case hy=>rfl)|((with_reducible first|refine jX ?hy ?_|refine jZ ?hy ?_);case hy=>rfl)|((with_reducible refine jF ?hy ?_);case hy=>decide))
 refine rf_drop hG1.rf hi hfl fun H2 TR2 hr2 hf2 hT2 => ?_
 obtain ⟨hG2, n2⟩ := hG1.setRf hf2 hr2 hT2
 repeat' (first|(with_reducible first|refine jA ?_|(refine hK _ _ ?_;clear hK K)|refine jJ fun K hK=>?_|refine jK ?_|refine jL ?_|refine jM ?_|refine jN ?_|refine jO ?_|refine jP ?_|refine jQ ?_|(refine jB ?_;clear hK K)|(refine jC ?_;clear hK K)|refine jD ?_|refine jE ?_|refine jG ?_|refine jH ?_|refine jI ?_)|((with_reducible refine jR ?hq ?_);case hq=>rfl)|((first|(with_reducible first|refine jS fun K hK=>?_|refine jT ?_|refine jU ?_)|((with_reducible refine jV ?hy fun K hK=>?_);case hy=>rfl));simp only [go_sem, Nat.reduceEqDiff, Nat.reduceAdd, Nat.reduceMul, Nat.reduceLeDiff, Nat.reduceLT, Int.reduceLT, Int.reduceLE, Int.reduceEq, Int.reduceNeg, Int.reduceToNat, Nat.reducePow, reduceIte, reduceCtorEq])|((with_reducible first|refine jW ?hy ?_|refine jY ?hy ?_);case hy=>rfl)|((with_reducible first|refine jX ?hy ?_|refine jZ ?hy ?_);case hy=>rfl)|((with_reducible refine jF ?hy ?_);case hy=>decide))
 exact fin _ _ _ hG2 (n1.trans n2)
end
section
variable {H : Heap} {x : Nat} {col : Nat → Nat} {R : Rf} {its : List Sp.Item} {inn : List Int} {L : List (List Int)} {q : Nat} {TR : Nat → Prop} {Bi : Option Nat} {vi : Value} {Bn : Option Nat} {vn : Value} {TL : Nat → Prop} {vl : Value} {K : Value → Heap → Prop}
theorem rg_make_bad {z : Sp.Item} (hG : RgP H x col R its inn L q TR Bi vi Bn vn TL vl) (hz : mayB z = false) (fin : ∀ H', Fr (fun _ => False) H H' → K (.tuple #[.int .i64 0, .int .i64 1]) H') :
  CallsH Try.prog 51 #[.pointer (some ⟨x, 0, none⟩), z.val] H K := by
 have fr0 : Fr (fun _ => False) H (H.push (.cells #[.int .i64 z.value, .bool z.counts, .int .i64 z.flags] 31)) := (Fr.refl _ _).push _
 have b1 := Blk.new H [.int .i64 z.value, .bool z.counts, .int .i64 z.flags] 31
 have k0 := b1.cellOf (i := 0) rfl
 have k1 := b1.cellOf (i := 1) rfl
 have k2 := b1.cellOf (i := 2) rfl
 refine call51 (by simp) ?_
 simp only [Try.f51, Option.getD_some]
 repeat' (first|(with_reducible first|refine jA ?_|(refine hK _ _ ?_;clear hK K)|refine jJ fun K hK=>?_|refine jK ?_|refine jL ?_|refine jM ?_|refine jN ?_|refine jO ?_|refine jP ?_|refine jQ ?_|(refine jB ?_;clear hK K)|(refine jC ?_;clear hK K)|refine jD ?_|refine jE ?_|refine jG ?_|refine jH ?_|refine jI ?_)|((with_reducible refine jR ?hq ?_);case hq=>rfl)|((first|(with_reducible first|refine jS fun K hK=>?_|refine jT ?_|refine jU ?_)|((with_reducible refine jV ?hy fun K hK=>?_);case hy=>rfl));simp only [go_sem, Nat.reduceEqDiff, Nat.reduceAdd, Nat.reduceMul, Nat.reduceLeDiff, Nat.reduceLT, Int.reduceLT, Int.reduceLE, Int.reduceEq, Int.reduceNeg, Int.reduceToNat, Nat.reducePow, reduceIte, reduceCtorEq, Sp.Item.val, k0, k1, k2])|((with_reducible first|refine jW ?hy ?_|refine jY ?hy ?_);case hy=>rfl)|((with_reducible first|refine jX ?hy ?_|refine jZ ?hy ?_);case hy=>rfl)|((with_reducible refine jF ?hy ?_);case hy=>decide))
 refine rg_may (z := z) fun H2 hf2 => ?_
 rw [hz]
 repeat' (first|(with_reducible first|refine jA ?_|(refine hK _ _ ?_;clear hK K)|refine jJ fun K hK=>?_|refine jK ?_|refine jL ?_|refine jM ?_|refine jN ?_|refine jO ?_|refine jP ?_|refine jQ ?_|(refine jB ?_;clear hK K)|(refine jC ?_;clear hK K)|refine jD ?_|refine jE ?_|refine jG ?_|refine jH ?_|refine jI ?_)|((with_reducible refine jR ?hq ?_);case hq=>rfl)|((first|(with_reducible first|refine jS fun K hK=>?_|refine jT ?_|refine jU ?_)|((with_reducible refine jV ?hy fun K hK=>?_);case hy=>rfl));simp only [go_sem, Nat.reduceEqDiff, Nat.reduceAdd, Nat.reduceMul, Nat.reduceLeDiff, Nat.reduceLT, Int.reduceLT, Int.reduceLE, Int.reduceEq, Int.reduceNeg, Int.reduceToNat, Nat.reducePow, reduceIte, reduceCtorEq])|((with_reducible first|refine jW ?hy ?_|refine jY ?hy ?_);case hy=>rfl)|((with_reducible first|refine jX ?hy ?_|refine jZ ?hy ?_);case hy=>rfl)|((with_reducible refine jF ?hy ?_);case hy=>decide))
 exact fin _ (fr0.trans hf2)
theorem rg_make_full {z : Sp.Item} (hG : RgP H x col R its inn L q TR Bi vi Bn vn TL vl) (hz : mayB z = true) (hc : R.room ≤ R.count) (fin : ∀ H', Fr (fun _ => False) H H' → K (.tuple #[.int .i64 0, .int .i64 30]) H') :
  CallsH Try.prog 51 #[.pointer (some ⟨x, 0, none⟩), z.val] H K := by
 have fr0 : Fr (fun _ => False) H (H.push (.cells #[.int .i64 z.value, .bool z.counts, .int .i64 z.flags] 31)) := (Fr.refl _ _).push _
 have b1 := Blk.new H [.int .i64 z.value, .bool z.counts, .int .i64 z.flags] 31
 have k0 := b1.cellOf (i := 0) rfl
 have k1 := b1.cellOf (i := 1) rfl
 have k2 := b1.cellOf (i := 2) rfl
 refine call51 (by simp) ?_
 simp only [Try.f51, Option.getD_some]
 repeat' (first|(with_reducible first|refine jA ?_|(refine hK _ _ ?_;clear hK K)|refine jJ fun K hK=>?_|refine jK ?_|refine jL ?_|refine jM ?_|refine jN ?_|refine jO ?_|refine jP ?_|refine jQ ?_|(refine jB ?_;clear hK K)|(refine jC ?_;clear hK K)|refine jD ?_|refine jE ?_|refine jG ?_|refine jH ?_|refine jI ?_)|((with_reducible refine jR ?hq ?_);case hq=>rfl)|((first|(with_reducible first|refine jS fun K hK=>?_|refine jT ?_|refine jU ?_)|((with_reducible refine jV ?hy fun K hK=>?_);case hy=>rfl));simp only [go_sem, Nat.reduceEqDiff, Nat.reduceAdd, Nat.reduceMul, Nat.reduceLeDiff, Nat.reduceLT, Int.reduceLT, Int.reduceLE, Int.reduceEq, Int.reduceNeg, Int.reduceToNat, Nat.reducePow, reduceIte, reduceCtorEq, Sp.Item.val, k0, k1, k2])|((with_reducible first|refine jW ?hy ?_|refine jY ?hy ?_);case hy=>rfl)|((with_reducible first|refine jX ?hy ?_|refine jZ ?hy ?_);case hy=>rfl)|((with_reducible refine jF ?hy ?_);case hy=>decide))
 refine rg_may (z := z) fun H2 hf2 => ?_
 rw [hz]
 have hG2 := hG.grow (fr0.trans hf2) (fun _ _ h => h)
 have c0 := hG2.b.cellOf (i := 0) rfl
 repeat' (first|(with_reducible first|refine jA ?_|(refine hK _ _ ?_;clear hK K)|refine jJ fun K hK=>?_|refine jK ?_|refine jL ?_|refine jM ?_|refine jN ?_|refine jO ?_|refine jP ?_|refine jQ ?_|(refine jB ?_;clear hK K)|(refine jC ?_;clear hK K)|refine jD ?_|refine jE ?_|refine jG ?_|refine jH ?_|refine jI ?_)|((with_reducible refine jR ?hq ?_);case hq=>rfl)|((first|(with_reducible first|refine jS fun K hK=>?_|refine jT ?_|refine jU ?_)|((with_reducible refine jV ?hy fun K hK=>?_);case hy=>rfl));simp only [go_sem, Nat.reduceEqDiff, Nat.reduceAdd, Nat.reduceMul, Nat.reduceLeDiff, Nat.reduceLT, Int.reduceLT, Int.reduceLE, Int.reduceEq, Int.reduceNeg, Int.reduceToNat, Nat.reducePow, reduceIte, reduceCtorEq, c0])|((with_reducible first|refine jW ?hy ?_|refine jY ?hy ?_);case hy=>rfl)|((with_reducible first|refine jX ?hy ?_|refine jZ ?hy ?_);case hy=>rfl)|((with_reducible refine jF ?hy ?_);case hy=>decide))
 refine rf_full hG2.rf hc ?_
 repeat' (first|(with_reducible first|refine jA ?_|(refine hK _ _ ?_;clear hK K)|refine jJ fun K hK=>?_|refine jK ?_|refine jL ?_|refine jM ?_|refine jN ?_|refine jO ?_|refine jP ?_|refine jQ ?_|(refine jB ?_;clear hK K)|(refine jC ?_;clear hK K)|refine jD ?_|refine jE ?_|refine jG ?_|refine jH ?_|refine jI ?_)|((with_reducible refine jR ?hq ?_);case hq=>rfl)|((first|(with_reducible first|refine jS fun K hK=>?_|refine jT ?_|refine jU ?_)|((with_reducible refine jV ?hy fun K hK=>?_);case hy=>rfl));simp only [go_sem, Nat.reduceEqDiff, Nat.reduceAdd, Nat.reduceMul, Nat.reduceLeDiff, Nat.reduceLT, Int.reduceLT, Int.reduceLE, Int.reduceEq, Int.reduceNeg, Int.reduceToNat, Nat.reducePow, reduceIte, reduceCtorEq])|((with_reducible first|refine jW ?hy ?_|refine jY ?hy ?_);case hy=>rfl)|((with_reducible first|refine jX ?hy ?_|refine jZ ?hy ?_);case hy=>rfl)|((with_reducible refine jF ?hy ?_);case hy=>decide))
 exact fin _ (fr0.trans hf2)
theorem rg_make_old {z : Sp.Item} {h : Nat} {fs : List Nat} (hG : RgP H x col R its inn L q TR Bi vi Bn vn TL vl) (hz : mayB z = true) (hc : R.count < R.room) (hf : R.free = fs ++ [h]) (hi : h < its.length) (hn : h < inn.length) (hLb : L.length ≤ 3000000000000)
  (fin : ∀ H' col' Bi' vi' Bn' vn' TL' vl', RgP H' x col' (R.old h) (its.set h z) (inn.set h (L.length : Nat)) (L ++ [[(h : Int)]]) q TR Bi' vi' Bn' vn' TL' vl' → Nx col col' H H' → K (.tuple #[.int .i64 (h : Nat), .int .i64 0]) H') :
  CallsH Try.prog 51 #[.pointer (some ⟨x, 0, none⟩), z.val] H K := by
 have fr0 : Fr (fun _ => False) H (H.push (.cells #[.int .i64 z.value, .bool z.counts, .int .i64 z.flags] 31)) := (Fr.refl _ _).push _
 have b1 := Blk.new H [.int .i64 z.value, .bool z.counts, .int .i64 z.flags] 31
 have hc0 : col H.size = 0 := Decidable.byContradiction fun h => Nat.lt_irrefl _ (hG.lt _ h)
 have k0 := b1.cellOf (i := 0) rfl
 have k1 := b1.cellOf (i := 1) rfl
 have k2 := b1.cellOf (i := 2) rfl
 refine call51 (by simp) ?_
 simp only [Try.f51, Option.getD_some]
 repeat' (first|(with_reducible first|refine jA ?_|(refine hK _ _ ?_;clear hK K)|refine jJ fun K hK=>?_|refine jK ?_|refine jL ?_|refine jM ?_|refine jN ?_|refine jO ?_|refine jP ?_|refine jQ ?_|(refine jB ?_;clear hK K)|(refine jC ?_;clear hK K)|refine jD ?_|refine jE ?_|refine jG ?_|refine jH ?_|refine jI ?_)|((with_reducible refine jR ?hq ?_);case hq=>rfl)|((first|(with_reducible first|refine jS fun K hK=>?_|refine jT ?_|refine jU ?_)|((with_reducible refine jV ?hy fun K hK=>?_);case hy=>rfl));simp only [go_sem, Nat.reduceEqDiff, Nat.reduceAdd, Nat.reduceMul, Nat.reduceLeDiff, Nat.reduceLT, Int.reduceLT, Int.reduceLE, Int.reduceEq, Int.reduceNeg, Int.reduceToNat, Nat.reducePow, reduceIte, reduceCtorEq, Sp.Item.val, k0, k1, k2])|((with_reducible first|refine jW ?hy ?_|refine jY ?hy ?_);case hy=>rfl)|((with_reducible first|refine jX ?hy ?_|refine jZ ?hy ?_);case hy=>rfl)|((with_reducible refine jF ?hy ?_);case hy=>decide))
 refine rg_may (z := z) fun H2 hf2 => ?_
 rw [hz]
 have hG2 := hG.grow (fr0.trans hf2) (fun _ _ h => h)
 have bb2 := b1.frame hf2 (fun h => h)
 have c0 := hG2.b.cellOf (i := 0) rfl
 repeat' (first|(with_reducible first|refine jA ?_|(refine hK _ _ ?_;clear hK K)|refine jJ fun K hK=>?_|refine jK ?_|refine jL ?_|refine jM ?_|refine jN ?_|refine jO ?_|refine jP ?_|refine jQ ?_|(refine jB ?_;clear hK K)|(refine jC ?_;clear hK K)|refine jD ?_|refine jE ?_|refine jG ?_|refine jH ?_|refine jI ?_)|((with_reducible refine jR ?hq ?_);case hq=>rfl)|((first|(with_reducible first|refine jS fun K hK=>?_|refine jT ?_|refine jU ?_)|((with_reducible refine jV ?hy fun K hK=>?_);case hy=>rfl));simp only [go_sem, Nat.reduceEqDiff, Nat.reduceAdd, Nat.reduceMul, Nat.reduceLeDiff, Nat.reduceLT, Int.reduceLT, Int.reduceLE, Int.reduceEq, Int.reduceNeg, Int.reduceToNat, Nat.reducePow, reduceIte, reduceCtorEq, c0])|((with_reducible first|refine jW ?hy ?_|refine jY ?hy ?_);case hy=>rfl)|((with_reducible first|refine jX ?hy ?_|refine jZ ?hy ?_);case hy=>rfl)|((with_reducible refine jF ?hy ?_);case hy=>decide))
 refine rf_old hG2.rf hc hf fun H3 hr3 hf3 => ?_
 obtain ⟨hG3, n3⟩ := hG2.setRf hf3 hr3 (fun b hb => .inl hb)
 have bb3 := bb2.frame hf3 (fun e => by have := hG.cr _ e; rw [hc0] at this; cases this)
 have j0 := bb3.cellOf (i := 0) rfl
 have j1 := bb3.cellOf (i := 1) rfl
 have j2 := bb3.cellOf (i := 2) rfl
 have n03 : Nx col (extC col H2.size H3.size 2) H H3 := (Nx.same (fr0.trans hf2) fun _ h => h.elim).trans n3
 generalize extC col H2.size H3.size 2 = col3 at hG3 n03
 clear n3
 obtain ⟨z0, hz0⟩ : ∃ z0, its[h]? = some z0 := ⟨_, List.getElem?_eq_getElem hi⟩
 obtain ⟨gi, ci, rfl, rfl, -⟩ := hG3.it.read hz0
 obtain ⟨w0, w1, w2, hG4, n4⟩ := hG3.wrIt (z := z) hi
 obtain ⟨y0, hy0⟩ : ∃ y0, inn[h]? = some y0 := ⟨_, List.getElem?_eq_getElem hn⟩
 obtain ⟨gn, cn, rfl, rfl, -⟩ := hG4.inn.at hy0
 obtain ⟨w3, hG5, n5⟩ := hG4.wrIn (z := (L.length : Nat)) hn
 obtain ⟨al, cl, rfl⟩ := hG5.ls.slice
 have c1 := hG3.b.cellOf (i := 1) rfl
 have c2 := hG4.b.cellOf (i := 2) rfl
 have c3 := hG4.b.cellOf (i := 3) rfl
 have c5 := hG5.b.cellOf (i := 3) rfl
 have t1 : ((h : Int) == (its.length : Int)) = false := by simp; omega
 repeat' (first|(with_reducible first|refine jA ?_|(refine hK _ _ ?_;clear hK K)|refine jJ fun K hK=>?_|refine jK ?_|refine jL ?_|refine jM ?_|refine jN ?_|refine jO ?_|refine jP ?_|refine jQ ?_|(refine jB ?_;clear hK K)|(refine jC ?_;clear hK K)|refine jD ?_|refine jE ?_|refine jG ?_|refine jH ?_|refine jI ?_)|((with_reducible refine jR ?hq ?_);case hq=>rfl)|((first|(with_reducible first|refine jS fun K hK=>?_|refine jT ?_|refine jU ?_)|((with_reducible refine jV ?hy fun K hK=>?_);case hy=>rfl));simp only [go_sem, Nat.reduceEqDiff, Nat.reduceAdd, Nat.reduceMul, Nat.reduceLeDiff, Nat.reduceLT, Int.reduceLT, Int.reduceLE, Int.reduceEq, Int.reduceNeg, Int.reduceToNat, Nat.reducePow, reduceIte, reduceCtorEq, c1, t1, hi, j0, j1, j2, w0, w1, w2, okW_hset])|((with_reducible first|refine jW ?hy ?_|refine jY ?hy ?_);case hy=>rfl)|((with_reducible first|refine jX ?hy ?_|refine jZ ?hy ?_);case hy=>rfl)|((with_reducible refine jF ?hy ?_);case hy=>decide))
 simp only [go_sem, Nat.reduceEqDiff, Nat.reduceAdd, Nat.reduceMul, Nat.reduceLeDiff, Nat.reduceLT, Int.reduceLT, Int.reduceLE, Int.reduceEq, Int.reduceNeg, Int.reduceToNat, Nat.reducePow, reduceIte, reduceCtorEq, c2]
 repeat' (first|(with_reducible first|refine jA ?_|(refine hK _ _ ?_;clear hK K)|refine jJ fun K hK=>?_|refine jK ?_|refine jL ?_|refine jM ?_|refine jN ?_|refine jO ?_|refine jP ?_|refine jQ ?_|(refine jB ?_;clear hK K)|(refine jC ?_;clear hK K)|refine jD ?_|refine jE ?_|refine jG ?_|refine jH ?_|refine jI ?_)|((with_reducible refine jR ?hq ?_);case hq=>rfl)|((first|(with_reducible first|refine jS fun K hK=>?_|refine jT ?_|refine jU ?_)|((with_reducible refine jV ?hy fun K hK=>?_);case hy=>rfl));simp only [go_sem, Nat.reduceEqDiff, Nat.reduceAdd, Nat.reduceMul, Nat.reduceLeDiff, Nat.reduceLT, Int.reduceLT, Int.reduceLE, Int.reduceEq, Int.reduceNeg, Int.reduceToNat, Nat.reducePow, reduceIte, reduceCtorEq, c2, c3, hn, w3])|((with_reducible first|refine jW ?hy ?_|refine jY ?hy ?_);case hy=>rfl)|((with_reducible first|refine jX ?hy ?_|refine jZ ?hy ?_);case hy=>rfl)|((with_reducible refine jF ?hy ?_);case hy=>decide))
 have n45 := n4.trans n5
 clear n4 n5
 generalize hset (hset (hset (hset H3 _ _) _ _) _ _) _ _ = H5 at hG5 n45 c5 ⊢
 simp only [go_sem, Nat.reduceEqDiff, Nat.reduceAdd, Nat.reduceMul, Nat.reduceLeDiff, Nat.reduceLT, Int.reduceLT, Int.reduceLE, Int.reduceEq, Int.reduceNeg, Int.reduceToNat, Nat.reducePow, reduceIte, reduceCtorEq, c5]
 repeat' (first|(with_reducible first|refine jA ?_|(refine hK _ _ ?_;clear hK K)|refine jJ fun K hK=>?_|refine jK ?_|refine jL ?_|refine jM ?_|refine jN ?_|refine jO ?_|refine jP ?_|refine jQ ?_|(refine jB ?_;clear hK K)|(refine jC ?_;clear hK K)|refine jD ?_|refine jE ?_|refine jG ?_|refine jH ?_|refine jI ?_)|((with_reducible refine jR ?hq ?_);case hq=>rfl)|((first|(with_reducible first|refine jS fun K hK=>?_|refine jT ?_|refine jU ?_)|((with_reducible refine jV ?hy fun K hK=>?_);case hy=>rfl));simp only [go_sem, Nat.reduceEqDiff, Nat.reduceAdd, Nat.reduceMul, Nat.reduceLeDiff, Nat.reduceLT, Int.reduceLT, Int.reduceLE, Int.reduceEq, Int.reduceNeg, Int.reduceToNat, Nat.reducePow, reduceIte, reduceCtorEq, c5])|((with_reducible first|refine jW ?hy ?_|refine jY ?hy ?_);case hy=>rfl)|((with_reducible first|refine jX ?hy ?_|refine jZ ?hy ?_);case hy=>rfl)|((with_reducible refine jF ?hy ?_);case hy=>decide))
 have g1 : Fr (fun _ => False) H5 (H5.push (.cells #[.int .i64 (h : Nat)] 3)) := (Fr.refl _ _).push _
 have ov : OR (Value.int .i64) (H5.push (.cells #[.int .i64 (h : Nat)] 3)) (some H5.size) (.slice (some ⟨H5.size, 0, none⟩) 1 1) [(h : Int)] := ⟨rfl, .inr ⟨H5.size, 1, [], rfl, rfl, Blk.new H5 [.int .i64 (h : Nat)] _, rfl, Nat.le_refl _⟩⟩
 refine append_ll elems64 tl23 (hG5.ls.frame g1 fun _ _ h => h) ov (fun b hb hT => ?_) rfl (by decide) (by simp; omega) rfl ?_
 ·have := hG5.ls.lt hT
  have := Option.some.inj hb
  omega
 intro v6 H6 TL6 hl6 hf6 hT6
 obtain ⟨w6, hG6, n6⟩ := hG5.setL ((g1.mono fun _ _ h => h.elim).trans hf6) hl6 (fun b hb => by
  rcases hT6 b hb with e | e | e
  ·exact .inl e
  ·right; have := Option.some.inj e; omega
  ·right; simp at e; omega)
 obtain ⟨a6, k6, rfl⟩ := hl6.slice
 repeat' (first|(with_reducible first|refine jA ?_|(refine hK _ _ ?_;clear hK K)|refine jJ fun K hK=>?_|refine jK ?_|refine jL ?_|refine jM ?_|refine jN ?_|refine jO ?_|refine jP ?_|refine jQ ?_|(refine jB ?_;clear hK K)|(refine jC ?_;clear hK K)|refine jD ?_|refine jE ?_|refine jG ?_|refine jH ?_|refine jI ?_)|((with_reducible refine jR ?hq ?_);case hq=>rfl)|((first|(with_reducible first|refine jS fun K hK=>?_|refine jT ?_|refine jU ?_)|((with_reducible refine jV ?hy fun K hK=>?_);case hy=>rfl));simp only [go_sem, Nat.reduceEqDiff, Nat.reduceAdd, Nat.reduceMul, Nat.reduceLeDiff, Nat.reduceLT, Int.reduceLT, Int.reduceLE, Int.reduceEq, Int.reduceNeg, Int.reduceToNat, Nat.reducePow, reduceIte, reduceCtorEq, w6])|((with_reducible first|refine jW ?hy ?_|refine jY ?hy ?_);case hy=>rfl)|((with_reducible first|refine jX ?hy ?_|refine jZ ?hy ?_);case hy=>rfl)|((with_reducible refine jF ?hy ?_);case hy=>decide))
 exact fin _ _ _ _ _ _ _ _ hG6 ((n03.trans n45).trans n6)
theorem rg_make_new {z : Sp.Item} {n : Nat} (hG : RgP H x col R its inn L q TR Bi vi Bn vn TL vl) (hz : mayB z = true) (hc : R.count < R.room) (hf : R.free = []) (hu : R.used.length = n) (hun : n ≤ R.room) (hi : its.length = n) (hn : inn.length = n) (hnb : n ≤ 5000) (hLb : L.length ≤ 3000000000000)
  (fin : ∀ H' col' TR' Bi' vi' Bn' vn' TL' vl', RgP H' x col' R.more (its ++ [z]) (inn ++ [(L.length : Int)]) (L ++ [[(n : Int)]]) q TR' Bi' vi' Bn' vn' TL' vl' → Nx col col' H H' → K (.tuple #[.int .i64 (n : Nat), .int .i64 0]) H') :
  CallsH Try.prog 51 #[.pointer (some ⟨x, 0, none⟩), z.val] H K := by
 have fr0 : Fr (fun _ => False) H (H.push (.cells #[.int .i64 z.value, .bool z.counts, .int .i64 z.flags] 31)) := (Fr.refl _ _).push _
 have b1 := Blk.new H [.int .i64 z.value, .bool z.counts, .int .i64 z.flags] 31
 have hc0 : col H.size = 0 := Decidable.byContradiction fun h => Nat.lt_irrefl _ (hG.lt _ h)
 have k0 := b1.cellOf (i := 0) rfl
 have k1 := b1.cellOf (i := 1) rfl
 have k2 := b1.cellOf (i := 2) rfl
 refine call51 (by simp) ?_
 simp only [Try.f51, Option.getD_some]
 repeat' (first|(with_reducible first|refine jA ?_|(refine hK _ _ ?_;clear hK K)|refine jJ fun K hK=>?_|refine jK ?_|refine jL ?_|refine jM ?_|refine jN ?_|refine jO ?_|refine jP ?_|refine jQ ?_|(refine jB ?_;clear hK K)|(refine jC ?_;clear hK K)|refine jD ?_|refine jE ?_|refine jG ?_|refine jH ?_|refine jI ?_)|((with_reducible refine jR ?hq ?_);case hq=>rfl)|((first|(with_reducible first|refine jS fun K hK=>?_|refine jT ?_|refine jU ?_)|((with_reducible refine jV ?hy fun K hK=>?_);case hy=>rfl));simp only [go_sem, Nat.reduceEqDiff, Nat.reduceAdd, Nat.reduceMul, Nat.reduceLeDiff, Nat.reduceLT, Int.reduceLT, Int.reduceLE, Int.reduceEq, Int.reduceNeg, Int.reduceToNat, Nat.reducePow, reduceIte, reduceCtorEq, Sp.Item.val, k0, k1, k2])|((with_reducible first|refine jW ?hy ?_|refine jY ?hy ?_);case hy=>rfl)|((with_reducible first|refine jX ?hy ?_|refine jZ ?hy ?_);case hy=>rfl)|((with_reducible refine jF ?hy ?_);case hy=>decide))
 refine rg_may (z := z) fun H2 hf2 => ?_
 rw [hz]
 have hG2 := hG.grow (fr0.trans hf2) (fun _ _ h => h)
 have bb2 := b1.frame hf2 (fun h => h)
 have c0 := hG2.b.cellOf (i := 0) rfl
 repeat' (first|(with_reducible first|refine jA ?_|(refine hK _ _ ?_;clear hK K)|refine jJ fun K hK=>?_|refine jK ?_|refine jL ?_|refine jM ?_|refine jN ?_|refine jO ?_|refine jP ?_|refine jQ ?_|(refine jB ?_;clear hK K)|(refine jC ?_;clear hK K)|refine jD ?_|refine jE ?_|refine jG ?_|refine jH ?_|refine jI ?_)|((with_reducible refine jR ?hq ?_);case hq=>rfl)|((first|(with_reducible first|refine jS fun K hK=>?_|refine jT ?_|refine jU ?_)|((with_reducible refine jV ?hy fun K hK=>?_);case hy=>rfl));simp only [go_sem, Nat.reduceEqDiff, Nat.reduceAdd, Nat.reduceMul, Nat.reduceLeDiff, Nat.reduceLT, Int.reduceLT, Int.reduceLE, Int.reduceEq, Int.reduceNeg, Int.reduceToNat, Nat.reducePow, reduceIte, reduceCtorEq, c0])|((with_reducible first|refine jW ?hy ?_|refine jY ?hy ?_);case hy=>rfl)|((with_reducible first|refine jX ?hy ?_|refine jZ ?hy ?_);case hy=>rfl)|((with_reducible refine jF ?hy ?_);case hy=>decide))
 refine rf_more hG2.rf hc hf (by rw [hu]; exact hun) fun H3 TR3 hr3 hf3 hT3 => ?_
 obtain ⟨hG3, n3⟩ := hG2.setRf hf3 hr3 hT3
 have bb3 := bb2.frame hf3 (fun e => by have := hG.cr _ e; rw [hc0] at this; cases this)
 have n03 : Nx col (extC col H2.size H3.size 2) H H3 := (Nx.same (fr0.trans hf2) fun _ h => h.elim).trans n3
 have hlH : H.size < H2.size := Nat.lt_of_lt_of_le b1.lt hf2.size
 have hc3 : extC col H2.size H3.size 2 H.size = 0 := by rw [extC_old hlH]; exact hc0
 generalize extC col H2.size H3.size 2 = col3 at hG3 n03 hc3
 clear n3
 rw [hu]
 have j0 := bb3.cellOf (i := 0) rfl
 have j1 := bb3.cellOf (i := 1) rfl
 have j2 := bb3.cellOf (i := 2) rfl
 have c1 := hG3.b.cellOf (i := 1) rfl
 have t1 : ((n : Int) == (its.length : Int)) = true := by simp [hi]
 obtain ⟨ai, ci, rfl⟩ := hG3.it.slice
 repeat' (first|(with_reducible first|refine jA ?_|(refine hK _ _ ?_;clear hK K)|refine jJ fun K hK=>?_|refine jK ?_|refine jL ?_|refine jM ?_|refine jN ?_|refine jO ?_|refine jP ?_|refine jQ ?_|(refine jB ?_;clear hK K)|(refine jC ?_;clear hK K)|refine jD ?_|refine jE ?_|refine jG ?_|refine jH ?_|refine jI ?_)|((with_reducible refine jR ?hq ?_);case hq=>rfl)|((first|(with_reducible first|refine jS fun K hK=>?_|refine jT ?_|refine jU ?_)|((with_reducible refine jV ?hy fun K hK=>?_);case hy=>rfl));simp only [go_sem, Nat.reduceEqDiff, Nat.reduceAdd, Nat.reduceMul, Nat.reduceLeDiff, Nat.reduceLT, Int.reduceLT, Int.reduceLE, Int.reduceEq, Int.reduceNeg, Int.reduceToNat, Nat.reducePow, reduceIte, reduceCtorEq, c1, t1, j0, j1, j2])|((with_reducible first|refine jW ?hy ?_|refine jY ?hy ?_);case hy=>rfl)|((with_reducible first|refine jX ?hy ?_|refine jZ ?hy ?_);case hy=>rfl)|((with_reducible refine jF ?hy ?_);case hy=>decide))
 have g3 : Fr (fun _ => False) H3 (H3.push (.cells #[.int .i64 z.value, .bool z.counts, .int .i64 z.flags] 31)) := (Fr.refl _ _).push _
 refine append_item (x := z) (hG3.it.frame g3 fun _ _ h => h) (readL_blk (Blk.new H3 z.cells _) 3 0 0 (by simp [Sp.Item.cells])) (by omega) ?_
 intro v4 H4 B4 o4 hf4 hB4
 obtain ⟨w4, hG4, n4⟩ := hG3.setIt ((g3.mono fun _ _ h => h.elim).trans hf4) o4 (by
  rcases hB4 with e | ⟨g, e, hg⟩
  ·exact .inl e
  ·right; refine ⟨g, e, ?_⟩; simp at hg; omega)
 obtain ⟨a4, k4, rfl⟩ := o4.slice
 have hbox : H.size < H3.size := Nat.lt_of_lt_of_le b1.lt (Nat.le_trans hf2.size hf3.size)
 repeat' (first|(with_reducible first|refine jA ?_|(refine hK _ _ ?_;clear hK K)|refine jJ fun K hK=>?_|refine jK ?_|refine jL ?_|refine jM ?_|refine jN ?_|refine jO ?_|refine jP ?_|refine jQ ?_|(refine jB ?_;clear hK K)|(refine jC ?_;clear hK K)|refine jD ?_|refine jE ?_|refine jG ?_|refine jH ?_|refine jI ?_)|((with_reducible refine jR ?hq ?_);case hq=>rfl)|((first|(with_reducible first|refine jS fun K hK=>?_|refine jT ?_|refine jU ?_)|((with_reducible refine jV ?hy fun K hK=>?_);case hy=>rfl));simp only [go_sem, Nat.reduceEqDiff, Nat.reduceAdd, Nat.reduceMul, Nat.reduceLeDiff, Nat.reduceLT, Int.reduceLT, Int.reduceLE, Int.reduceEq, Int.reduceNeg, Int.reduceToNat, Nat.reducePow, reduceIte, reduceCtorEq, w4])|((with_reducible first|refine jW ?hy ?_|refine jY ?hy ?_);case hy=>rfl)|((with_reducible first|refine jX ?hy ?_|refine jZ ?hy ?_);case hy=>rfl)|((with_reducible refine jF ?hy ?_);case hy=>decide))
 have bb4 := (bb3.frame ((g3.mono fun _ _ h => h.elim).trans hf4) (fun e => by
  have e3 := hG3.ci _ e
  rw [hc3] at e3; cases e3)).frame (Fr.set (S := (· = x)) (a := ⟨x, 1, none⟩) (Fr.refl _ H4) (.inl rfl) (.slice a4 (its ++ [z]).length k4)) (fun e => by have h := hG.cx; rw [← e, hc0] at h; cases h)
 have n04 := n03.trans n4
 clear n4
 have hc4 : extC col3 H3.size H4.size 3 H.size = 0 := by rw [extC_old hbox]; exact hc3
 generalize extC col3 H3.size H4.size 3 = col4 at hG4 n04 hc4
 generalize hset H4 ⟨x, 1, none⟩ (.slice a4 (its ++ [z]).length k4) = H5 at hG4 n04 bb4 ⊢
 have c2 := hG4.b.cellOf (i := 2) rfl
 obtain ⟨an, cn, rfl⟩ := hG4.inn.slice
 simp only [go_sem, Nat.reduceEqDiff, Nat.reduceAdd, Nat.reduceMul, Nat.reduceLeDiff, Nat.reduceLT, Int.reduceLT, Int.reduceLE, Int.reduceEq, Int.reduceNeg, Int.reduceToNat, Nat.reducePow, reduceIte, reduceCtorEq, c2]
 repeat' (first|(with_reducible first|refine jA ?_|(refine hK _ _ ?_;clear hK K)|refine jJ fun K hK=>?_|refine jK ?_|refine jL ?_|refine jM ?_|refine jN ?_|refine jO ?_|refine jP ?_|refine jQ ?_|(refine jB ?_;clear hK K)|(refine jC ?_;clear hK K)|refine jD ?_|refine jE ?_|refine jG ?_|refine jH ?_|refine jI ?_)|((with_reducible refine jR ?hq ?_);case hq=>rfl)|((first|(with_reducible first|refine jS fun K hK=>?_|refine jT ?_|refine jU ?_)|((with_reducible refine jV ?hy fun K hK=>?_);case hy=>rfl));simp only [go_sem, Nat.reduceEqDiff, Nat.reduceAdd, Nat.reduceMul, Nat.reduceLeDiff, Nat.reduceLT, Int.reduceLT, Int.reduceLE, Int.reduceEq, Int.reduceNeg, Int.reduceToNat, Nat.reducePow, reduceIte, reduceCtorEq, c2])|((with_reducible first|refine jW ?hy ?_|refine jY ?hy ?_);case hy=>rfl)|((with_reducible first|refine jX ?hy ?_|refine jZ ?hy ?_);case hy=>rfl)|((with_reducible refine jF ?hy ?_);case hy=>decide))
 have g5 : Fr (fun _ => False) H5 (H5.push (.cells #[.int .i64 0] 3)) := (Fr.refl _ _).push _
 refine append_or (C := Value.int .i64) (x := (0 : Int)) elems23 tl3 hG4.inn rfl rfl (by decide) (by simp; omega) rfl ?_
 intro v6 H6 B6 o6 hf6 hB6
 obtain ⟨w6, hG6, n6⟩ := hG4.setIn hf6 o6 hB6
 obtain ⟨a6, k6, rfl⟩ := o6.slice
 have bb6 := (bb4.frame hf6 (fun e => by have e4 := hG4.cn _ e; rw [hc4] at e4; cases e4)).frame (Fr.set (S := (· = x)) (a := ⟨x, 2, none⟩) (Fr.refl _ H6) (.inl rfl) (.slice a6 (inn ++ [(0 : Int)]).length k6)) (fun e => by have h := hG4.cx; rw [← e, hc4] at h; cases h)
 have n06 := n04.trans n6
 clear n6
 repeat' (first|(with_reducible first|refine jA ?_|(refine hK _ _ ?_;clear hK K)|refine jJ fun K hK=>?_|refine jK ?_|refine jL ?_|refine jM ?_|refine jN ?_|refine jO ?_|refine jP ?_|refine jQ ?_|(refine jB ?_;clear hK K)|(refine jC ?_;clear hK K)|refine jD ?_|refine jE ?_|refine jG ?_|refine jH ?_|refine jI ?_)|((with_reducible refine jR ?hq ?_);case hq=>rfl)|((first|(with_reducible first|refine jS fun K hK=>?_|refine jT ?_|refine jU ?_)|((with_reducible refine jV ?hy fun K hK=>?_);case hy=>rfl));simp only [go_sem, Nat.reduceEqDiff, Nat.reduceAdd, Nat.reduceMul, Nat.reduceLeDiff, Nat.reduceLT, Int.reduceLT, Int.reduceLE, Int.reduceEq, Int.reduceNeg, Int.reduceToNat, Nat.reducePow, reduceIte, reduceCtorEq, w6])|((with_reducible first|refine jW ?hy ?_|refine jY ?hy ?_);case hy=>rfl)|((with_reducible first|refine jX ?hy ?_|refine jZ ?hy ?_);case hy=>rfl)|((with_reducible refine jF ?hy ?_);case hy=>decide))
 generalize extC col4 H5.size H6.size 4 = col6 at hG6 n06
 generalize hset H6 ⟨x, 2, none⟩ (.slice a6 (inn ++ [(0 : Int)]).length k6) = H7 at hG6 n06 bb6 ⊢
 have j0 := bb6.cellOf (i := 0) rfl
 have j1 := bb6.cellOf (i := 1) rfl
 have j2 := bb6.cellOf (i := 2) rfl
 have hi6 : n < (its ++ [z]).length := by simp; omega
 have hn6 : n < (inn ++ [(0 : Int)]).length := by simp; omega
 obtain ⟨z0, hz0⟩ : ∃ z0, (its ++ [z])[n]? = some z0 := ⟨_, List.getElem?_eq_getElem hi6⟩
 obtain ⟨gi, ci, rfl, hvi, -⟩ := hG6.it.read hz0
 obtain ⟨y0, hy0⟩ : ∃ y0, (inn ++ [(0 : Int)])[n]? = some y0 := ⟨_, List.getElem?_eq_getElem hn6⟩
 obtain ⟨gn, cn, rfl, hvn, -⟩ := hG6.inn.at hy0
 simp only [Value.slice.injEq, true_and] at hvi hvn
 obtain ⟨rfl, rfl⟩ := hvi
 obtain ⟨rfl, rfl⟩ := hvn
 obtain ⟨w0, w1, w2, hG8, n8⟩ := hG6.wrIt (z := z) hi6
 obtain ⟨w3, hG9, n9⟩ := hG8.wrIn (z := (L.length : Nat)) hn6
 obtain ⟨al, cl, rfl⟩ := hG9.ls.slice
 have d1 := hG6.b.cellOf (i := 1) rfl
 have d2 := hG8.b.cellOf (i := 2) rfl
 have d3 := hG8.b.cellOf (i := 3) rfl
 have c5 := hG9.b.cellOf (i := 3) rfl
 simp only [go_sem, Nat.reduceEqDiff, Nat.reduceAdd, Nat.reduceMul, Nat.reduceLeDiff, Nat.reduceLT, Int.reduceLT, Int.reduceLE, Int.reduceEq, Int.reduceNeg, Int.reduceToNat, Nat.reducePow, reduceIte, reduceCtorEq, d1]
 repeat' (first|(with_reducible first|refine jA ?_|(refine hK _ _ ?_;clear hK K)|refine jJ fun K hK=>?_|refine jK ?_|refine jL ?_|refine jM ?_|refine jN ?_|refine jO ?_|refine jP ?_|refine jQ ?_|(refine jB ?_;clear hK K)|(refine jC ?_;clear hK K)|refine jD ?_|refine jE ?_|refine jG ?_|refine jH ?_|refine jI ?_)|((with_reducible refine jR ?hq ?_);case hq=>rfl)|((first|(with_reducible first|refine jS fun K hK=>?_|refine jT ?_|refine jU ?_)|((with_reducible refine jV ?hy fun K hK=>?_);case hy=>rfl));simp only [go_sem, Nat.reduceEqDiff, Nat.reduceAdd, Nat.reduceMul, Nat.reduceLeDiff, Nat.reduceLT, Int.reduceLT, Int.reduceLE, Int.reduceEq, Int.reduceNeg, Int.reduceToNat, Nat.reducePow, reduceIte, reduceCtorEq, d1, hi6, j0, j1, j2, w0, w1, w2, okW_hset])|((with_reducible first|refine jW ?hy ?_|refine jY ?hy ?_);case hy=>rfl)|((with_reducible first|refine jX ?hy ?_|refine jZ ?hy ?_);case hy=>rfl)|((with_reducible refine jF ?hy ?_);case hy=>decide))
 simp only [go_sem, Nat.reduceEqDiff, Nat.reduceAdd, Nat.reduceMul, Nat.reduceLeDiff, Nat.reduceLT, Int.reduceLT, Int.reduceLE, Int.reduceEq, Int.reduceNeg, Int.reduceToNat, Nat.reducePow, reduceIte, reduceCtorEq, d2]
 repeat' (first|(with_reducible first|refine jA ?_|(refine hK _ _ ?_;clear hK K)|refine jJ fun K hK=>?_|refine jK ?_|refine jL ?_|refine jM ?_|refine jN ?_|refine jO ?_|refine jP ?_|refine jQ ?_|(refine jB ?_;clear hK K)|(refine jC ?_;clear hK K)|refine jD ?_|refine jE ?_|refine jG ?_|refine jH ?_|refine jI ?_)|((with_reducible refine jR ?hq ?_);case hq=>rfl)|((first|(with_reducible first|refine jS fun K hK=>?_|refine jT ?_|refine jU ?_)|((with_reducible refine jV ?hy fun K hK=>?_);case hy=>rfl));simp only [go_sem, Nat.reduceEqDiff, Nat.reduceAdd, Nat.reduceMul, Nat.reduceLeDiff, Nat.reduceLT, Int.reduceLT, Int.reduceLE, Int.reduceEq, Int.reduceNeg, Int.reduceToNat, Nat.reducePow, reduceIte, reduceCtorEq, d2, d3, hn6, w3])|((with_reducible first|refine jW ?hy ?_|refine jY ?hy ?_);case hy=>rfl)|((with_reducible first|refine jX ?hy ?_|refine jZ ?hy ?_);case hy=>rfl)|((with_reducible refine jF ?hy ?_);case hy=>decide))
 have n89 := n8.trans n9
 clear n8 n9
 generalize hset (hset (hset (hset H7 _ _) _ _) _ _) _ _ = H9 at hG9 n89 c5 ⊢
 simp only [go_sem, Nat.reduceEqDiff, Nat.reduceAdd, Nat.reduceMul, Nat.reduceLeDiff, Nat.reduceLT, Int.reduceLT, Int.reduceLE, Int.reduceEq, Int.reduceNeg, Int.reduceToNat, Nat.reducePow, reduceIte, reduceCtorEq, c5]
 repeat' (first|(with_reducible first|refine jA ?_|(refine hK _ _ ?_;clear hK K)|refine jJ fun K hK=>?_|refine jK ?_|refine jL ?_|refine jM ?_|refine jN ?_|refine jO ?_|refine jP ?_|refine jQ ?_|(refine jB ?_;clear hK K)|(refine jC ?_;clear hK K)|refine jD ?_|refine jE ?_|refine jG ?_|refine jH ?_|refine jI ?_)|((with_reducible refine jR ?hq ?_);case hq=>rfl)|((first|(with_reducible first|refine jS fun K hK=>?_|refine jT ?_|refine jU ?_)|((with_reducible refine jV ?hy fun K hK=>?_);case hy=>rfl));simp only [go_sem, Nat.reduceEqDiff, Nat.reduceAdd, Nat.reduceMul, Nat.reduceLeDiff, Nat.reduceLT, Int.reduceLT, Int.reduceLE, Int.reduceEq, Int.reduceNeg, Int.reduceToNat, Nat.reducePow, reduceIte, reduceCtorEq, c5])|((with_reducible first|refine jW ?hy ?_|refine jY ?hy ?_);case hy=>rfl)|((with_reducible first|refine jX ?hy ?_|refine jZ ?hy ?_);case hy=>rfl)|((with_reducible refine jF ?hy ?_);case hy=>decide))
 have g1 : Fr (fun _ => False) H9 (H9.push (.cells #[.int .i64 (n : Nat)] 3)) := (Fr.refl _ _).push _
 have ov : OR (Value.int .i64) (H9.push (.cells #[.int .i64 (n : Nat)] 3)) (some H9.size) (.slice (some ⟨H9.size, 0, none⟩) 1 1) [(n : Int)] := ⟨rfl, .inr ⟨H9.size, 1, [], rfl, rfl, Blk.new H9 [.int .i64 (n : Nat)] _, rfl, Nat.le_refl _⟩⟩
 refine append_ll elems64 tl23 (hG9.ls.frame g1 fun _ _ h => h) ov (fun b hb hT => ?_) rfl (by decide) (by simp; omega) rfl ?_
 ·have := hG9.ls.lt hT
  have := Option.some.inj hb
  omega
 intro v10 H10 TL10 hl10 hf10 hT10
 obtain ⟨w10, hG10, n10⟩ := hG9.setL ((g1.mono fun _ _ h => h.elim).trans hf10) hl10 (fun b hb => by
  rcases hT10 b hb with e | e | e
  ·exact .inl e
  ·right; have := Option.some.inj e; omega
  ·right; simp at e; omega)
 obtain ⟨a10, k10, rfl⟩ := hl10.slice
 repeat' (first|(with_reducible first|refine jA ?_|(refine hK _ _ ?_;clear hK K)|refine jJ fun K hK=>?_|refine jK ?_|refine jL ?_|refine jM ?_|refine jN ?_|refine jO ?_|refine jP ?_|refine jQ ?_|(refine jB ?_;clear hK K)|(refine jC ?_;clear hK K)|refine jD ?_|refine jE ?_|refine jG ?_|refine jH ?_|refine jI ?_)|((with_reducible refine jR ?hq ?_);case hq=>rfl)|((first|(with_reducible first|refine jS fun K hK=>?_|refine jT ?_|refine jU ?_)|((with_reducible refine jV ?hy fun K hK=>?_);case hy=>rfl));simp only [go_sem, Nat.reduceEqDiff, Nat.reduceAdd, Nat.reduceMul, Nat.reduceLeDiff, Nat.reduceLT, Int.reduceLT, Int.reduceLE, Int.reduceEq, Int.reduceNeg, Int.reduceToNat, Nat.reducePow, reduceIte, reduceCtorEq, w10])|((with_reducible first|refine jW ?hy ?_|refine jY ?hy ?_);case hy=>rfl)|((with_reducible first|refine jX ?hy ?_|refine jZ ?hy ?_);case hy=>rfl)|((with_reducible refine jF ?hy ?_);case hy=>decide))
 have e1 : (its ++ [z]).set n z = its ++ [z] := by rw [List.set_append_right _ _ (by omega), show n - its.length = 0 by omega]; rfl
 have e2 : (inn ++ [(0 : Int)]).set n (L.length : Nat) = inn ++ [(L.length : Int)] := by rw [List.set_append_right _ _ (by omega), show n - inn.length = 0 by omega]; rfl
 rw [e1, e2] at hG10
 exact fin _ _ _ _ _ _ _ _ _ hG10 ((n06.trans n89).trans n10)
end
end Go.Proofs.Ytndkbhlfbeiniaa
