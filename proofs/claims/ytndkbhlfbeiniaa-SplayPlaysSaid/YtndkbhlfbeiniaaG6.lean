/-
  The document's forest: Join.
  The document's forest: Split.
  Splay forests, asked and changed: every call's answer and what it leaves, as functions.
  The document's forest told by sequences: what is asked of it.
  The document's forest told by sequences: what changes it.
  A side of SplayPlays in memory: its parts lie apart.
-/
import Derived.Test.YtndkbhlfbeiniaaG5
import Derived.Test.YtndkbhlfbeiniaaG4
namespace Go.Proofs.Ytndkbhlfbeiniaa
open Go Go.Hp Go.Sp
set_option linter.all false
set_option maxRecDepth 100000
set_option maxHeartbeats 1600000
section
variable {H : Heap} {x : Nat} {col : Nat → Nat} {R : Rf} {its : List Sp.Item} {inn : List Int} {L : List (List Int)} {q : Nat} {TR : Nat → Prop} {Bi : Option Nat} {vi : Value} {Bn : Option Nat} {vn : Value} {TL : Nat → Prop} {vl : Value} {K : Value → Heap → Prop}
theorem rg_join_none {a b : Int} (hG : RgP H x col R its inn L q TR Bi vi Bn vn TL vl) (hi : R.hasB a = false ∨ R.hasB b = false) (fin : K (.int .i64 31) H) :
  CallsH Try.prog 54 #[.pointer (some ⟨x, 0, none⟩), .int .i64 a, .int .i64 b] H K := by
 refine call54 (by simp) ?_
 simp only [Try.f54, Option.getD_some]
 cases ha : R.hasB a with
 | false =>
  repeat' (first|(with_reducible first|refine jA ?_|(refine hK _ _ ?_;clear hK K)|refine jJ fun K hK=>?_|refine jK ?_|refine jL ?_|refine jM ?_|refine jN ?_|refine jO ?_|refine jP ?_|refine jQ ?_|(refine jB ?_;clear hK K)|(refine jC ?_;clear hK K)|refine jD ?_|refine jE ?_|refine jG ?_|refine jH ?_|refine jI ?_)|((with_reducible refine jR ?hq ?_);case hq=>rfl)|((first|(with_reducible first|refine jS fun K hK=>?_|refine jT ?_|refine jU ?_)|((with_reducible refine jV ?hy fun K hK=>?_);case hy=>rfl));simp only [go_sem, Nat.reduceEqDiff, Nat.reduceAdd, Nat.reduceMul, Nat.reduceLeDiff, Nat.reduceLT, Int.reduceLT, Int.reduceLE, Int.reduceEq, Int.reduceNeg, Int.reduceToNat, Nat.reducePow, reduceIte, reduceCtorEq])|((with_reducible first|refine jW ?hy ?_|refine jY ?hy ?_);case hy=>rfl)|((with_reducible first|refine jX ?hy ?_|refine jZ ?hy ?_);case hy=>rfl)|((with_reducible refine jF ?hy ?_);case hy=>decide))
  refine rg_has hG ?_
  rw [ha]
  repeat' (first|(with_reducible first|refine jA ?_|(refine hK _ _ ?_;clear hK K)|refine jJ fun K hK=>?_|refine jK ?_|refine jL ?_|refine jM ?_|refine jN ?_|refine jO ?_|refine jP ?_|refine jQ ?_|(refine jB ?_;clear hK K)|(refine jC ?_;clear hK K)|refine jD ?_|refine jE ?_|refine jG ?_|refine jH ?_|refine jI ?_)|((with_reducible refine jR ?hq ?_);case hq=>rfl)|((first|(with_reducible first|refine jS fun K hK=>?_|refine jT ?_|refine jU ?_)|((with_reducible refine jV ?hy fun K hK=>?_);case hy=>rfl));simp only [go_sem, Nat.reduceEqDiff, Nat.reduceAdd, Nat.reduceMul, Nat.reduceLeDiff, Nat.reduceLT, Int.reduceLT, Int.reduceLE, Int.reduceEq, Int.reduceNeg, Int.reduceToNat, Nat.reducePow, reduceIte, reduceCtorEq])|((with_reducible first|refine jW ?hy ?_|refine jY ?hy ?_);case hy=>rfl)|((with_reducible first|refine jX ?hy ?_|refine jZ ?hy ?_);case hy=>rfl)|((with_reducible refine jF ?hy ?_);case hy=>decide))
  refine rg_has hG ?_
  repeat' (first|(with_reducible first|refine jA ?_|(refine hK _ _ ?_;clear hK K)|refine jJ fun K hK=>?_|refine jK ?_|refine jL ?_|refine jM ?_|refine jN ?_|refine jO ?_|refine jP ?_|refine jQ ?_|(refine jB ?_;clear hK K)|(refine jC ?_;clear hK K)|refine jD ?_|refine jE ?_|refine jG ?_|refine jH ?_|refine jI ?_)|((with_reducible refine jR ?hq ?_);case hq=>rfl)|((first|(with_reducible first|refine jS fun K hK=>?_|refine jT ?_|refine jU ?_)|((with_reducible refine jV ?hy fun K hK=>?_);case hy=>rfl));simp only [go_sem, Nat.reduceEqDiff, Nat.reduceAdd, Nat.reduceMul, Nat.reduceLeDiff, Nat.reduceLT, Int.reduceLT, Int.reduceLE, Int.reduceEq, Int.reduceNeg, Int.reduceToNat, Nat.reducePow, reduceIte, reduceCtorEq])|((with_reducible first|refine jW ?hy ?_|refine jY ?hy ?_);case hy=>rfl)|((with_reducible first|refine jX ?hy ?_|refine jZ ?hy ?_);case hy=>rfl)|((with_reducible refine jF ?hy ?_);case hy=>decide))
  exact fin
 | true =>
  have hb : R.hasB b = false := hi.resolve_left (by rw [ha]; simp)
  repeat' (first|(with_reducible first|refine jA ?_|(refine hK _ _ ?_;clear hK K)|refine jJ fun K hK=>?_|refine jK ?_|refine jL ?_|refine jM ?_|refine jN ?_|refine jO ?_|refine jP ?_|refine jQ ?_|(refine jB ?_;clear hK K)|(refine jC ?_;clear hK K)|refine jD ?_|refine jE ?_|refine jG ?_|refine jH ?_|refine jI ?_)|((with_reducible refine jR ?hq ?_);case hq=>rfl)|((first|(with_reducible first|refine jS fun K hK=>?_|refine jT ?_|refine jU ?_)|((with_reducible refine jV ?hy fun K hK=>?_);case hy=>rfl));simp only [go_sem, Nat.reduceEqDiff, Nat.reduceAdd, Nat.reduceMul, Nat.reduceLeDiff, Nat.reduceLT, Int.reduceLT, Int.reduceLE, Int.reduceEq, Int.reduceNeg, Int.reduceToNat, Nat.reducePow, reduceIte, reduceCtorEq])|((with_reducible first|refine jW ?hy ?_|refine jY ?hy ?_);case hy=>rfl)|((with_reducible first|refine jX ?hy ?_|refine jZ ?hy ?_);case hy=>rfl)|((with_reducible refine jF ?hy ?_);case hy=>decide))
  refine rg_has hG ?_
  rw [ha]
  repeat' (first|(with_reducible first|refine jA ?_|(refine hK _ _ ?_;clear hK K)|refine jJ fun K hK=>?_|refine jK ?_|refine jL ?_|refine jM ?_|refine jN ?_|refine jO ?_|refine jP ?_|refine jQ ?_|(refine jB ?_;clear hK K)|(refine jC ?_;clear hK K)|refine jD ?_|refine jE ?_|refine jG ?_|refine jH ?_|refine jI ?_)|((with_reducible refine jR ?hq ?_);case hq=>rfl)|((first|(with_reducible first|refine jS fun K hK=>?_|refine jT ?_|refine jU ?_)|((with_reducible refine jV ?hy fun K hK=>?_);case hy=>rfl));simp only [go_sem, Nat.reduceEqDiff, Nat.reduceAdd, Nat.reduceMul, Nat.reduceLeDiff, Nat.reduceLT, Int.reduceLT, Int.reduceLE, Int.reduceEq, Int.reduceNeg, Int.reduceToNat, Nat.reducePow, reduceIte, reduceCtorEq])|((with_reducible first|refine jW ?hy ?_|refine jY ?hy ?_);case hy=>rfl)|((with_reducible first|refine jX ?hy ?_|refine jZ ?hy ?_);case hy=>rfl)|((with_reducible refine jF ?hy ?_);case hy=>decide))
  refine rg_has hG ?_
  rw [hb]
  repeat' (first|(with_reducible first|refine jA ?_|(refine hK _ _ ?_;clear hK K)|refine jJ fun K hK=>?_|refine jK ?_|refine jL ?_|refine jM ?_|refine jN ?_|refine jO ?_|refine jP ?_|refine jQ ?_|(refine jB ?_;clear hK K)|(refine jC ?_;clear hK K)|refine jD ?_|refine jE ?_|refine jG ?_|refine jH ?_|refine jI ?_)|((with_reducible refine jR ?hq ?_);case hq=>rfl)|((first|(with_reducible first|refine jS fun K hK=>?_|refine jT ?_|refine jU ?_)|((with_reducible refine jV ?hy fun K hK=>?_);case hy=>rfl));simp only [go_sem, Nat.reduceEqDiff, Nat.reduceAdd, Nat.reduceMul, Nat.reduceLeDiff, Nat.reduceLT, Int.reduceLT, Int.reduceLE, Int.reduceEq, Int.reduceNeg, Int.reduceToNat, Nat.reducePow, reduceIte, reduceCtorEq])|((with_reducible first|refine jW ?hy ?_|refine jY ?hy ?_);case hy=>rfl)|((with_reducible first|refine jX ?hy ?_|refine jZ ?hy ?_);case hy=>rfl)|((with_reducible refine jF ?hy ?_);case hy=>decide))
  exact fin
theorem rg_join_same {a b n : Nat} (hG : RgP H x col R its inn L q TR Bi vi Bn vn TL vl) (ha : R.hasB (a : Nat) = true) (hb : R.hasB (b : Nat) = true) (h1 : inn[a]? = some (n : Int)) (h2 : inn[b]? = some (n : Int)) (fin : K (.int .i64 33) H) :
  CallsH Try.prog 54 #[.pointer (some ⟨x, 0, none⟩), .int .i64 (a : Nat), .int .i64 (b : Nat)] H K := by
 have c2 := hG.b.cellOf (i := 2) rfl
 obtain ⟨gn, cn, rfl, rfl, d1⟩ := hG.inn.at h1
 have d2 := hG.inn.cell h2
 have l1 := (List.getElem?_eq_some_iff.1 h1).1
 have l2 := (List.getElem?_eq_some_iff.1 h2).1
 have e : ((n : Int) == (n : Int)) = true := by simp
 refine call54 (by simp) ?_
 simp only [Try.f54, Option.getD_some]
 repeat' (first|(with_reducible first|refine jA ?_|(refine hK _ _ ?_;clear hK K)|refine jJ fun K hK=>?_|refine jK ?_|refine jL ?_|refine jM ?_|refine jN ?_|refine jO ?_|refine jP ?_|refine jQ ?_|(refine jB ?_;clear hK K)|(refine jC ?_;clear hK K)|refine jD ?_|refine jE ?_|refine jG ?_|refine jH ?_|refine jI ?_)|((with_reducible refine jR ?hq ?_);case hq=>rfl)|((first|(with_reducible first|refine jS fun K hK=>?_|refine jT ?_|refine jU ?_)|((with_reducible refine jV ?hy fun K hK=>?_);case hy=>rfl));simp only [go_sem, Nat.reduceEqDiff, Nat.reduceAdd, Nat.reduceMul, Nat.reduceLeDiff, Nat.reduceLT, Int.reduceLT, Int.reduceLE, Int.reduceEq, Int.reduceNeg, Int.reduceToNat, Nat.reducePow, reduceIte, reduceCtorEq])|((with_reducible first|refine jW ?hy ?_|refine jY ?hy ?_);case hy=>rfl)|((with_reducible first|refine jX ?hy ?_|refine jZ ?hy ?_);case hy=>rfl)|((with_reducible refine jF ?hy ?_);case hy=>decide))
 refine rg_has hG ?_
 rw [ha]
 repeat' (first|(with_reducible first|refine jA ?_|(refine hK _ _ ?_;clear hK K)|refine jJ fun K hK=>?_|refine jK ?_|refine jL ?_|refine jM ?_|refine jN ?_|refine jO ?_|refine jP ?_|refine jQ ?_|(refine jB ?_;clear hK K)|(refine jC ?_;clear hK K)|refine jD ?_|refine jE ?_|refine jG ?_|refine jH ?_|refine jI ?_)|((with_reducible refine jR ?hq ?_);case hq=>rfl)|((first|(with_reducible first|refine jS fun K hK=>?_|refine jT ?_|refine jU ?_)|((with_reducible refine jV ?hy fun K hK=>?_);case hy=>rfl));simp only [go_sem, Nat.reduceEqDiff, Nat.reduceAdd, Nat.reduceMul, Nat.reduceLeDiff, Nat.reduceLT, Int.reduceLT, Int.reduceLE, Int.reduceEq, Int.reduceNeg, Int.reduceToNat, Nat.reducePow, reduceIte, reduceCtorEq])|((with_reducible first|refine jW ?hy ?_|refine jY ?hy ?_);case hy=>rfl)|((with_reducible first|refine jX ?hy ?_|refine jZ ?hy ?_);case hy=>rfl)|((with_reducible refine jF ?hy ?_);case hy=>decide))
 refine rg_has hG ?_
 rw [hb]
 repeat' (first|(with_reducible first|refine jA ?_|(refine hK _ _ ?_;clear hK K)|refine jJ fun K hK=>?_|refine jK ?_|refine jL ?_|refine jM ?_|refine jN ?_|refine jO ?_|refine jP ?_|refine jQ ?_|(refine jB ?_;clear hK K)|(refine jC ?_;clear hK K)|refine jD ?_|refine jE ?_|refine jG ?_|refine jH ?_|refine jI ?_)|((with_reducible refine jR ?hq ?_);case hq=>rfl)|((first|(with_reducible first|refine jS fun K hK=>?_|refine jT ?_|refine jU ?_)|((with_reducible refine jV ?hy fun K hK=>?_);case hy=>rfl));simp only [go_sem, Nat.reduceEqDiff, Nat.reduceAdd, Nat.reduceMul, Nat.reduceLeDiff, Nat.reduceLT, Int.reduceLT, Int.reduceLE, Int.reduceEq, Int.reduceNeg, Int.reduceToNat, Nat.reducePow, reduceIte, reduceCtorEq, c2, d1, d2, l1, l2, e])|((with_reducible first|refine jW ?hy ?_|refine jY ?hy ?_);case hy=>rfl)|((with_reducible first|refine jX ?hy ?_|refine jZ ?hy ?_);case hy=>rfl)|((with_reducible refine jF ?hy ?_);case hy=>decide))
 exact fin
theorem joinLoop {e : Env} {Q : HX → Env → Heap → Prop} {na nb : Nat} {ys : List Nat} (hG : RgP H x col R its inn L q TR Bi vi Bn vn TL vl) (hy : L[nb]? = some (ys.map Int.ofNat)) (hyl : ys.length ≤ 1099511627776) (hyi : ∀ h ∈ ys, h < inn.length)
  (e0 : e 0 = .pointer (some ⟨x, 0, none⟩)) (e9 : e 9 = .int .i64 (na : Nat)) (e10 : e 10 = .int .i64 (nb : Nat)) (e11 : e 11 = .int .i64 0)
  (fin : ∀ e' H' inn', e' 0 = .pointer (some ⟨x, 0, none⟩) → e' 9 = .int .i64 (na : Nat) → e' 10 = .int .i64 (nb : Nat) → RgP H' x col R its inn' L q TR Bi vi Bn vn TL vl → Nx col col H H' → inn'.length = inn.length →
   (∀ k : Nat, inn'[k]? = if k ∈ ys then some (na : Int) else inn[k]?) → Q .normal e' H') :
  codeX Try.prog [12] (loopAt Try.f54.body 0) (blockQ 0 Q) e H := by
 refine x_loop (fun m e' H' => ∃ (i : Nat) (inn' : List Int), e' 11 = .int .i64 (i : Nat) ∧ i ≤ ys.length ∧ RgP H' x col R its inn' L q TR Bi vi Bn vn TL vl ∧ Nx col col H H' ∧ inn'.length = inn.length ∧
  (∀ k : Nat, inn'[k]? = if k ∈ ys.take i then some (na : Int) else inn[k]?) ∧ m = ys.length - i) ys.length ⟨0, inn, e11, Nat.zero_le _, hG, Nx.refl _ _, rfl, (fun k => by simp), rfl⟩ ?_
 rintro m e1 H1 ⟨i, inn1, i11, hil, hG1, n1, hl1, hk1, rfl⟩ hoff
 have i0 := (hoff 0 rfl).trans e0
 have i9 := (hoff 9 rfl).trans e9
 have i10 := (hoff 10 rfl).trans e10
 clear hoff e0 e9 e10 e11
 have c2 := hG1.b.cellOf (i := 2) rfl
 have c3 := hG1.b.cellOf (i := 3) rfl
 obtain ⟨g, c, B, v, rfl, d1, o1, -⟩ := hG1.ls.at hy
 obtain ⟨av, cv, rfl⟩ := o1.slice
 have lnb := (List.getElem?_eq_some_iff.1 hy).1
 have hml : (ys.map Int.ofNat).length = ys.length := by simp
 by_cases hlt : i < ys.length
 ·obtain ⟨h, hh⟩ : ∃ h, ys[i]? = some h := ⟨_, List.getElem?_eq_getElem hlt⟩
  have hmem := List.mem_of_getElem? hh
  have hhl := hyi h hmem
  obtain ⟨g2, c2', rfl, hv2, d2⟩ := o1.at (i := i) (x := (h : Int)) (by rw [List.getElem?_map, hh]; rfl)
  simp only [Value.slice.injEq, true_and] at hv2
  obtain ⟨rfl, rfl⟩ := hv2
  obtain ⟨y0, hy0⟩ : ∃ y0, inn1[h]? = some y0 := ⟨_, List.getElem?_eq_getElem (by omega)⟩
  obtain ⟨gn, cn, rfl, rfl, -⟩ := hG1.inn.at hy0
  obtain ⟨w, hG2, n2⟩ := hG1.wrIn (z := (na : Nat)) (i := h) (by omega)
  have ew : IntKind.i64.wrap ((i : Int) + 1) = ((i + 1 : Nat) : Int) := by rw [wrap_i64] <;> omega
  have hh1 : (h < inn1.length) = True := by simp; omega
  have tl1 : (i < (ys.map Int.ofNat).length) = True := by simp; omega
  repeat' (first|(with_reducible first|refine jA ?_|(refine hK _ _ ?_;clear hK K)|refine jJ fun K hK=>?_|refine jK ?_|refine jL ?_|refine jM ?_|refine jN ?_|refine jO ?_|refine jP ?_|refine jQ ?_|(refine jB ?_;clear hK K)|(refine jC ?_;clear hK K)|refine jD ?_|refine jE ?_|refine jG ?_|refine jH ?_|refine jI ?_)|((with_reducible refine jR ?hq ?_);case hq=>rfl)|((first|(with_reducible first|refine jS fun K hK=>?_|refine jT ?_|refine jU ?_)|((with_reducible refine jV ?hy fun K hK=>?_);case hy=>rfl));simp only [go_sem, Nat.reduceEqDiff, Nat.reduceAdd, Nat.reduceMul, Nat.reduceLeDiff, Nat.reduceLT, Int.reduceLT, Int.reduceLE, Int.reduceEq, Int.reduceNeg, Int.reduceToNat, Nat.reducePow, reduceIte, reduceCtorEq, i0, i9, i10, i11, c2, c3, d1, d2, lnb, hlt, tl1, hh1, w, ew])|((with_reducible first|refine jW ?hy ?_|refine jY ?hy ?_);case hy=>rfl)|((with_reducible first|refine jX ?hy ?_|refine jZ ?hy ?_);case hy=>rfl)|((with_reducible refine jF ?hy ?_);case hy=>decide))
  refine loop_normal (m' := ys.length - (i + 1)) (by omega) ⟨i + 1, _, rfl, hlt, hG2, n1.trans n2, by simpa using hl1, fun k => ?_, rfl⟩
  rw [List.getElem?_set, List.take_add_one, hh]
  by_cases hkh : h = k
  ·subst hkh
   rw [if_pos rfl, if_pos (by omega), if_pos (by simp)]
  ·rw [if_neg hkh, hk1]
   have : (k ∈ ys.take i ++ (some h).toList) ↔ k ∈ ys.take i := by simp; intro e; exact absurd e.symm hkh
   simp only [this]
 ·have t1 : (i < (ys.map Int.ofNat).length) = False := by simp; omega
  have t1' : (i < ys.length) = False := by simp; omega
  have hie : i = ys.length := by omega
  repeat' (first|(with_reducible first|refine jA ?_|(refine hK _ _ ?_;clear hK K)|refine jJ fun K hK=>?_|refine jK ?_|refine jL ?_|refine jM ?_|refine jN ?_|refine jO ?_|refine jP ?_|refine jQ ?_|(refine jB ?_;clear hK K)|(refine jC ?_;clear hK K)|refine jD ?_|refine jE ?_|refine jG ?_|refine jH ?_|refine jI ?_)|((with_reducible refine jR ?hq ?_);case hq=>rfl)|((first|(with_reducible first|refine jS fun K hK=>?_|refine jT ?_|refine jU ?_)|((with_reducible refine jV ?hy fun K hK=>?_);case hy=>rfl));simp only [go_sem, Nat.reduceEqDiff, Nat.reduceAdd, Nat.reduceMul, Nat.reduceLeDiff, Nat.reduceLT, Int.reduceLT, Int.reduceLE, Int.reduceEq, Int.reduceNeg, Int.reduceToNat, Nat.reducePow, reduceIte, reduceCtorEq, i0, i9, i10, i11, c3, d1, lnb, t1, t1'])|((with_reducible first|refine jW ?hy ?_|refine jY ?hy ?_);case hy=>rfl)|((with_reducible first|refine jX ?hy ?_|refine jZ ?hy ?_);case hy=>rfl)|((with_reducible refine jF ?hy ?_);case hy=>decide))
  refine fin _ _ _ i0 i9 i10 hG1 n1 hl1 fun k => ?_
  rw [hk1, hie, List.take_length]
theorem rg_join {a b na nb : Nat} {xs : List Int} {ys : List Nat} (hG : RgP H x col R its inn L q TR Bi vi Bn vn TL vl) (ha : R.hasB (a : Nat) = true) (hb : R.hasB (b : Nat) = true) (h1 : inn[a]? = some (na : Int)) (h2 : inn[b]? = some (nb : Int)) (hne : na ≠ nb)
  (hx : L[na]? = some xs) (hy : L[nb]? = some (ys.map Int.ofNat)) (hxl : xs.length ≤ 100000) (hyl : ys.length ≤ 100000) (hy0 : ys ≠ []) (hyi : ∀ h ∈ ys, h < inn.length)
  (fin : ∀ H' col' inn' TL', RgP H' x col' R its inn' ((L.set na (xs ++ ys.map Int.ofNat)).set nb []) q TR Bi vi Bn vn TL' vl → Nx col col' H H' → inn'.length = inn.length → (∀ k : Nat, inn'[k]? = if k ∈ ys then some (na : Int) else inn[k]?) → K (.int .i64 0) H') :
  CallsH Try.prog 54 #[.pointer (some ⟨x, 0, none⟩), .int .i64 (a : Nat), .int .i64 (b : Nat)] H K := by
 have c2 := hG.b.cellOf (i := 2) rfl
 obtain ⟨gn, cn, rfl, rfl, d1⟩ := hG.inn.at h1
 have d2 := hG.inn.cell h2
 have l1 := (List.getElem?_eq_some_iff.1 h1).1
 have l2 := (List.getElem?_eq_some_iff.1 h2).1
 have e : ((na : Int) == (nb : Int)) = false := by simp; omega
 refine call54 (by simp) ?_
 simp only [Try.f54, Option.getD_some]
 repeat' (first|(with_reducible first|refine jA ?_|(refine hK _ _ ?_;clear hK K)|refine jJ fun K hK=>?_|refine jK ?_|refine jL ?_|refine jM ?_|refine jN ?_|refine jO ?_|refine jP ?_|refine jQ ?_|(refine jB ?_;clear hK K)|(refine jC ?_;clear hK K)|refine jD ?_|refine jE ?_|refine jG ?_|refine jH ?_|refine jI ?_)|((with_reducible refine jR ?hq ?_);case hq=>rfl)|((first|(with_reducible first|refine jS fun K hK=>?_|refine jT ?_|refine jU ?_)|((with_reducible refine jV ?hy fun K hK=>?_);case hy=>rfl));simp only [go_sem, Nat.reduceEqDiff, Nat.reduceAdd, Nat.reduceMul, Nat.reduceLeDiff, Nat.reduceLT, Int.reduceLT, Int.reduceLE, Int.reduceEq, Int.reduceNeg, Int.reduceToNat, Nat.reducePow, reduceIte, reduceCtorEq])|((with_reducible first|refine jW ?hy ?_|refine jY ?hy ?_);case hy=>rfl)|((with_reducible first|refine jX ?hy ?_|refine jZ ?hy ?_);case hy=>rfl)|((with_reducible refine jF ?hy ?_);case hy=>decide))
 refine rg_has hG ?_
 rw [ha]
 repeat' (first|(with_reducible first|refine jA ?_|(refine hK _ _ ?_;clear hK K)|refine jJ fun K hK=>?_|refine jK ?_|refine jL ?_|refine jM ?_|refine jN ?_|refine jO ?_|refine jP ?_|refine jQ ?_|(refine jB ?_;clear hK K)|(refine jC ?_;clear hK K)|refine jD ?_|refine jE ?_|refine jG ?_|refine jH ?_|refine jI ?_)|((with_reducible refine jR ?hq ?_);case hq=>rfl)|((first|(with_reducible first|refine jS fun K hK=>?_|refine jT ?_|refine jU ?_)|((with_reducible refine jV ?hy fun K hK=>?_);case hy=>rfl));simp only [go_sem, Nat.reduceEqDiff, Nat.reduceAdd, Nat.reduceMul, Nat.reduceLeDiff, Nat.reduceLT, Int.reduceLT, Int.reduceLE, Int.reduceEq, Int.reduceNeg, Int.reduceToNat, Nat.reducePow, reduceIte, reduceCtorEq])|((with_reducible first|refine jW ?hy ?_|refine jY ?hy ?_);case hy=>rfl)|((with_reducible first|refine jX ?hy ?_|refine jZ ?hy ?_);case hy=>rfl)|((with_reducible refine jF ?hy ?_);case hy=>decide))
 refine rg_has hG ?_
 rw [hb]
 repeat' (first|(with_reducible first|refine jA ?_|(refine hK _ _ ?_;clear hK K)|refine jJ fun K hK=>?_|refine jK ?_|refine jL ?_|refine jM ?_|refine jN ?_|refine jO ?_|refine jP ?_|refine jQ ?_|(refine jB ?_;clear hK K)|(refine jC ?_;clear hK K)|refine jD ?_|refine jE ?_|refine jG ?_|refine jH ?_|refine jI ?_)|((with_reducible refine jR ?hq ?_);case hq=>rfl)|((first|(with_reducible first|refine jS fun K hK=>?_|refine jT ?_|refine jU ?_)|((with_reducible refine jV ?hy fun K hK=>?_);case hy=>rfl));simp only [go_sem, Nat.reduceEqDiff, Nat.reduceAdd, Nat.reduceMul, Nat.reduceLeDiff, Nat.reduceLT, Int.reduceLT, Int.reduceLE, Int.reduceEq, Int.reduceNeg, Int.reduceToNat, Nat.reducePow, reduceIte, reduceCtorEq, c2, d1, d2, l1, l2, e])|((with_reducible first|refine jW ?hy ?_|refine jY ?hy ?_);case hy=>rfl)|((with_reducible first|refine jX ?hy ?_|refine jZ ?hy ?_);case hy=>rfl)|((with_reducible refine jF ?hy ?_);case hy=>decide))
 refine joinLoop hG hy (by omega) hyi rfl rfl rfl rfl fun e1 H1 inn1 i0 i9 i10 hG1 n1 hl1 hk1 => ?_
 obtain ⟨gl, cl, B, v, rfl, f1, o1, hgl, hB, -, hput⟩ := hG1.ls.at hx
 obtain ⟨gl2, cl2, B2, v2, hvl2, f2, o2, -⟩ := hG1.ls.at hy
 simp only [Value.slice.injEq, Option.some.injEq, Addr.mk.injEq, and_true, true_and] at hvl2
 obtain ⟨rfl, rfl⟩ := hvl2
 obtain ⟨av, cv, rfl⟩ := o1.slice
 obtain ⟨g2, k2, rfl, rfl, -⟩ := o2.open (by simpa using hy0)
 have lna := (List.getElem?_eq_some_iff.1 hx).1
 have lnb := (List.getElem?_eq_some_iff.1 hy).1
 have q1 : Cells [(x, 3, .slice (some ⟨gl, 0, none⟩) L.length cl), (gl, na, .slice av xs.length cv), (gl, nb, .slice (some ⟨g2, 0, none⟩) (ys.map Int.ofNat).length k2)] H1 := ⟨hG1.b.cellOf (i := 3) rfl, f1, f2, trivial⟩
 repeat' (first|(with_reducible first|refine jA ?_|(refine hK _ _ ?_;clear hK K)|refine jJ fun K hK=>?_|refine jK ?_|refine jL ?_|refine jM ?_|refine jN ?_|refine jO ?_|refine jP ?_|refine jQ ?_|(refine jB ?_;clear hK K)|(refine jC ?_;clear hK K)|refine jD ?_|refine jE ?_|refine jG ?_|refine jH ?_|refine jI ?_)|((with_reducible refine jR ?hq ?_);case hq=>rfl)|((first|(with_reducible first|refine jS fun K hK=>?_|refine jT ?_|refine jU ?_)|((with_reducible refine jV ?hy fun K hK=>?_);case hy=>rfl));simp only [go_sem, Nat.reduceEqDiff, Nat.reduceAdd, Nat.reduceMul, Nat.reduceLeDiff, Nat.reduceLT, Int.reduceLT, Int.reduceLE, Int.reduceEq, Int.reduceNeg, Int.reduceToNat, Nat.reducePow, reduceIte, reduceCtorEq])|((with_reducible first|refine jW ?hy ?_|refine jY ?hy ?_);case hy=>rfl)|((with_reducible first|refine jX ?hy ?_|refine jZ ?hy ?_);case hy=>rfl)|((with_reducible refine jF ?hy ?_);case hy=>decide))
 refine x_drawS [21] [0, 1, 2, 3, 4, 5, 6, 7, 8, 9, 10, 11, 12, 13, 14, 15, 16, 17, 18, 19, 20, 21] rfl (by kernel_rfl) (Cells _) q1 ?_
 repeat' (first|(with_reducible refine xs_nil ?_)|((first|((with_reducible apply xs_rd);case hi=>rfl)|((with_reducible apply xs_guard_yes);(case hi=>rfl);(case hy=>rfl)));(case hr=>rfl);(case h1=>intro H' hS'; (try simp only [Cells, and_true] at hS');simp only [go_sem, Nat.reduceEqDiff, Nat.reduceAdd, Nat.reduceMul, Nat.reduceLeDiff, Nat.reduceLT, Int.reduceLT, Int.reduceLE, Int.reduceEq, Int.reduceNeg, Int.reduceToNat, Nat.reducePow, reduceIte, reduceCtorEq, i0, i9, i10, lna, lnb, hS']; rfl))|((with_reducible refine xs_tail ?hz ?_);case hz=>rfl)|((with_reducible refine xs_keep ?hz ?_);case hz=>first|(with_reducible assumption)|assumption|(simp only [go_sem, Nat.reduceEqDiff, Nat.reduceAdd, Nat.reduceMul, Nat.reduceLeDiff, Nat.reduceLT, Int.reduceLT, Int.reduceLE, Int.reduceEq, Int.reduceNeg, Int.reduceToNat, Nat.reducePow, reduceIte, reduceCtorEq, Cells, and_true, i0, i9, i10, lna, lnb]))|((with_reducible apply xs_guard_no);(case hi=>rfl);(case hy=>rfl);(case hS=>assumption))|((first|((with_reducible apply xs_op);(case hi=>rfl))|((with_reducible apply xs_op_yes);(case hi=>rfl);(case hy=>rfl)));(case hr=>rfl);intro K hK; simp only [go_sem, Nat.reduceEqDiff, Nat.reduceAdd, Nat.reduceMul, Nat.reduceLeDiff, Nat.reduceLT, Int.reduceLT, Int.reduceLE, Int.reduceEq, Int.reduceNeg, Int.reduceToNat, Nat.reducePow, reduceIte, reduceCtorEq, i0, i9, i10, lna, lnb])|(with_reducible first|refine jA ?_|(refine hK _ _ ?_;clear hK K)|refine jJ fun K hK=>?_|refine jK ?_|refine jL ?_|refine jM ?_|refine jN ?_|refine jO ?_|refine jP ?_|refine jQ ?_|(refine jB ?_;clear hK K)|(refine jC ?_;clear hK K)|refine jD ?_|refine jE ?_|refine jG ?_|refine jH ?_|refine jI ?_)|((with_reducible refine jR ?hq ?_);case hq=>rfl)|((first|(with_reducible first|refine jS fun K hK=>?_|refine jT ?_|refine jU ?_)|((with_reducible refine jV ?hy fun K hK=>?_);case hy=>rfl));simp only [go_sem, Nat.reduceEqDiff, Nat.reduceAdd, Nat.reduceMul, Nat.reduceLeDiff, Nat.reduceLT, Int.reduceLT, Int.reduceLE, Int.reduceEq, Int.reduceNeg, Int.reduceToNat, Nat.reducePow, reduceIte, reduceCtorEq, i0, i9, i10, lna, lnb])|((with_reducible first|refine jW ?hy ?_|refine jY ?hy ?_);case hy=>rfl)|((with_reducible first|refine jX ?hy ?_|refine jZ ?hy ?_);case hy=>rfl)|((with_reducible refine jF ?hy ?_);case hy=>decide))
 refine append_irs (xs := xs) (ys := ys.map Int.ofNat) elems23 tl3 (show IR _ _ _ _ from o1) (by have := IR.readL (show IR _ (some g2) (.slice (some ⟨g2, 0, none⟩) _ _) _ from o2) (o := 0) (m := (ys.map Int.ofNat).length) (by omega); rw [List.drop_zero, List.take_length] at this; exact this) rfl (by decide) (by simp; omega) rfl ?_
 intro v3 H3 B3 hv3 hf3 hB3
 obtain ⟨w3, hL3⟩ := hput H3 B3 v3 _ hv3 hf3 hB3
 obtain ⟨a3, k3, rfl⟩ := hv3.slice
 have hBx : B ≠ some x := fun e => by have h := hG1.cl _ (hB x e).1; rw [hG1.cx] at h; cases h
 have hBg : B ≠ some gl := fun e => (hB gl e).2 rfl
 have q3 := q1.frame hf3 (by
  intro y hy
  simp only [List.mem_cons, List.not_mem_nil, or_false] at hy
  rcases hy with rfl | rfl | rfl
  ·exact hBx
  ·exact hBg
  ·exact hBg)
 have hf4 : Fr TL H1 (hset H3 ⟨gl, na, none⟩ (.slice a3 (xs ++ ys.map Int.ofNat).length k3)) := Fr.set (S := TL) (a := ⟨gl, na, none⟩) (hf3.mono fun b _ h => (hB b h).1) (.inl hgl) _
 obtain ⟨hG4, n4⟩ := hG1.chL hf4 hL3 (fun b hb => by
  rcases hb with hb | hb
  ·exact .inl hb
  ·rcases hB3 with e | ⟨g, e, hg⟩
   ·rw [e] at hb; exact .inl (hB b hb).1
   ·rw [e] at hb; rw [← Option.some.inj hb]; exact .inr hg)
 repeat' (first|(with_reducible refine xs_nil ?_)|((first|((with_reducible apply xs_rd);case hi=>rfl)|((with_reducible apply xs_guard_yes);(case hi=>rfl);(case hy=>rfl)));(case hr=>rfl);(case h1=>intro H' hS'; (try simp only [Cells, and_true] at hS');simp only [go_sem, Nat.reduceEqDiff, Nat.reduceAdd, Nat.reduceMul, Nat.reduceLeDiff, Nat.reduceLT, Int.reduceLT, Int.reduceLE, Int.reduceEq, Int.reduceNeg, Int.reduceToNat, Nat.reducePow, reduceIte, reduceCtorEq, i0, i9, i10, lna, lnb, q3, w3, hS']; rfl))|((with_reducible refine xs_tail ?hz ?_);case hz=>rfl)|((with_reducible refine xs_keep ?hz ?_);case hz=>first|(with_reducible assumption)|assumption|(simp only [go_sem, Nat.reduceEqDiff, Nat.reduceAdd, Nat.reduceMul, Nat.reduceLeDiff, Nat.reduceLT, Int.reduceLT, Int.reduceLE, Int.reduceEq, Int.reduceNeg, Int.reduceToNat, Nat.reducePow, reduceIte, reduceCtorEq, Cells, and_true, i0, i9, i10, lna, lnb, q3, w3]))|((with_reducible apply xs_guard_no);(case hi=>rfl);(case hy=>rfl);(case hS=>assumption))|((first|((with_reducible apply xs_op);(case hi=>rfl))|((with_reducible apply xs_op_yes);(case hi=>rfl);(case hy=>rfl)));(case hr=>rfl);intro K hK; simp only [go_sem, Nat.reduceEqDiff, Nat.reduceAdd, Nat.reduceMul, Nat.reduceLeDiff, Nat.reduceLT, Int.reduceLT, Int.reduceLE, Int.reduceEq, Int.reduceNeg, Int.reduceToNat, Nat.reducePow, reduceIte, reduceCtorEq, i0, i9, i10, lna, lnb, q3, w3])|(with_reducible first|refine jA ?_|(refine hK _ _ ?_;clear hK K)|refine jJ fun K hK=>?_|refine jK ?_|refine jL ?_|refine jM ?_|refine jN ?_|refine jO ?_|refine jP ?_|refine jQ ?_|(refine jB ?_;clear hK K)|(refine jC ?_;clear hK K)|refine jD ?_|refine jE ?_|refine jG ?_|refine jH ?_|refine jI ?_)|((with_reducible refine jR ?hq ?_);case hq=>rfl)|((first|(with_reducible first|refine jS fun K hK=>?_|refine jT ?_|refine jU ?_)|((with_reducible refine jV ?hy fun K hK=>?_);case hy=>rfl));simp only [go_sem, Nat.reduceEqDiff, Nat.reduceAdd, Nat.reduceMul, Nat.reduceLeDiff, Nat.reduceLT, Int.reduceLT, Int.reduceLE, Int.reduceEq, Int.reduceNeg, Int.reduceToNat, Nat.reducePow, reduceIte, reduceCtorEq, i0, i9, i10, lna, lnb, q3, w3])|((with_reducible first|refine jW ?hy ?_|refine jY ?hy ?_);case hy=>rfl)|((with_reducible first|refine jX ?hy ?_|refine jZ ?hy ?_);case hy=>rfl)|((with_reducible refine jF ?hy ?_);case hy=>decide))
 generalize hset H3 ⟨gl, na, none⟩ (.slice a3 (xs ++ ys.map Int.ofNat).length k3) = H4 at hG4 n4 ⊢
 have c3 := hG4.b.cellOf (i := 3) rfl
 simp only [go_sem, Nat.reduceEqDiff, Nat.reduceAdd, Nat.reduceMul, Nat.reduceLeDiff, Nat.reduceLT, Int.reduceLT, Int.reduceLE, Int.reduceEq, Int.reduceNeg, Int.reduceToNat, Nat.reducePow, reduceIte, reduceCtorEq, c3]
 have lnb' : nb < (L.set na (xs ++ ys.map Int.ofNat)).length := by rw [List.length_set]; exact lnb
 obtain ⟨g5, c5, hv5, w5, hT5, hL5⟩ := hG4.ls.clear lnb'
 rw [List.length_set] at hv5
 simp only [Value.slice.injEq, Option.some.injEq, Addr.mk.injEq, and_true, true_and] at hv5
 obtain ⟨rfl, rfl⟩ := hv5
 repeat' (first|(with_reducible first|refine jA ?_|(refine hK _ _ ?_;clear hK K)|refine jJ fun K hK=>?_|refine jK ?_|refine jL ?_|refine jM ?_|refine jN ?_|refine jO ?_|refine jP ?_|refine jQ ?_|(refine jB ?_;clear hK K)|(refine jC ?_;clear hK K)|refine jD ?_|refine jE ?_|refine jG ?_|refine jH ?_|refine jI ?_)|((with_reducible refine jR ?hq ?_);case hq=>rfl)|((first|(with_reducible first|refine jS fun K hK=>?_|refine jT ?_|refine jU ?_)|((with_reducible refine jV ?hy fun K hK=>?_);case hy=>rfl));simp only [go_sem, Nat.reduceEqDiff, Nat.reduceAdd, Nat.reduceMul, Nat.reduceLeDiff, Nat.reduceLT, Int.reduceLT, Int.reduceLE, Int.reduceEq, Int.reduceNeg, Int.reduceToNat, Nat.reducePow, reduceIte, reduceCtorEq, i0, i10, c3, lnb, w5])|((with_reducible first|refine jW ?hy ?_|refine jY ?hy ?_);case hy=>rfl)|((with_reducible first|refine jX ?hy ?_|refine jZ ?hy ?_);case hy=>rfl)|((with_reducible refine jF ?hy ?_);case hy=>decide))
 obtain ⟨hG6, n6⟩ := hG4.chL (Fr.set (Fr.refl _ H4) (a := ⟨gl, nb, none⟩) (.inl hT5) _) hL5 (fun b hb => .inl hb)
 exact fin _ _ inn1 _ hG6 ((n1.trans n4).trans n6) hl1 hk1
end
section
variable {H : Heap} {x : Nat} {col : Nat → Nat} {R : Rf} {its : List Sp.Item} {inn : List Int} {L : List (List Int)} {q : Nat} {TR : Nat → Prop} {Bi : Option Nat} {vi : Value} {Bn : Option Nat} {vn : Value} {TL : Nat → Prop} {vl : Value} {K : Value → Heap → Prop}
theorem RgP.adopt {B : Option Nat} (h : RgP H x col R its inn L q TR Bi vi Bn vn TL vl) (hB : ∀ b, B = some b → col b = 0 ∧ b < H.size) :
  RgP H x (fun b => if B = some b then 5 else col b) R its inn L q TR Bi vi Bn vn (fun b => TL b ∨ B = some b) vl := by
 have hne : ∀ {b j}, col b = j → j ≠ 0 → (if B = some b then 5 else col b) = j := fun {b j} hj h0 => by
  by_cases e : B = some b
  ·exact absurd ((hB b e).1 ▸ hj) (fun e => h0 e.symm)
  ·rw [if_neg e]; exact hj
 obtain ⟨Ba, es, h1, h2, h3, h4, h5, h6, h7⟩ := h.ls
 refine ⟨h.b, h.rf, h.it, h.inn, ⟨Ba, es, h1, h2, h3, h4, fun i e g he hg => ⟨(h5 i e g he hg).1, .inl (h5 i e g he hg).2⟩, fun g hg => .inl (h6 g hg), fun b hb => ?_⟩, hne h.cx (by decide), fun b hb => hne (h.cr b hb) (by decide), fun b hb => hne (h.ci b hb) (by decide), fun b hb => hne (h.cn b hb) (by decide), fun b hb => ?_, fun b hb => ?_⟩
 ·rcases hb with hb | hb
  ·exact h7 b hb
  ·exact (hB b hb).2
 ·rcases hb with hb | hb
  ·exact hne (h.cl b hb) (by decide)
  ·exact if_pos hb
 ·by_cases e : B = some b
  ·exact (hB b e).2
  ·rw [if_neg e] at hb; exact h.lt b hb
theorem rg_split_none {i : Int} (hG : RgP H x col R its inn L q TR Bi vi Bn vn TL vl) (hi : R.hasB i = false) (fin : K (.int .i64 31) H) :
  CallsH Try.prog 55 #[.pointer (some ⟨x, 0, none⟩), .int .i64 i] H K := by
 refine call55 (by simp) ?_
 simp only [Try.f55, Option.getD_some]
 repeat' (first|(with_reducible first|refine jA ?_|(refine hK _ _ ?_;clear hK K)|refine jJ fun K hK=>?_|refine jK ?_|refine jL ?_|refine jM ?_|refine jN ?_|refine jO ?_|refine jP ?_|refine jQ ?_|(refine jB ?_;clear hK K)|(refine jC ?_;clear hK K)|refine jD ?_|refine jE ?_|refine jG ?_|refine jH ?_|refine jI ?_)|((with_reducible refine jR ?hq ?_);case hq=>rfl)|((first|(with_reducible first|refine jS fun K hK=>?_|refine jT ?_|refine jU ?_)|((with_reducible refine jV ?hy fun K hK=>?_);case hy=>rfl));simp only [go_sem, Nat.reduceEqDiff, Nat.reduceAdd, Nat.reduceMul, Nat.reduceLeDiff, Nat.reduceLT, Int.reduceLT, Int.reduceLE, Int.reduceEq, Int.reduceNeg, Int.reduceToNat, Nat.reducePow, reduceIte, reduceCtorEq])|((with_reducible first|refine jW ?hy ?_|refine jY ?hy ?_);case hy=>rfl)|((with_reducible first|refine jX ?hy ?_|refine jZ ?hy ?_);case hy=>rfl)|((with_reducible refine jF ?hy ?_);case hy=>decide))
 refine rg_rank_none hG hi ?_
 repeat' (first|(with_reducible first|refine jA ?_|(refine hK _ _ ?_;clear hK K)|refine jJ fun K hK=>?_|refine jK ?_|refine jL ?_|refine jM ?_|refine jN ?_|refine jO ?_|refine jP ?_|refine jQ ?_|(refine jB ?_;clear hK K)|(refine jC ?_;clear hK K)|refine jD ?_|refine jE ?_|refine jG ?_|refine jH ?_|refine jI ?_)|((with_reducible refine jR ?hq ?_);case hq=>rfl)|((first|(with_reducible first|refine jS fun K hK=>?_|refine jT ?_|refine jU ?_)|((with_reducible refine jV ?hy fun K hK=>?_);case hy=>rfl));simp only [go_sem, Nat.reduceEqDiff, Nat.reduceAdd, Nat.reduceMul, Nat.reduceLeDiff, Nat.reduceLT, Int.reduceLT, Int.reduceLE, Int.reduceEq, Int.reduceNeg, Int.reduceToNat, Nat.reducePow, reduceIte, reduceCtorEq])|((with_reducible first|refine jW ?hy ?_|refine jY ?hy ?_);case hy=>rfl)|((with_reducible first|refine jX ?hy ?_|refine jZ ?hy ?_);case hy=>rfl)|((with_reducible refine jF ?hy ?_);case hy=>decide))
 exact fin
theorem rg_split_first {h n : Nat} {xs : List Int} (hG : RgP H x col R its inn L q TR Bi vi Bn vn TL vl) (hi : R.hasB (h : Nat) = true) (h1 : inn[h]? = some (n : Int)) (h2 : L[n]? = some xs) (hx : (h : Int) ∈ xs) (hxl : xs.length ≤ 1099511627776) (h0 : xs.idxOf (h : Int) = 0)
  (fin : K (.int .i64 0) H) :
  CallsH Try.prog 55 #[.pointer (some ⟨x, 0, none⟩), .int .i64 (h : Nat)] H K := by
 refine call55 (by simp) ?_
 simp only [Try.f55, Option.getD_some]
 repeat' (first|(with_reducible first|refine jA ?_|(refine hK _ _ ?_;clear hK K)|refine jJ fun K hK=>?_|refine jK ?_|refine jL ?_|refine jM ?_|refine jN ?_|refine jO ?_|refine jP ?_|refine jQ ?_|(refine jB ?_;clear hK K)|(refine jC ?_;clear hK K)|refine jD ?_|refine jE ?_|refine jG ?_|refine jH ?_|refine jI ?_)|((with_reducible refine jR ?hq ?_);case hq=>rfl)|((first|(with_reducible first|refine jS fun K hK=>?_|refine jT ?_|refine jU ?_)|((with_reducible refine jV ?hy fun K hK=>?_);case hy=>rfl));simp only [go_sem, Nat.reduceEqDiff, Nat.reduceAdd, Nat.reduceMul, Nat.reduceLeDiff, Nat.reduceLT, Int.reduceLT, Int.reduceLE, Int.reduceEq, Int.reduceNeg, Int.reduceToNat, Nat.reducePow, reduceIte, reduceCtorEq])|((with_reducible first|refine jW ?hy ?_|refine jY ?hy ?_);case hy=>rfl)|((with_reducible first|refine jX ?hy ?_|refine jZ ?hy ?_);case hy=>rfl)|((with_reducible refine jF ?hy ?_);case hy=>decide))
 refine rg_rank hG hi h1 h2 hx hxl ?_
 rw [h0]
 repeat' (first|(with_reducible first|refine jA ?_|(refine hK _ _ ?_;clear hK K)|refine jJ fun K hK=>?_|refine jK ?_|refine jL ?_|refine jM ?_|refine jN ?_|refine jO ?_|refine jP ?_|refine jQ ?_|(refine jB ?_;clear hK K)|(refine jC ?_;clear hK K)|refine jD ?_|refine jE ?_|refine jG ?_|refine jH ?_|refine jI ?_)|((with_reducible refine jR ?hq ?_);case hq=>rfl)|((first|(with_reducible first|refine jS fun K hK=>?_|refine jT ?_|refine jU ?_)|((with_reducible refine jV ?hy fun K hK=>?_);case hy=>rfl));simp only [go_sem, Nat.reduceEqDiff, Nat.reduceAdd, Nat.reduceMul, Nat.reduceLeDiff, Nat.reduceLT, Int.reduceLT, Int.reduceLE, Int.reduceEq, Int.reduceNeg, Int.reduceToNat, Nat.reducePow, reduceIte, reduceCtorEq])|((with_reducible first|refine jW ?hy ?_|refine jY ?hy ?_);case hy=>rfl)|((with_reducible first|refine jX ?hy ?_|refine jZ ?hy ?_);case hy=>rfl)|((with_reducible refine jF ?hy ?_);case hy=>decide))
 exact fin
theorem splitLoop {e : Env} {Q : HX → Env → Heap → Prop} {B1 : Option Nat} {v1 : Value} {ys : List Nat} (hG : RgP H x col R its inn L q TR Bi vi Bn vn TL vl) (hv : IR H B1 v1 (ys.map Int.ofNat)) (hB : ∀ b, B1 = some b → col b = 0) (hyl : ys.length ≤ 1099511627776) (hyi : ∀ h ∈ ys, h < inn.length)
  (e0 : e 0 = .pointer (some ⟨x, 0, none⟩)) (e5 : e 5 = .int .i64 (ys.length : Nat)) (e8 : e 8 = v1) (e10 : e 10 = .int .i64 0)
  (fin : ∀ e' H' inn', e' 0 = .pointer (some ⟨x, 0, none⟩) → e' 8 = v1 → RgP H' x col R its inn' L q TR Bi vi Bn vn TL vl → Nx col col H H' → IR H' B1 v1 (ys.map Int.ofNat) → inn'.length = inn.length →
   (∀ k : Nat, inn'[k]? = if k ∈ ys then some (L.length : Int) else inn[k]?) → Q .normal e' H') :
  codeX Try.prog [9, 13] (loopAt Try.f55.body 0) (blockQ 0 Q) e H := by
 refine x_loop (fun m e' H' => ∃ (i : Nat) (inn' : List Int), e' 10 = .int .i64 (i : Nat) ∧ i ≤ ys.length ∧ RgP H' x col R its inn' L q TR Bi vi Bn vn TL vl ∧ Nx col col H H' ∧ IR H' B1 v1 (ys.map Int.ofNat) ∧ inn'.length = inn.length ∧
  (∀ k : Nat, inn'[k]? = if k ∈ ys.take i then some (L.length : Int) else inn[k]?) ∧ m = ys.length - i) ys.length ⟨0, inn, e10, Nat.zero_le _, hG, Nx.refl _ _, hv, rfl, (fun k => by simp), rfl⟩ ?_
 rintro m e1 H1 ⟨i, inn1, i10, hil, hG1, n1, hv1, hl1, hk1, rfl⟩ hoff
 have i0 := (hoff 0 rfl).trans e0
 have i5 := (hoff 5 rfl).trans e5
 have i8 := (hoff 8 rfl).trans e8
 clear hoff e0 e5 e8 e10
 have c2 := hG1.b.cellOf (i := 2) rfl
 have c3 := hG1.b.cellOf (i := 3) rfl
 obtain ⟨al, cl, rfl⟩ := hG1.ls.slice
 have hml : (ys.map Int.ofNat).length = ys.length := by simp
 by_cases hlt : i < ys.length
 ·obtain ⟨h, hh⟩ : ∃ h, ys[i]? = some h := ⟨_, List.getElem?_eq_getElem hlt⟩
  have hmem := List.mem_of_getElem? hh
  have hhl := hyi h hmem
  obtain ⟨g2, c2', rfl, hv2, d2⟩ := OR.at (C := Value.int .i64) (show OR (Value.int .i64) H1 B1 v1 _ from hv1) (i := i) (x := (h : Int)) (by rw [List.getElem?_map, hh]; rfl)
  subst hv2
  obtain ⟨y0, hy0⟩ : ∃ y0, inn1[h]? = some y0 := ⟨_, List.getElem?_eq_getElem (by omega)⟩
  obtain ⟨gn, cn, rfl, rfl, -⟩ := hG1.inn.at hy0
  obtain ⟨w, hG2, n2⟩ := hG1.wrIn (z := (L.length : Nat)) (i := h) (by omega)
  have ew : IntKind.i64.wrap ((i : Int) + 1) = ((i + 1 : Nat) : Int) := by rw [wrap_i64] <;> omega
  have hh1 : (h < inn1.length) = True := by simp; omega
  have tl1 : (i < (ys.map Int.ofNat).length) = True := by simp; omega
  have hfr : Fr (· = gn) H1 (hset H1 ⟨gn, h, none⟩ (.int .i64 (L.length : Nat))) := Fr.set (S := (· = gn)) (a := ⟨gn, h, none⟩) (Fr.refl _ H1) (.inl rfl) _
  have hv2 := hv1.frame hfr (fun b hb e => by have e1 := hB b hb; rw [e, hG1.cn gn rfl] at e1; cases e1)
  have q1 : Cells [(x, 2, .slice (some ⟨gn, 0, none⟩) inn1.length cn), (x, 3, .slice al L.length cl), (g2, i, .int .i64 (h : Nat))] H1 := ⟨c2, c3, d2, trivial⟩
  repeat' (first|(with_reducible first|refine jA ?_|(refine hK _ _ ?_;clear hK K)|refine jJ fun K hK=>?_|refine jK ?_|refine jL ?_|refine jM ?_|refine jN ?_|refine jO ?_|refine jP ?_|refine jQ ?_|(refine jB ?_;clear hK K)|(refine jC ?_;clear hK K)|refine jD ?_|refine jE ?_|refine jG ?_|refine jH ?_|refine jI ?_)|((with_reducible refine jR ?hq ?_);case hq=>rfl)|((first|(with_reducible first|refine jS fun K hK=>?_|refine jT ?_|refine jU ?_)|((with_reducible refine jV ?hy fun K hK=>?_);case hy=>rfl));simp only [go_sem, Nat.reduceEqDiff, Nat.reduceAdd, Nat.reduceMul, Nat.reduceLeDiff, Nat.reduceLT, Int.reduceLT, Int.reduceLE, Int.reduceEq, Int.reduceNeg, Int.reduceToNat, Nat.reducePow, reduceIte, reduceCtorEq, i0, i5, i8, i10, c2, c3, d2, hlt, tl1, hh1, w, ew])|((with_reducible first|refine jW ?hy ?_|refine jY ?hy ?_);case hy=>rfl)|((with_reducible first|refine jX ?hy ?_|refine jZ ?hy ?_);case hy=>rfl)|((with_reducible refine jF ?hy ?_);case hy=>decide))
  refine loop_normal (m' := ys.length - (i + 1)) (by omega) ⟨i + 1, _, rfl, hlt, hG2, n1.trans n2, hv2, by simpa using hl1, fun k => ?_, rfl⟩
  rw [List.getElem?_set, List.take_add_one, hh]
  by_cases hkh : h = k
  ·subst hkh
   rw [if_pos rfl, if_pos (by omega), if_pos (by simp)]
  ·rw [if_neg hkh, hk1]
   have : (k ∈ ys.take i ++ (some h).toList) ↔ k ∈ ys.take i := by simp; intro e; exact absurd e.symm hkh
   simp only [this]
 ·have t1' : (i < ys.length) = False := by simp; omega
  have hie : i = ys.length := by omega
  repeat' (first|(with_reducible first|refine jA ?_|(refine hK _ _ ?_;clear hK K)|refine jJ fun K hK=>?_|refine jK ?_|refine jL ?_|refine jM ?_|refine jN ?_|refine jO ?_|refine jP ?_|refine jQ ?_|(refine jB ?_;clear hK K)|(refine jC ?_;clear hK K)|refine jD ?_|refine jE ?_|refine jG ?_|refine jH ?_|refine jI ?_)|((with_reducible refine jR ?hq ?_);case hq=>rfl)|((first|(with_reducible first|refine jS fun K hK=>?_|refine jT ?_|refine jU ?_)|((with_reducible refine jV ?hy fun K hK=>?_);case hy=>rfl));simp only [go_sem, Nat.reduceEqDiff, Nat.reduceAdd, Nat.reduceMul, Nat.reduceLeDiff, Nat.reduceLT, Int.reduceLT, Int.reduceLE, Int.reduceEq, Int.reduceNeg, Int.reduceToNat, Nat.reducePow, reduceIte, reduceCtorEq, i0, i5, i8, i10, t1'])|((with_reducible first|refine jW ?hy ?_|refine jY ?hy ?_);case hy=>rfl)|((with_reducible first|refine jX ?hy ?_|refine jZ ?hy ?_);case hy=>rfl)|((with_reducible refine jF ?hy ?_);case hy=>decide))
  refine fin _ _ _ i0 i8 hG1 n1 hv1 hl1 fun k => ?_
  rw [hk1, hie, List.take_length]
theorem rg_split {h n k : Nat} {ys : List Nat} (hG : RgP H x col R its inn L q TR Bi vi Bn vn TL vl) (hi : R.hasB (h : Nat) = true) (h1 : inn[h]? = some (n : Int)) (h2 : L[n]? = some (ys.map Int.ofNat)) (hx : h ∈ ys) (hxl : ys.length ≤ 100000) (hk : (ys.map Int.ofNat).idxOf (h : Int) = k) (h0 : k ≠ 0)
  (hyi : ∀ h ∈ ys, h < inn.length) (hLb : L.length ≤ 3000000000000)
  (fin : ∀ H' col' inn' TL' vl', RgP H' x col' R its inn' (L.set n ((ys.drop k).map Int.ofNat) ++ [(ys.take k).map Int.ofNat]) q TR Bi vi Bn vn TL' vl' → Nx col col' H H' → inn'.length = inn.length → (∀ j : Nat, inn'[j]? = if j ∈ ys.take k then some (L.length : Int) else inn[j]?) → K (.int .i64 0) H') :
  CallsH Try.prog 55 #[.pointer (some ⟨x, 0, none⟩), .int .i64 (h : Nat)] H K := by
 have hxm : (h : Int) ∈ ys.map Int.ofNat := List.mem_map.2 ⟨h, hx, rfl⟩
 have hkl : k < ys.length := by have := List.idxOf_lt_length_of_mem hxm; rw [hk] at this; simpa using this
 refine call55 (by simp) ?_
 simp only [Try.f55, Option.getD_some]
 repeat' (first|(with_reducible first|refine jA ?_|(refine hK _ _ ?_;clear hK K)|refine jJ fun K hK=>?_|refine jK ?_|refine jL ?_|refine jM ?_|refine jN ?_|refine jO ?_|refine jP ?_|refine jQ ?_|(refine jB ?_;clear hK K)|(refine jC ?_;clear hK K)|refine jD ?_|refine jE ?_|refine jG ?_|refine jH ?_|refine jI ?_)|((with_reducible refine jR ?hq ?_);case hq=>rfl)|((first|(with_reducible first|refine jS fun K hK=>?_|refine jT ?_|refine jU ?_)|((with_reducible refine jV ?hy fun K hK=>?_);case hy=>rfl));simp only [go_sem, Nat.reduceEqDiff, Nat.reduceAdd, Nat.reduceMul, Nat.reduceLeDiff, Nat.reduceLT, Int.reduceLT, Int.reduceLE, Int.reduceEq, Int.reduceNeg, Int.reduceToNat, Nat.reducePow, reduceIte, reduceCtorEq])|((with_reducible first|refine jW ?hy ?_|refine jY ?hy ?_);case hy=>rfl)|((with_reducible first|refine jX ?hy ?_|refine jZ ?hy ?_);case hy=>rfl)|((with_reducible refine jF ?hy ?_);case hy=>decide))
 refine rg_rank hG hi h1 h2 hxm (by simp; omega) ?_
 rw [hk]
 have t0 : ((k : Int) == 0) = false := by simp; omega
 repeat' (first|(with_reducible first|refine jA ?_|(refine hK _ _ ?_;clear hK K)|refine jJ fun K hK=>?_|refine jK ?_|refine jL ?_|refine jM ?_|refine jN ?_|refine jO ?_|refine jP ?_|refine jQ ?_|(refine jB ?_;clear hK K)|(refine jC ?_;clear hK K)|refine jD ?_|refine jE ?_|refine jG ?_|refine jH ?_|refine jI ?_)|((with_reducible refine jR ?hq ?_);case hq=>rfl)|((first|(with_reducible first|refine jS fun K hK=>?_|refine jT ?_|refine jU ?_)|((with_reducible refine jV ?hy fun K hK=>?_);case hy=>rfl));simp only [go_sem, Nat.reduceEqDiff, Nat.reduceAdd, Nat.reduceMul, Nat.reduceLeDiff, Nat.reduceLT, Int.reduceLT, Int.reduceLE, Int.reduceEq, Int.reduceNeg, Int.reduceToNat, Nat.reducePow, reduceIte, reduceCtorEq, t0])|((with_reducible first|refine jW ?hy ?_|refine jY ?hy ?_);case hy=>rfl)|((with_reducible first|refine jX ?hy ?_|refine jZ ?hy ?_);case hy=>rfl)|((with_reducible refine jF ?hy ?_);case hy=>decide))
 refine rg_of hG h1 h2 fun B v hv hB => ?_
 have hne : ys.map Int.ofNat ≠ [] := fun e => by rw [e] at hxm; cases hxm
 obtain ⟨g, c, rfl, rfl, hc⟩ := hv.open hne
 have hv0 : IR H (some g) _ _ := hv
 have t1 : (k ≤ c) = True := by simp at hc; simp; omega
 have t2 : (k ≤ (ys.map Int.ofNat).length) = True := by simp; omega
 have t2' : (k ≤ ys.length) = True := by simp; omega
 have hmn : ((ys.map Int.ofNat).length ≤ c) = True := by simp; simpa using hc
 have hmn' : (ys.length ≤ c) = True := by simp; simpa using hc
 have z0 : (c = 0) = False := by simp at hc; simp; omega
 have z1 : (c = k) = False := by simp at hc; simp; omega
 have hml : (ys.map Int.ofNat).length = ys.length := by simp
 repeat' (first|(with_reducible first|refine jA ?_|(refine hK _ _ ?_;clear hK K)|refine jJ fun K hK=>?_|refine jK ?_|refine jL ?_|refine jM ?_|refine jN ?_|refine jO ?_|refine jP ?_|refine jQ ?_|(refine jB ?_;clear hK K)|(refine jC ?_;clear hK K)|refine jD ?_|refine jE ?_|refine jG ?_|refine jH ?_|refine jI ?_)|((with_reducible refine jR ?hq ?_);case hq=>rfl)|((first|(with_reducible first|refine jS fun K hK=>?_|refine jT ?_|refine jU ?_)|((with_reducible refine jV ?hy fun K hK=>?_);case hy=>rfl));simp only [go_sem, Nat.reduceEqDiff, Nat.reduceAdd, Nat.reduceMul, Nat.reduceLeDiff, Nat.reduceLT, Int.reduceLT, Int.reduceLE, Int.reduceEq, Int.reduceNeg, Int.reduceToNat, Nat.reducePow, reduceIte, reduceCtorEq, t1, t2, t2', z0, Nat.sub_zero])|((with_reducible first|refine jW ?hy ?_|refine jY ?hy ?_);case hy=>rfl)|((with_reducible first|refine jX ?hy ?_|refine jZ ?hy ?_);case hy=>rfl)|((with_reducible refine jF ?hy ?_);case hy=>decide))
 refine append_irs (xs := []) (ys := (ys.take k).map Int.ofNat) elems23 tl3 (IR.nil H) (by have := hv0.readL (o := 0) (m := k) (by simp; omega); rw [this, List.drop_zero, ← List.map_take]) (by simp; omega) (by decide) (by simp; omega) rfl ?_
 intro v1 H1 B1 hv1 hf1 hB1
 rw [List.nil_append] at hv1
 have hf1' : Fr (fun _ => False) H H1 := hf1.mono fun b _ h => by cases h
 have hG1 := hG.grow hf1' (fun _ _ h => h)
 have hB1' : ∀ b, B1 = some b → H.size ≤ b := fun b hb => by
  rcases hB1 with rfl | ⟨g', rfl, hg'⟩
  ·cases hb
  ·rw [← Option.some.inj hb]; exact hg'
 have hv0' := hv0.frame hf1' (fun _ _ h => h)
 have hcB1 : ∀ b, B1 = some b → col b = 0 := fun b hb => Decidable.byContradiction fun hc => by
  have := hG.lt b hc
  have := hB1' b hb
  omega
 repeat' (first|(with_reducible first|refine jA ?_|(refine hK _ _ ?_;clear hK K)|refine jJ fun K hK=>?_|refine jK ?_|refine jL ?_|refine jM ?_|refine jN ?_|refine jO ?_|refine jP ?_|refine jQ ?_|(refine jB ?_;clear hK K)|(refine jC ?_;clear hK K)|refine jD ?_|refine jE ?_|refine jG ?_|refine jH ?_|refine jI ?_)|((with_reducible refine jR ?hq ?_);case hq=>rfl)|((first|(with_reducible first|refine jS fun K hK=>?_|refine jT ?_|refine jU ?_)|((with_reducible refine jV ?hy fun K hK=>?_);case hy=>rfl));simp only [go_sem, Nat.reduceEqDiff, Nat.reduceAdd, Nat.reduceMul, Nat.reduceLeDiff, Nat.reduceLT, Int.reduceLT, Int.reduceLE, Int.reduceEq, Int.reduceNeg, Int.reduceToNat, Nat.reducePow, reduceIte, reduceCtorEq, t1, t2, t2', hmn, hmn', z1])|((with_reducible first|refine jW ?hy ?_|refine jY ?hy ?_);case hy=>rfl)|((with_reducible first|refine jX ?hy ?_|refine jZ ?hy ?_);case hy=>rfl)|((with_reducible refine jF ?hy ?_);case hy=>decide))
 refine append_irs (xs := []) (ys := (ys.drop k).map Int.ofNat) elems23 tl3 (IR.nil H1) (by have := hv0'.readL (o := k) (m := (ys.map Int.ofNat).length - k) (by simp; omega); rw [this, ← List.map_drop, List.take_of_length_le (by simp)]) (by simp) (by decide) (by simp; omega) rfl ?_
 intro v2 H2 B2 hv2 hf2 hB2
 rw [List.nil_append] at hv2
 have hf2' : Fr (fun _ => False) H1 H2 := hf2.mono fun b _ h => by cases h
 obtain ⟨a1, k1, rfl⟩ := hv1.slice
 obtain ⟨a2, k2, rfl⟩ := hv2.slice
 obtain ⟨gl, cl, B0, v0, rfl, f1, o1, hgl, hB0, -, hput⟩ := hG1.ls.at h2
 have lna := (List.getElem?_eq_some_iff.1 h2).1
 obtain ⟨gn, cn, rfl, rfl, d1⟩ := hG1.inn.at h1
 have l1 := (List.getElem?_eq_some_iff.1 h1).1
 have hv1' := hv1.frame hf2' (fun _ _ h => h)
 have hB2' : ∀ b, B2 = some b → H1.size ≤ b := fun b hb => by
  rcases hB2 with rfl | ⟨g', rfl, hg'⟩
  ·cases hb
  ·rw [← Option.some.inj hb]; exact hg'
 have q1 : Cells [(x, 3, .slice (some ⟨gl, 0, none⟩) L.length cl), (x, 2, .slice (some ⟨gn, 0, none⟩) inn.length cn), (gn, h, .int .i64 (n : Nat))] H2 :=
  Cells.frame hf2' ⟨hG1.b.cellOf (i := 3) rfl, hG1.b.cellOf (i := 2) rfl, d1, trivial⟩ (fun _ _ h => h)
 obtain ⟨w3, hL3⟩ := hput H2 B2 (.slice a2 ((ys.drop k).map Int.ofNat).length k2) _ hv2 (hf2'.mono fun _ _ h => h.elim) (by
  obtain ⟨g', _, e, _⟩ := OR.open (show OR (Value.int .i64) H2 B2 _ _ from hv2) (by intro e; have := congrArg List.length e; simp at this; omega)
  exact .inr ⟨g', e, hB2' _ e⟩)
 have hf4 : Fr TL H1 (hset H2 ⟨gl, n, none⟩ (.slice a2 ((ys.drop k).map Int.ofNat).length k2)) := Fr.set (S := TL) (a := ⟨gl, n, none⟩) (hf2'.mono fun b _ h => h.elim) (.inl hgl) _
 obtain ⟨hG4, n4⟩ := hG1.chL hf4 hL3 (fun b hb => by
  rcases hb with hb | hb
  ·exact .inl hb
  ·exact .inr (hB2' b hb))
 repeat' (first|(with_reducible first|refine jA ?_|(refine hK _ _ ?_;clear hK K)|refine jJ fun K hK=>?_|refine jK ?_|refine jL ?_|refine jM ?_|refine jN ?_|refine jO ?_|refine jP ?_|refine jQ ?_|(refine jB ?_;clear hK K)|(refine jC ?_;clear hK K)|refine jD ?_|refine jE ?_|refine jG ?_|refine jH ?_|refine jI ?_)|((with_reducible refine jR ?hq ?_);case hq=>rfl)|((first|(with_reducible first|refine jS fun K hK=>?_|refine jT ?_|refine jU ?_)|((with_reducible refine jV ?hy fun K hK=>?_);case hy=>rfl));simp only [go_sem, Nat.reduceEqDiff, Nat.reduceAdd, Nat.reduceMul, Nat.reduceLeDiff, Nat.reduceLT, Int.reduceLT, Int.reduceLE, Int.reduceEq, Int.reduceNeg, Int.reduceToNat, Nat.reducePow, reduceIte, reduceCtorEq, q1.1, q1.2.1, q1.2.2.1, lna, l1, w3])|((with_reducible first|refine jW ?hy ?_|refine jY ?hy ?_);case hy=>rfl)|((with_reducible first|refine jX ?hy ?_|refine jZ ?hy ?_);case hy=>rfl)|((with_reducible refine jF ?hy ?_);case hy=>decide))
 have hcgl := hG1.cl gl hgl
 have hv3 := hv1'.frame (Fr.set (S := (· = gl)) (a := ⟨gl, n, none⟩) (Fr.refl _ H2) (.inl rfl) (.slice a2 ((ys.drop k).map Int.ofNat).length k2)) (fun b hb e => by have e1 := hcB1 b hb; rw [e, hcgl] at e1; cases e1)
 have hcB3 : ∀ b, B1 = some b → extC col H1.size (hset H2 ⟨gl, n, none⟩ (.slice a2 ((ys.drop k).map Int.ofNat).length k2)).size 5 b = 0 := fun b hb => by
  rw [extC_old (hv1.lt hb)]; exact hcB1 b hb
 have hT3 : ∀ b, B1 = some b → ¬ (TL b ∨ B2 = some b) := fun b hb => by
  rintro (e | e)
  ·have e1 := hG1.cl b e; rw [hcB1 b hb] at e1; cases e1
  ·have := hB2' b e; have := hv1.lt hb; omega
 have n04 : Nx col _ H _ := (Nx.same hf1' fun _ h => h.elim).trans n4
 have htk : (ys.take k).length = k := by rw [List.length_take]; omega
 clear n4 hput hL3 q1
 generalize extC col H1.size (hset H2 ⟨gl, n, none⟩ (.slice a2 ((ys.drop k).map Int.ofNat).length k2)).size 5 = col4 at hG4 n04 hcB3
 generalize hset H2 ⟨gl, n, none⟩ (.slice a2 ((ys.drop k).map Int.ofNat).length k2) = H4 at hG4 n04 hv3 ⊢
 refine splitLoop hG4 hv3 hcB3 (by rw [htk]; omega) (fun j hj => hyi j (List.mem_of_mem_take hj)) rfl (by rw [htk]; rfl) rfl rfl fun e1 H5 inn5 i0 i8 hG5 n5 hv5 hl5 hk5 => ?_
 rw [List.length_set] at hk5
 obtain ⟨al, cl5, hvl⟩ := hG5.ls.slice
 simp only [Value.slice.injEq] at hvl
 obtain ⟨rfl, _, rfl⟩ := hvl
 have c5 := hG5.b.cellOf (i := 3) rfl
 repeat' (first|(with_reducible first|refine jA ?_|(refine hK _ _ ?_;clear hK K)|refine jJ fun K hK=>?_|refine jK ?_|refine jL ?_|refine jM ?_|refine jN ?_|refine jO ?_|refine jP ?_|refine jQ ?_|(refine jB ?_;clear hK K)|(refine jC ?_;clear hK K)|refine jD ?_|refine jE ?_|refine jG ?_|refine jH ?_|refine jI ?_)|((with_reducible refine jR ?hq ?_);case hq=>rfl)|((first|(with_reducible first|refine jS fun K hK=>?_|refine jT ?_|refine jU ?_)|((with_reducible refine jV ?hy fun K hK=>?_);case hy=>rfl));simp only [go_sem, Nat.reduceEqDiff, Nat.reduceAdd, Nat.reduceMul, Nat.reduceLeDiff, Nat.reduceLT, Int.reduceLT, Int.reduceLE, Int.reduceEq, Int.reduceNeg, Int.reduceToNat, Nat.reducePow, reduceIte, reduceCtorEq, i0, i8, c5])|((with_reducible first|refine jW ?hy ?_|refine jY ?hy ?_);case hy=>rfl)|((with_reducible first|refine jX ?hy ?_|refine jZ ?hy ?_);case hy=>rfl)|((with_reducible refine jF ?hy ?_);case hy=>decide))
 have g1 : Fr (fun _ => False) H5 (H5.push (.cells #[.slice a1 ((ys.take k).map Int.ofNat).length k1] 23)) := (Fr.refl _ _).push _
 refine append_ll elems64 tl23 hG5.ls hv5 hT3 rfl (by decide) (by simp; omega) rfl ?_
 intro v6 H6 TL6 hl6 hf6 hT6
 have hA5 := hG5.adopt (B := B1) fun b hb => ⟨hcB3 b hb, hv5.lt hb⟩
 have n05 : Nx col (fun b => if B1 = some b then 5 else col4 b) H H5 := by
  have n := n04.trans n5
  refine ⟨n.fr, fun b hb => ?_⟩
  by_cases e : B1 = some b
  ·exact .inr (hB1' b e)
  ·simp only [if_neg e] at hb
   exact n.own b hb
 obtain ⟨w6, hG6, n6⟩ := hA5.setL (hf6.mono fun b _ h => .inl h) hl6 (fun b hb => by
  rcases hT6 b hb with e | e | e
  ·exact .inl (.inl e)
  ·exact .inl (.inr e)
  ·exact .inr e)
 obtain ⟨a6, k6, rfl⟩ := hl6.slice
 repeat' (first|(with_reducible first|refine jA ?_|(refine hK _ _ ?_;clear hK K)|refine jJ fun K hK=>?_|refine jK ?_|refine jL ?_|refine jM ?_|refine jN ?_|refine jO ?_|refine jP ?_|refine jQ ?_|(refine jB ?_;clear hK K)|(refine jC ?_;clear hK K)|refine jD ?_|refine jE ?_|refine jG ?_|refine jH ?_|refine jI ?_)|((with_reducible refine jR ?hq ?_);case hq=>rfl)|((first|(with_reducible first|refine jS fun K hK=>?_|refine jT ?_|refine jU ?_)|((with_reducible refine jV ?hy fun K hK=>?_);case hy=>rfl));simp only [go_sem, Nat.reduceEqDiff, Nat.reduceAdd, Nat.reduceMul, Nat.reduceLeDiff, Nat.reduceLT, Int.reduceLT, Int.reduceLE, Int.reduceEq, Int.reduceNeg, Int.reduceToNat, Nat.reducePow, reduceIte, reduceCtorEq, w6])|((with_reducible first|refine jW ?hy ?_|refine jY ?hy ?_);case hy=>rfl)|((with_reducible first|refine jX ?hy ?_|refine jZ ?hy ?_);case hy=>rfl)|((with_reducible refine jF ?hy ?_);case hy=>decide))
 exact fin _ _ _ _ _ hG6 (n05.trans n6) hl5 hk5
end
end Go.Proofs.Ytndkbhlfbeiniaa
namespace Go.Sp
open Go Go.Hp
set_option linter.unusedVariables false
def Sq.hasB (S : Sq) (i : Int) : Bool := decide (0 ≤ i) && S.rows.flatten.contains i.toNat
def Sq.rowOf (S : Sq) (k : Nat) : List Nat := (S.rows.find? fun xs => xs.contains k).getD []
theorem Sq.hasB_iff {S : Sq} {i : Int} : S.hasB i = true ↔ S.Has i := by
 unfold Sq.hasB Sq.Has
 rw [Bool.and_eq_true, decide_eq_true_iff, List.contains_iff_mem]
 constructor
 ·rintro ⟨h1, h2⟩
  exact ⟨i.toNat, by omega, h2⟩
 ·rintro ⟨k, rfl, h⟩
  exact ⟨by omega, by simpa using h⟩
theorem Sq.rowOf_spec {S : Sq} {k : Nat} (h : k ∈ S.rows.flatten) : S.rowOf k ∈ S.rows ∧ k ∈ S.rowOf k := by
 obtain ⟨xs, hx, hk⟩ := List.mem_flatten.1 h
 unfold Sq.rowOf
 cases hf : S.rows.find? fun xs => xs.contains k with
 | none => exact absurd (by simpa using hk) (List.find?_eq_none.1 hf xs hx)
 | some ys =>
  have h1 := List.mem_of_find?_eq_some hf
  have h2 := List.find?_some hf
  exact ⟨h1, by simpa using h2⟩
def Sq.getQ (S : Sq) (i : Int) : Item × Int := if S.hasB i then (S.it i.toNat, 0) else (Item.zero, 31)
def Sq.sameQ (S : Sq) (a b : Int) : Bool × Int := if S.hasB a && S.hasB b then (decide (S.rowOf b.toNat = S.rowOf a.toNat), 0) else (false, 31)
def Sq.rankQ (S : Sq) (i : Int) : Int × Int := if S.hasB i then (((S.rowOf i.toNat).idxOf i.toNat : Nat), 0) else (0, 31)
def Sq.atQ (S : Sq) (i n : Int) : Int × Int := if S.hasB i then (if 0 ≤ n then match (S.rowOf i.toNat)[n.toNat]? with | some j => ((j : Int), 0) | none => (0, 34) else (0, 34)) else (0, 31)
def Sq.sumQ (S : Sq) (i : Int) : Agg × Int := if S.hasB i then (aggOf S.it (S.rowOf i.toNat), 0) else (Agg.zero, 31)
def Sq.flaggedQ (S : Sq) (i n : Int) : Int × Int := if S.hasB i then (if 0 ≤ n ∧ n < 256 then match firstF S.it n.toNat (S.rowOf i.toNat) with | some j => ((j : Int), 0) | none => (0, 35) else (0, 1)) else (0, 31)
def Sq.allQ (S : Sq) (i : Int) : List Nat × Int := if S.hasB i then (S.rowOf i.toNat, 0) else ([], 31)
end Go.Sp
namespace Go.Proofs.Ytndkbhlfbeiniaa
open Go Go.Hp Go.Sp
set_option linter.all false
set_option maxRecDepth 100000
set_option maxHeartbeats 1600000

def Sq.makeQ (S : Sq) (x : Sp.Item) : (Int × Int) × Sq := if mayB x = false then ((0, 1), S) else if S.rows.flatten.length = S.room then ((0, 30), S) else (((S.next : Nat), 0), S.made x)
def Sq.freeQ (S : Sq) (i : Int) : Int × Sq := if S.hasB i then (if S.rowOf i.toNat = [i.toNat] then (0, S.freed i.toNat (S.rows.erase [i.toNat])) else (32, S)) else (31, S)
def Sq.setQ (S : Sq) (i : Int) (x : Sp.Item) : Int × Sq := if S.hasB i then (if mayB x = false then (1, S) else (0, { S with it := fun j => if j = i.toNat then x else S.it j })) else (31, S)
def Sq.joinQ (S : Sq) (a b : Int) : Int × Sq := if S.hasB a && S.hasB b then (if S.rowOf a.toNat = S.rowOf b.toNat then (33, S) else (0, { S with rows := (S.rowOf a.toNat ++ S.rowOf b.toNat) :: (S.rows.erase (S.rowOf a.toNat)).erase (S.rowOf b.toNat) })) else (31, S)
def Sq.splitQ (S : Sq) (i : Int) : Int × Sq := if S.hasB i then (if (S.rowOf i.toNat).idxOf i.toNat = 0 then (0, S) else (0, { S with rows := (S.rowOf i.toNat).take ((S.rowOf i.toNat).idxOf i.toNat) :: (S.rowOf i.toNat).drop ((S.rowOf i.toNat).idxOf i.toNat) :: S.rows.erase (S.rowOf i.toNat) })) else (31, S)
section
variable {H H' : Heap} {f : Nat} {T : Nat → Prop} {S : Sq} {K : Value → Heap → Prop} {k j : Nat}
theorem idx_split {xs : List Nat} {k : Nat} (h : k ∈ xs) : xs = xs.take (xs.idxOf k) ++ k :: xs.drop (xs.idxOf k + 1) ∧ (xs.take (xs.idxOf k)).length = xs.idxOf k ∧ xs.drop (xs.idxOf k) = k :: xs.drop (xs.idxOf k + 1) := by
 have hlt := List.idxOf_lt_length_of_mem h
 have he : xs[xs.idxOf k] = k := List.getElem_idxOf hlt
 have hd : xs.drop (xs.idxOf k) = k :: xs.drop (xs.idxOf k + 1) := by rw [List.drop_eq_getElem_cons hlt, he]
 exact ⟨by rw [← hd, List.take_append_drop], by rw [List.length_take]; omega, hd⟩
theorem no_has {i : Int} (h : S.hasB i = false) : ¬ S.Has i := fun hh => by rw [Sq.hasB_iff.2 hh] at h; cases h
theorem has_nat {i : Int} (h : S.hasB i = true) : ∃ k : Nat, i = (k : Int) ∧ k ∈ S.rows.flatten ∧ i.toNat = k := by
 obtain ⟨k, hk, h2⟩ := Sq.hasB_iff.1 h
 exact ⟨k, hk, h2, by omega⟩
theorem q_get {i : Int} (hM : FoM H f T S) (fin : ∀ H', FoM H' f T S → Fr T H H' → K (.tuple #[(S.getQ i).1.val, .int .i64 (S.getQ i).2]) H') : CallsH Try.prog 16 #[.pointer (some ⟨f, 0, none⟩), .int .i64 i] H K := by
 unfold Sq.getQ at fin
 cases h : S.hasB i with
 | false => rw [h] at fin; exact m_get_none hM (no_has h) fin
 | true =>
  obtain ⟨k, rfl, hk, e⟩ := has_nat h
  rw [h] at fin
  simp only [if_true, e] at fin
  exact m_get hM hk fin
theorem q_same {a b : Int} (hM : FoM H f T S) (fin : ∀ H', FoM H' f T S → Fr T H H' → K (.tuple #[.bool (S.sameQ a b).1, .int .i64 (S.sameQ a b).2]) H') : CallsH Try.prog 27 #[.pointer (some ⟨f, 0, none⟩), .int .i64 a, .int .i64 b] H K := by
 unfold Sq.sameQ at fin
 cases h : S.hasB a with
 | false => rw [h] at fin; exact m_same_none hM (.inl (no_has h)) (fin H hM (.refl _ _))
 | true =>
  cases h' : S.hasB b with
  | false => rw [h, h'] at fin; exact m_same_none hM (.inr (no_has h')) (fin H hM (.refl _ _))
  | true =>
   obtain ⟨k, rfl, hk, e⟩ := has_nat h
   obtain ⟨j, rfl, hj, e'⟩ := has_nat h'
   rw [h, h'] at fin
   simp only [Bool.and_self, if_true, e, e'] at fin
   obtain ⟨h1, h2⟩ := Sq.rowOf_spec hk
   obtain ⟨h3, h4⟩ := Sq.rowOf_spec hj
   refine m_same hM h1 h2 h3 h4 fun H' b hF hf hb => ?_
   have : b = decide (S.rowOf j = S.rowOf k) := by
    cases b with
    | true => rw [hb.1 rfl]; simp
    | false =>
     have : ¬ S.rowOf j = S.rowOf k := fun h => by have := hb.2 h; cases this
     simp [this]
   rw [this]
   exact fin H' hF hf
theorem q_rank {i : Int} (hM : FoM H f T S) (fin : ∀ H', FoM H' f T S → Fr T H H' → K (.tuple #[.int .i64 (S.rankQ i).1, .int .i64 (S.rankQ i).2]) H') : CallsH Try.prog 18 #[.pointer (some ⟨f, 0, none⟩), .int .i64 i] H K := by
 unfold Sq.rankQ at fin
 cases h : S.hasB i with
 | false => rw [h] at fin; exact m_rank_none hM (no_has h) (fin H hM (.refl _ _))
 | true =>
  obtain ⟨k, rfl, hk, e⟩ := has_nat h
  rw [h] at fin
  simp only [if_true, e] at fin
  obtain ⟨h1, h2⟩ := Sq.rowOf_spec hk
  obtain ⟨h3, h4, _⟩ := idx_split h2
  refine m_rank hM h1 h3 fun H' hF hf => ?_
  rw [h4]
  exact fin H' hF hf
theorem q_at {i n : Int} (hM : FoM H f T S) (fin : ∀ H', FoM H' f T S → Fr T H H' → K (.tuple #[.int .i64 (S.atQ i n).1, .int .i64 (S.atQ i n).2]) H') : CallsH Try.prog 19 #[.pointer (some ⟨f, 0, none⟩), .int .i64 i, .int .i64 n] H K := by
 unfold Sq.atQ at fin
 cases h : S.hasB i with
 | false => rw [h] at fin; exact m_at_none hM (no_has h) (fin H hM (.refl _ _))
 | true =>
  obtain ⟨k, rfl, hk, e⟩ := has_nat h
  rw [h] at fin
  simp only [if_true, e] at fin
  obtain ⟨h1, h2⟩ := Sq.rowOf_spec hk
  by_cases hn : 0 ≤ n
  ·rw [if_pos hn] at fin
   obtain ⟨m, rfl⟩ := Int.eq_ofNat_of_zero_le hn
   rw [Int.toNat_natCast] at fin
   cases hj : (S.rowOf k)[m]? with
   | none =>
    rw [hj] at fin
    refine m_at_bad hM h1 h2 (.inr ?_) fin
    have := List.getElem?_eq_none_iff.1 hj
    omega
   | some j =>
    rw [hj] at fin
    exact m_at hM h1 h2 hj fin
  ·rw [if_neg hn] at fin
   exact m_at_bad hM h1 h2 (.inl (by omega)) fin
theorem q_sum {i : Int} (hM : FoM H f T S) (fin : ∀ H', FoM H' f T S → Fr T H H' → K (.tuple #[(S.sumQ i).1.val, .int .i64 (S.sumQ i).2]) H') : CallsH Try.prog 20 #[.pointer (some ⟨f, 0, none⟩), .int .i64 i] H K := by
 unfold Sq.sumQ at fin
 cases h : S.hasB i with
 | false => rw [h] at fin; exact m_sum_none hM (no_has h) fin
 | true =>
  obtain ⟨k, rfl, hk, e⟩ := has_nat h
  rw [h] at fin
  simp only [if_true, e] at fin
  obtain ⟨h1, h2⟩ := Sq.rowOf_spec hk
  exact m_sum hM h1 h2 fin
theorem q_flagged {i n : Int} (hM : FoM H f T S) (hn1 : -9223372036854775808 ≤ n) (hn2 : n ≤ 9223372036854775807) (fin : ∀ H', FoM H' f T S → Fr T H H' → K (.tuple #[.int .i64 (S.flaggedQ i n).1, .int .i64 (S.flaggedQ i n).2]) H') : CallsH Try.prog 37 #[.pointer (some ⟨f, 0, none⟩), .int .i64 i, .int .i64 n] H K := by
 unfold Sq.flaggedQ at fin
 cases h : S.hasB i with
 | false => rw [h] at fin; exact m_flagged_none hM (no_has h) (fin H hM (.refl _ _))
 | true =>
  obtain ⟨k, rfl, hk, e⟩ := has_nat h
  rw [h] at fin
  simp only [if_true, e] at fin
  obtain ⟨h1, h2⟩ := Sq.rowOf_spec hk
  by_cases hn : 0 ≤ n ∧ n < 256
  ·rw [if_pos hn] at fin
   obtain ⟨fl, rfl⟩ := Int.eq_ofNat_of_zero_le hn.1
   rw [Int.toNat_natCast] at fin
   refine m_flagged hM h1 h2 (by omega) fun H' hF hf => ?_
   have := fin H' hF hf
   cases hj : firstF S.it fl (S.rowOf k) with
   | none => rw [hj] at this; exact this
   | some j => rw [hj] at this; exact this
  ·rw [if_neg hn] at fin
   exact m_flagged_bad hM hk hn1 hn2 hn (fin H hM (.refl _ _))
theorem q_all {i : Int} (hM : FoM H f T S) (fin : ∀ H' B v, FoM H' f T S → IR H' B v ((S.allQ i).1.map Int.ofNat) → (∀ b, B = some b → H.size ≤ b) → Fr T H H' → K (.tuple #[v, .int .i64 (S.allQ i).2]) H') : CallsH Try.prog 35 #[.pointer (some ⟨f, 0, none⟩), .int .i64 i] H K := by
 unfold Sq.allQ at fin
 cases h : S.hasB i with
 | false => rw [h] at fin; exact m_all_none hM (no_has h) (fin H none _ hM (IR.nil H) (fun b h => by cases h) (.refl _ _))
 | true =>
  obtain ⟨k, rfl, hk, e⟩ := has_nat h
  rw [h] at fin
  simp only [if_true, e] at fin
  obtain ⟨h1, h2⟩ := Sq.rowOf_spec hk
  exact m_all hM h1 h2 fin
theorem q_make {x : Sp.Item} (hM : FoM H f T S) (hx : Fits x) (fin : ∀ H' T', FoM H' f T' (Sq.makeQ S x).2 → Fr T H H' → (∀ b, T' b → T b ∨ H.size ≤ b) → K (.tuple #[.int .i64 (Sq.makeQ S x).1.1, .int .i64 (Sq.makeQ S x).1.2]) H') :
  CallsH Try.prog 21 #[.pointer (some ⟨f, 0, none⟩), x.val] H K := by
 unfold Sq.makeQ at fin
 cases hm : mayB x with
 | false =>
  rw [hm] at fin
  refine make_bad hM hx (fun h => by rw [mayB_iff.2 h] at hm; cases hm) fun H' hf => fin H' T (hM.grow hf) (hf.mono fun _ _ h => h.elim) fun b hb => .inl hb
 | true =>
  rw [hm] at fin
  simp only [Bool.true_eq_false, if_false] at fin
  by_cases hr : S.rows.flatten.length = S.room
  ·rw [if_pos hr] at fin
   exact make_full hM hx (mayB_iff.1 hm) hr fun H' hf => fin H' T (hM.grow hf) (hf.mono fun _ _ h => h.elim) fun b hb => .inl hb
  ·rw [if_neg hr] at fin
   have := hM.room.1
   exact make_ok hM hx (mayB_iff.1 hm) (by omega) fun H' T' hF hf hT _ => fin H' T' hF hf hT
theorem q_free {i : Int} (hM : FoM H f T S) (fin : ∀ H', FoM H' f T (Sq.freeQ S i).2 → Fr T H H' → K (.int .i64 (Sq.freeQ S i).1) H') : CallsH Try.prog 22 #[.pointer (some ⟨f, 0, none⟩), .int .i64 i] H K := by
 unfold Sq.freeQ at fin
 cases h : S.hasB i with
 | false => rw [h] at fin; exact free_none hM (no_has h) (fin H hM (.refl _ _))
 | true =>
  obtain ⟨k, rfl, hk, e⟩ := has_nat h
  rw [h] at fin
  simp only [if_true, e] at fin
  obtain ⟨h1, h2⟩ := Sq.rowOf_spec hk
  by_cases hr : S.rowOf k = [k]
  ·rw [if_pos hr] at fin
   rw [hr] at h1
   exact free_ok hM (List.perm_cons_erase h1) fin
  ·rw [if_neg hr] at fin
   refine free_busy hM h1 h2 ?_ fin
   rcases Nat.lt_or_ge 1 (S.rowOf k).length with h | h
   ·exact h
   ·have : (S.rowOf k).length = 1 := by have := List.length_pos_of_mem h2; omega
    obtain ⟨y, hy⟩ := List.length_eq_one_iff.1 this
    rw [hy] at h2 hr
    simp at h2
    exact absurd (by rw [h2]) hr
theorem q_set {i : Int} {x : Sp.Item} (hM : FoM H f T S) (hx : Fits x) (fin : ∀ H', FoM H' f T (Sq.setQ S i x).2 → Fr T H H' → K (.int .i64 (Sq.setQ S i x).1) H') : CallsH Try.prog 15 #[.pointer (some ⟨f, 0, none⟩), .int .i64 i, x.val] H K := by
 unfold Sq.setQ at fin
 cases h : S.hasB i with
 | false => rw [h] at fin; exact m_set_none hM (no_has h) fin
 | true =>
  obtain ⟨k, rfl, hk, e⟩ := has_nat h
  rw [h] at fin
  simp only [if_true, e] at fin
  cases hm : mayB x with
  | false =>
   rw [hm] at fin
   exact m_set_bad hM hk hx (fun h => by rw [mayB_iff.2 h] at hm; cases hm) fin
  | true =>
   rw [hm] at fin
   exact m_set hM hk hx (mayB_iff.1 hm) fin
theorem q_join {a b : Int} (hM : FoM H f T S) (fin : ∀ H', FoM H' f T (Sq.joinQ S a b).2 → Fr T H H' → K (.int .i64 (Sq.joinQ S a b).1) H') : CallsH Try.prog 24 #[.pointer (some ⟨f, 0, none⟩), .int .i64 a, .int .i64 b] H K := by
 unfold Sq.joinQ at fin
 cases h : S.hasB a with
 | false => rw [h] at fin; exact m_join_none hM (.inl (no_has h)) (fin H hM (.refl _ _))
 | true =>
  cases h' : S.hasB b with
  | false => rw [h, h'] at fin; exact m_join_none hM (.inr (no_has h')) (fin H hM (.refl _ _))
  | true =>
   obtain ⟨k, rfl, hk, e⟩ := has_nat h
   obtain ⟨j, rfl, hj, e'⟩ := has_nat h'
   rw [h, h'] at fin
   simp only [Bool.and_self, if_true, e, e'] at fin
   obtain ⟨h1, h2⟩ := Sq.rowOf_spec hk
   obtain ⟨h3, h4⟩ := Sq.rowOf_spec hj
   by_cases hr : S.rowOf k = S.rowOf j
   ·rw [if_pos hr] at fin
    exact m_join_same hM h1 h2 (by rw [hr]; exact h4) fin
   ·rw [if_neg hr] at fin
    refine m_join hM ?_ h2 h4 fin
    refine (List.perm_cons_erase h1).trans (List.Perm.cons _ (List.perm_cons_erase ?_))
    exact (List.mem_erase_of_ne (fun h => hr h.symm)).2 h3
theorem q_split {i : Int} (hM : FoM H f T S) (fin : ∀ H', FoM H' f T (Sq.splitQ S i).2 → Fr T H H' → K (.int .i64 (Sq.splitQ S i).1) H') : CallsH Try.prog 23 #[.pointer (some ⟨f, 0, none⟩), .int .i64 i] H K := by
 unfold Sq.splitQ at fin
 cases h : S.hasB i with
 | false => rw [h] at fin; exact m_split_none hM (no_has h) (fin H hM (.refl _ _))
 | true =>
  obtain ⟨k, rfl, hk, e⟩ := has_nat h
  rw [h] at fin
  simp only [if_true, e] at fin
  obtain ⟨h1, h2⟩ := Sq.rowOf_spec hk
  obtain ⟨h3, h4, h5⟩ := idx_split h2
  by_cases h0 : (S.rowOf k).idxOf k = 0
  ·rw [if_pos h0] at fin
   refine m_split_first (r := (S.rowOf k).drop 1) hM ?_ fin
   rw [h0] at h5
   rw [List.drop_zero] at h5
   rw [← h5]
   exact h1
  ·rw [if_neg h0, h5] at fin
   refine m_split hM ((List.perm_cons_erase h1).trans (by rw [← h3])) (fun hh => ?_) fin
   rw [hh] at h4
   exact h0 h4.symm
end
end Go.Proofs.Ytndkbhlfbeiniaa
namespace Go.Proofs.Ytndkbhlfbeiniaa
open Go Go.Hp Go.Sp
set_option linter.all false
set_option maxRecDepth 100000
set_option maxHeartbeats 1600000
structure SqOk (S : Sq) : Prop where
 nodup : S.rows.flatten.Nodup
 may : ∀ k ∈ S.rows.flatten, May (S.it k)
 pos : ∀ k ∈ S.rows.flatten, 1 ≤ k
 lt : ∀ k ∈ S.rows.flatten, k < S.top
 room : S.rows.flatten.length ≤ S.room ∧ S.room ≤ 4096 ∧ S.rows.flatten.length + S.free.length + 1 = S.top
 free : ∀ i, i ∈ S.free ↔ 1 ≤ i ∧ i < S.top ∧ i ∉ S.rows.flatten
theorem FoM.sqok {H : Heap} {f : Nat} {T : Nat → Prop} {S : Sq} (h : FoM H f T S) : SqOk S := ⟨h.nodup, fun k => h.may, fun k => h.pos, fun k => h.lt_top, h.room, h.free_mem⟩
structure DocR (S : Sq) (A : Ar) (its : List Sp.Item) (inn : List Int) (L : List (List Int)) : Prop where
 ok : A.Ok 1
 room : A.room = S.room
 free : A.free = S.free
 top : A.vals.length = S.top
 has : ∀ h, (A.get h).isSome = true ↔ h ∈ S.rows.flatten
 ilen : its.length = S.top
 nlen : inn.length = S.top
 it : ∀ k ∈ S.rows.flatten, its[k]? = some (S.it k)
 row : ∀ xs ∈ S.rows, ∃ n : Nat, L[n]? = some (xs.map Int.ofNat) ∧ ∀ k ∈ xs, inn[k]? = some (n : Int)
def DocM (H : Heap) (x : Nat) (col : Nat → Nat) (S : Sq) (N : Nat) : Prop :=
 ∃ A its inn L q TR Bi vi Bn vn TL vl, RgP H x col (rfOf A) its inn L q TR Bi vi Bn vn TL vl ∧ DocR S A its inn L ∧ L.length ≤ N
theorem map_ofNat_inj {xs ys : List Nat} (h : xs.map Int.ofNat = ys.map Int.ofNat) : xs = ys := by
 have := congrArg (List.map Int.toNat) h
 simpa [List.map_map, Function.comp_def] using this
theorem idxOf_map {xs : List Nat} {k : Nat} : (xs.map Int.ofNat).idxOf (k : Int) = xs.idxOf k := by
 induction xs with
 | nil => rfl
 | cons y xs ih =>
  rw [List.map_cons, List.idxOf_cons, List.idxOf_cons, ih]
  have : (Int.ofNat y == (k : Int)) = (y == k) := by rw [Bool.eq_iff_iff]; simp; omega
  rw [this]
section
variable {H : Heap} {x : Nat} {col : Nat → Nat} {S : Sq} {N : Nat} {A : Ar} {its : List Sp.Item} {inn : List Int} {L : List (List Int)} {K : Value → Heap → Prop}
theorem DocM.lt (h : DocM H x col S N) {b : Nat} (hb : col b ≠ 0) : b < H.size := by
 obtain ⟨A, its, inn, L, q, TR, Bi, vi, Bn, vn, TL, vl, P, h⟩ := h
 exact P.lt b hb
theorem DocM.grow {H' : Heap} {T : Nat → Prop} (h : DocM H x col S N) (hf : Fr T H H') (hS : ∀ b, col b ≠ 0 → ¬ T b) : DocM H' x col S N := by
 obtain ⟨A, its, inn, L, q, TR, Bi, vi, Bn, vn, TL, vl, P, h⟩ := h
 exact ⟨A, its, inn, L, q, TR, Bi, vi, Bn, vn, TL, vl, P.grow hf hS, h⟩
theorem DocR.hasB (h : DocR S A its inn L) (ok : SqOk S) (i : Int) : (rfOf A).hasB i = S.hasB i := by
 rw [rfOf_hasB, Bool.eq_iff_iff]
 unfold Ar.hasB Sq.hasB
 rw [Bool.and_eq_true, Bool.and_eq_true, decide_eq_true_iff, decide_eq_true_iff, List.contains_iff_mem, h.has]
 constructor
 ·rintro ⟨h1, h2⟩
  exact ⟨by omega, h2⟩
 ·rintro ⟨h1, h2⟩
  have := ok.pos _ h2
  exact ⟨by omega, h2⟩
theorem DocR.of (h : DocR S A its inn L) {k : Nat} (hk : k ∈ S.rows.flatten) :
  ∃ n : Nat, inn[k]? = some (n : Int) ∧ L[n]? = some ((S.rowOf k).map Int.ofNat) ∧ ∀ j ∈ S.rowOf k, inn[j]? = some (n : Int) := by
 obtain ⟨h1, h2⟩ := Sq.rowOf_spec hk
 obtain ⟨n, h3, h4⟩ := h.row _ h1
 exact ⟨n, h4 k h2, h3, h4⟩
theorem SqOk.rlen (ok : SqOk S) {xs : List Nat} (h : xs ∈ S.rows) : xs.length ≤ 4096 := by
 have h1 : xs.length ≤ S.rows.flatten.length := (List.sublist_flatten_of_mem h).length_le
 have := ok.room
 omega
theorem mem_flat {xs : List Nat} {k : Nat} (h : xs ∈ S.rows) (hk : k ∈ xs) : k ∈ S.rows.flatten := List.mem_flatten.2 ⟨xs, h, hk⟩
theorem d_get {i : Int} (hD : DocM H x col S N) (ok : SqOk S) (fin : ∀ H', Fr (fun _ => False) H H' → K (.tuple #[(S.getQ i).1.val, .int .i64 (S.getQ i).2]) H') :
  CallsH Try.prog 56 #[.pointer (some ⟨x, 0, none⟩), .int .i64 i] H K := by
 obtain ⟨A, its, inn, L, q, TR, Bi, vi, Bn, vn, TL, vl, P, R, hN⟩ := hD
 have hb := R.hasB ok i
 unfold Sq.getQ at fin
 cases h : S.hasB i with
 | false => rw [h] at fin hb; exact rg_get_none P hb fin
 | true =>
  obtain ⟨k, rfl, hk, e⟩ := has_nat h
  rw [h] at fin hb
  simp only [if_true, e] at fin
  exact rg_get P hb (R.it k hk) fin
theorem d_same {a b : Int} (hD : DocM H x col S N) (ok : SqOk S) (fin : K (.tuple #[.bool (S.sameQ a b).1, .int .i64 (S.sameQ a b).2]) H) :
  CallsH Try.prog 57 #[.pointer (some ⟨x, 0, none⟩), .int .i64 a, .int .i64 b] H K := by
 obtain ⟨A, its, inn, L, q, TR, Bi, vi, Bn, vn, TL, vl, P, R, hN⟩ := hD
 have ha := R.hasB ok a
 have hb := R.hasB ok b
 unfold Sq.sameQ at fin
 cases h : S.hasB a with
 | false => rw [h] at fin ha; exact rg_same_none P (.inl ha) fin
 | true =>
  cases h' : S.hasB b with
  | false => rw [h, h'] at fin; rw [h'] at hb; exact rg_same_none P (.inr hb) fin
  | true =>
   obtain ⟨k, rfl, hk, e⟩ := has_nat h
   obtain ⟨j, rfl, hj, e'⟩ := has_nat h'
   rw [h, h'] at fin
   rw [h] at ha
   rw [h'] at hb
   simp only [Bool.and_self, if_true, e, e'] at fin
   obtain ⟨n, h1, h2, h3⟩ := R.of hk
   obtain ⟨m, g1, g2, g3⟩ := R.of hj
   refine rg_same P ha hb h1 g1 ?_
   have : decide (n = m) = decide (S.rowOf j = S.rowOf k) := by
    rw [Bool.eq_iff_iff, decide_eq_true_iff, decide_eq_true_iff]
    constructor
    ·rintro rfl
     rw [h2] at g2
     exact (map_ofNat_inj (Option.some.inj g2)).symm
    ·intro e
     have := h3 j (by rw [← e]; exact (Sq.rowOf_spec hj).2)
     rw [g1] at this
     have := Option.some.inj this
     omega
   rw [this]
   exact fin
theorem d_rank {i : Int} (hD : DocM H x col S N) (ok : SqOk S) (fin : K (.tuple #[.int .i64 (S.rankQ i).1, .int .i64 (S.rankQ i).2]) H) :
  CallsH Try.prog 58 #[.pointer (some ⟨x, 0, none⟩), .int .i64 i] H K := by
 obtain ⟨A, its, inn, L, q, TR, Bi, vi, Bn, vn, TL, vl, P, R, hN⟩ := hD
 have hb := R.hasB ok i
 unfold Sq.rankQ at fin
 cases h : S.hasB i with
 | false => rw [h] at fin hb; exact rg_rank_none P hb fin
 | true =>
  obtain ⟨k, rfl, hk, e⟩ := has_nat h
  rw [h] at fin hb
  simp only [if_true, e] at fin
  obtain ⟨n, h1, h2, h3⟩ := R.of hk
  obtain ⟨g1, g2⟩ := Sq.rowOf_spec hk
  have := ok.rlen g1
  refine rg_rank P hb h1 h2 (List.mem_map.2 ⟨k, g2, rfl⟩) (by simp; omega) ?_
  rw [idxOf_map]
  exact fin
theorem d_at {i n : Int} (hD : DocM H x col S N) (ok : SqOk S) (fin : K (.tuple #[.int .i64 (S.atQ i n).1, .int .i64 (S.atQ i n).2]) H) :
  CallsH Try.prog 59 #[.pointer (some ⟨x, 0, none⟩), .int .i64 i, .int .i64 n] H K := by
 obtain ⟨A, its, inn, L, q, TR, Bi, vi, Bn, vn, TL, vl, P, R, hN⟩ := hD
 have hb := R.hasB ok i
 unfold Sq.atQ at fin
 cases h : S.hasB i with
 | false => rw [h] at fin hb; exact rg_at_none P hb fin
 | true =>
  obtain ⟨k, rfl, hk, e⟩ := has_nat h
  rw [h] at fin hb
  simp only [if_true, e] at fin
  obtain ⟨m, h1, h2, h3⟩ := R.of hk
  by_cases hn : 0 ≤ n
  ·rw [if_pos hn] at fin
   obtain ⟨j, rfl⟩ := Int.eq_ofNat_of_zero_le hn
   rw [Int.toNat_natCast] at fin
   cases hj : (S.rowOf k)[j]? with
   | none =>
    rw [hj] at fin
    have := List.getElem?_eq_none_iff.1 hj
    exact rg_at_bad P hb h1 h2 (.inr (by simp; omega)) fin
   | some y =>
    rw [hj] at fin
    exact rg_at P hb h1 h2 (z := (y : Int)) (by rw [List.getElem?_map, hj]; rfl) fin
  ·rw [if_neg hn] at fin
   exact rg_at_bad P hb h1 h2 (.inl (by omega)) fin
theorem d_sum {i : Int} (hD : DocM H x col S N) (ok : SqOk S) (fin : ∀ H', Fr (fun _ => False) H H' → K (.tuple #[(S.sumQ i).1.val, .int .i64 (S.sumQ i).2]) H') :
  CallsH Try.prog 60 #[.pointer (some ⟨x, 0, none⟩), .int .i64 i] H K := by
 obtain ⟨A, its, inn, L, q, TR, Bi, vi, Bn, vn, TL, vl, P, R, hN⟩ := hD
 have hb := R.hasB ok i
 unfold Sq.sumQ at fin
 cases h : S.hasB i with
 | false => rw [h] at fin hb; exact rg_sum_none P hb fin
 | true =>
  obtain ⟨k, rfl, hk, e⟩ := has_nat h
  rw [h] at fin hb
  simp only [if_true, e] at fin
  obtain ⟨m, h1, h2, h3⟩ := R.of hk
  obtain ⟨g1, g2⟩ := Sq.rowOf_spec hk
  have := ok.rlen g1
  exact rg_sum P hb h1 h2 (by omega) (fun j hj => ⟨R.it j (mem_flat g1 hj), ok.may j (mem_flat g1 hj)⟩) fin
theorem d_flagged {i n : Int} (hD : DocM H x col S N) (ok : SqOk S) (fin : K (.tuple #[.int .i64 (S.flaggedQ i n).1, .int .i64 (S.flaggedQ i n).2]) H) :
  CallsH Try.prog 61 #[.pointer (some ⟨x, 0, none⟩), .int .i64 i, .int .i64 n] H K := by
 obtain ⟨A, its, inn, L, q, TR, Bi, vi, Bn, vn, TL, vl, P, R, hN⟩ := hD
 have hb := R.hasB ok i
 unfold Sq.flaggedQ at fin
 cases h : S.hasB i with
 | false => rw [h] at fin hb; exact rg_flagged_none P hb fin
 | true =>
  obtain ⟨k, rfl, hk, e⟩ := has_nat h
  rw [h] at fin hb
  simp only [if_true, e] at fin
  obtain ⟨m, h1, h2, h3⟩ := R.of hk
  obtain ⟨g1, g2⟩ := Sq.rowOf_spec hk
  have := ok.rlen g1
  by_cases hn : 0 ≤ n ∧ n < 256
  ·rw [if_pos hn] at fin
   obtain ⟨fl, rfl⟩ := Int.eq_ofNat_of_zero_le hn.1
   rw [Int.toNat_natCast] at fin
   refine rg_flagged P hb (by omega) h1 h2 (by omega) (fun j hj => ⟨R.it j (mem_flat g1 hj), ok.may j (mem_flat g1 hj)⟩) ?_
   unfold flagV
   cases hj : firstF S.it fl (S.rowOf k) with
   | none => rw [hj] at fin; exact fin
   | some j => rw [hj] at fin; exact fin
  ·rw [if_neg hn] at fin
   exact rg_flagged_bad P hb hn fin
theorem d_all {i : Int} (hD : DocM H x col S N) (ok : SqOk S) (fin : ∀ v H' B, IR H' B v ((S.allQ i).1.map Int.ofNat) → Fr (fun _ => False) H H' → (∀ b, B = some b → H.size ≤ b) → K (.tuple #[v, .int .i64 (S.allQ i).2]) H') :
  CallsH Try.prog 62 #[.pointer (some ⟨x, 0, none⟩), .int .i64 i] H K := by
 obtain ⟨A, its, inn, L, q, TR, Bi, vi, Bn, vn, TL, vl, P, R, hN⟩ := hD
 have hb := R.hasB ok i
 unfold Sq.allQ at fin
 cases h : S.hasB i with
 | false => rw [h] at fin hb; exact rg_all_none P hb (fin _ H none (IR.nil H) (Fr.refl _ _) (fun b h => by cases h))
 | true =>
  obtain ⟨k, rfl, hk, e⟩ := has_nat h
  rw [h] at fin hb
  simp only [if_true, e] at fin
  obtain ⟨m, h1, h2, h3⟩ := R.of hk
  obtain ⟨g1, g2⟩ := Sq.rowOf_spec hk
  have := ok.rlen g1
  refine rg_all P hb h1 h2 (fun e => ?_) (by simp; omega) fin
  rw [List.map_eq_nil_iff] at e
  rw [e] at g2; cases g2
end
section
variable {H : Heap} {x : Nat} {col : Nat → Nat} {S : Sq} {N : Nat} {A : Ar} {its : List Sp.Item} {inn : List Int} {L : List (List Int)} {K : Value → Heap → Prop}
theorem DocM.more {M : Nat} (h : DocM H x col S N) (hN : N ≤ M) : DocM H x col S M := by
 obtain ⟨A, its, inn, L, q, TR, Bi, vi, Bn, vn, TL, vl, P, R, h⟩ := h
 exact ⟨A, its, inn, L, q, TR, Bi, vi, Bn, vn, TL, vl, P, R, by omega⟩
theorem DocR.many (R : DocR S A its inn L) (ok : SqOk S) : A.many = S.rows.flatten.length := by
 have h1 := Ar.count_free A R.ok
 have h2 := ok.room
 rw [R.free, R.top] at h1
 omega
theorem SqOk.apart (ok : SqOk S) {xs ys : List Nat} {k : Nat} (hx : xs ∈ S.rows) (hy : ys ∈ S.rows.erase xs) (hk : k ∈ xs) : k ∉ ys := by
 have hp := (List.perm_cons_erase hx).flatten
 have := hp.nodup_iff.1 ok.nodup
 rw [List.flatten_cons, List.nodup_append] at this
 exact fun h => this.2.2 k hk k (List.mem_flatten.2 ⟨ys, hy, h⟩) rfl
theorem SqOk.flat (ok : SqOk S) {xs : List Nat} (hx : xs ∈ S.rows) (j : Nat) : j ∈ S.rows.flatten ↔ j ∈ xs ∨ j ∈ (S.rows.erase xs).flatten := by
 rw [(List.perm_cons_erase hx).flatten.mem_iff, List.flatten_cons, List.mem_append]
theorem d_set {i : Int} {z : Sp.Item} (hD : DocM H x col S N) (ok : SqOk S) (fin : ∀ H', DocM H' x col (Sq.setQ S i z).2 N → Nx col col H H' → K (.int .i64 (Sq.setQ S i z).1) H') :
  CallsH Try.prog 53 #[.pointer (some ⟨x, 0, none⟩), .int .i64 i, z.val] H K := by
 have hD0 := hD
 obtain ⟨A, its, inn, L, q, TR, Bi, vi, Bn, vn, TL, vl, P, R, hN⟩ := hD
 have hb := R.hasB ok i
 unfold Sq.setQ at fin
 cases h : S.hasB i with
 | false => rw [h] at fin hb; exact rg_set_none P hb fun H' hf => fin H' (hD0.grow hf fun _ _ h => h) (Nx.same hf fun _ h => h.elim)
 | true =>
  obtain ⟨k, rfl, hk, e⟩ := has_nat h
  rw [h] at fin hb
  simp only [if_true, e] at fin
  have hl := ok.lt k hk
  refine rg_set P hb (by rw [R.ilen]; exact hl) (fun hm H' hf => ?_) (fun hm H' Bi' vi' hG n => ?_)
  ·rw [hm] at fin
   exact fin H' (hD0.grow hf fun _ _ h => h) (Nx.same hf fun _ h => h.elim)
  ·rw [hm] at fin
   refine fin H' ⟨A, _, inn, L, q, TR, _, _, Bn, vn, TL, vl, hG, ⟨R.ok, R.room, R.free, R.top, R.has, by simpa using R.ilen, R.nlen, fun j hj => ?_, R.row⟩, hN⟩ n
   rw [List.getElem?_set]
   by_cases hjk : k = j
   ·subst hjk
    rw [if_pos rfl, if_pos (by rw [R.ilen]; exact hl)]
    simp
   ·rw [if_neg hjk, R.it j hj]
    show _ = some (if j = k then z else S.it j)
    rw [if_neg (fun e : j = k => hjk e.symm)]
theorem d_free {i : Int} (hD : DocM H x col S N) (ok : SqOk S) (fin : ∀ H' col', DocM H' x col' (Sq.freeQ S i).2 N → Nx col col' H H' → K (.int .i64 (Sq.freeQ S i).1) H') :
  CallsH Try.prog 52 #[.pointer (some ⟨x, 0, none⟩), .int .i64 i] H K := by
 have hD0 := hD
 obtain ⟨A, its, inn, L, q, TR, Bi, vi, Bn, vn, TL, vl, P, R, hN⟩ := hD
 have hb := R.hasB ok i
 unfold Sq.freeQ at fin
 cases h : S.hasB i with
 | false => rw [h] at fin hb; exact rg_free_none P hb (fin H col hD0 (Nx.refl _ _))
 | true =>
  obtain ⟨k, rfl, hk, e⟩ := has_nat h
  rw [h] at fin hb
  simp only [if_true, e] at fin
  obtain ⟨n, h1, h2, h3⟩ := R.of hk
  obtain ⟨g1, g2⟩ := Sq.rowOf_spec hk
  by_cases hr : S.rowOf k = [k]
  ·rw [if_pos hr] at fin
   have hbA : A.hasB (k : Int) = true := by rw [← rfOf_hasB]; exact hb
   obtain ⟨k', u, hk', hg⟩ := Ar.hasB_nat hbA
   obtain rfl : k = k' := by omega
   rw [hr] at h2 g1
   refine rg_free P hb h1 h2 (by simp) ?_ fun H' col' TR' hG n1 => fin H' col' ⟨A.drop k, its, inn, _, q, TR', Bi, vi, Bn, vn, TL, vl, by rw [rfOf_drop]; exact hG, ?_, by simpa using hN⟩ n1
   ·have h5 := (rfOf_ok R.ok).flen
    have h6 := Ar.count_free A R.ok
    have h7 : 0 < A.many := by
     rw [R.many ok]
     exact List.length_pos_of_mem hk
    have h8 := R.ok.len_le
    simp only [rfOf, List.length_reverse]
    omega
   ·have hfl := ok.flat g1
    have hak : ∀ ys ∈ S.rows.erase [k], k ∉ ys := fun ys hy => ok.apart g1 hy (.head _)
    refine ⟨R.ok.drop hg, R.room, by simp [Ar.drop, Sq.freed, R.free], by simpa [Ar.drop, Sq.freed] using R.top, fun j => ?_, R.ilen, R.nlen, fun j hj => R.it j ((hfl j).2 (.inr hj)), fun ys hy => ?_⟩
    ·have e' : (A.drop k).get j = if j = k then none else A.get j := Ar.get_set (Ar.get_some_lt hg)
     rw [e']
     show _ ↔ j ∈ (S.rows.erase [k]).flatten
     by_cases hjk : j = k
     ·subst hjk
      rw [if_pos rfl]
      simp only [Option.isSome_none, Bool.false_eq_true, false_iff]
      intro hm
      obtain ⟨ys, hy, hjy⟩ := List.mem_flatten.1 hm
      exact hak ys hy hjy
     ·rw [if_neg hjk, R.has, hfl]
      simp [hjk]
    ·obtain ⟨m, m1, m2⟩ := R.row ys (List.mem_of_mem_erase hy)
     refine ⟨m, ?_, m2⟩
     rw [List.getElem?_set, if_neg ?_]
     ·exact m1
     ·rintro rfl
      rw [h2] at m1
      have := map_ofNat_inj (Option.some.inj m1)
      exact hak ys hy (by rw [← this]; exact .head _)
  ·rw [if_neg hr] at fin
   refine rg_free_busy P hb h1 h2 ?_ (fin H col hD0 (Nx.refl _ _))
   rw [List.length_map]
   rcases Nat.lt_or_ge 1 (S.rowOf k).length with h | h
   ·exact h
   ·have : (S.rowOf k).length = 1 := by have := List.length_pos_of_mem g2; omega
    obtain ⟨y, hy⟩ := List.length_eq_one_iff.1 this
    rw [hy] at g2 hr
    simp at g2
    exact absurd (by rw [g2]) hr
theorem d_join {a b : Int} (hD : DocM H x col S N) (ok : SqOk S) (fin : ∀ H' col', DocM H' x col' (Sq.joinQ S a b).2 N → Nx col col' H H' → K (.int .i64 (Sq.joinQ S a b).1) H') :
  CallsH Try.prog 54 #[.pointer (some ⟨x, 0, none⟩), .int .i64 a, .int .i64 b] H K := by
 have hD0 := hD
 obtain ⟨A, its, inn, L, q, TR, Bi, vi, Bn, vn, TL, vl, P, R, hN⟩ := hD
 have ha := R.hasB ok a
 have hb := R.hasB ok b
 unfold Sq.joinQ at fin
 cases h : S.hasB a with
 | false => rw [h] at fin ha; exact rg_join_none P (.inl ha) (fin H col hD0 (Nx.refl _ _))
 | true =>
  cases h' : S.hasB b with
  | false => rw [h, h'] at fin; rw [h'] at hb; exact rg_join_none P (.inr hb) (fin H col hD0 (Nx.refl _ _))
  | true =>
   obtain ⟨k, rfl, hk, e⟩ := has_nat h
   obtain ⟨j, rfl, hj, e'⟩ := has_nat h'
   rw [h, h'] at fin
   rw [h] at ha
   rw [h'] at hb
   simp only [Bool.and_self, if_true, e, e'] at fin
   obtain ⟨n, h1, h2, h3⟩ := R.of hk
   obtain ⟨m, g1, g2, g3⟩ := R.of hj
   obtain ⟨r1, r2⟩ := Sq.rowOf_spec hk
   obtain ⟨r3, r4⟩ := Sq.rowOf_spec hj
   by_cases hr : S.rowOf k = S.rowOf j
   ·rw [if_pos hr] at fin
    have := h3 j (by rw [hr]; exact r4)
    rw [g1] at this
    have hmn : m = n := by have := Option.some.inj this; omega
    subst hmn
    exact rg_join_same P ha hb h1 g1 (fin H col hD0 (Nx.refl _ _))
   ·rw [if_neg hr] at fin
    have hnm : n ≠ m := by
     rintro rfl
     rw [h2] at g2
     exact hr (map_ofNat_inj (Option.some.inj g2))
    have e1 := ok.rlen r1
    have e2 := ok.rlen r3
    have r3' : S.rowOf j ∈ S.rows.erase (S.rowOf k) := (List.mem_erase_of_ne (fun h => hr h.symm)).2 r3
    have hne : S.rowOf j ≠ [] := fun e => by rw [e] at r4; cases r4
    have hp : S.rows.Perm (S.rowOf k :: S.rowOf j :: (S.rows.erase (S.rowOf k)).erase (S.rowOf j)) := (List.perm_cons_erase r1).trans (.cons _ (List.perm_cons_erase r3'))
    have hfl : ∀ i, i ∈ S.rows.flatten ↔ i ∈ ((S.rowOf k ++ S.rowOf j) :: (S.rows.erase (S.rowOf k)).erase (S.rowOf j)).flatten := fun i => by
     rw [hp.flatten.mem_iff]; simp
    have hnd := hp.flatten.nodup_iff.1 ok.nodup
    rw [List.flatten_cons, List.flatten_cons, List.nodup_append, List.nodup_append] at hnd
    have hlm := (List.getElem?_eq_some_iff.1 g2).1
    have hln := (List.getElem?_eq_some_iff.1 h2).1
    refine rg_join P ha hb h1 g1 hnm h2 g2 (by simp; omega) (by omega) hne (fun i hi => by rw [R.nlen]; exact ok.lt i (mem_flat r3 hi)) fun H' col' inn' TL' hG n1 hl1 hk1 => fin H' col' ⟨A, its, inn', _, q, TR, Bi, vi, Bn, vn, TL', vl, hG, ⟨R.ok, R.room, R.free, R.top, fun i => (R.has i).trans (hfl i), R.ilen, by rw [hl1]; exact R.nlen, fun i hi => R.it i ((hfl i).2 hi), fun ys hy => ?_⟩, by simpa using hN⟩ n1
    rcases List.mem_cons.1 hy with rfl | hy
    ·refine ⟨n, ?_, fun i hi => ?_⟩
     ·rw [List.getElem?_set, if_neg (fun e => hnm e.symm), List.getElem?_set, if_pos rfl, if_pos hln, List.map_append]
     ·rw [hk1]
      by_cases hij : i ∈ S.rowOf j
      ·rw [if_pos hij]
      ·rw [if_neg hij]
       exact h3 i ((List.mem_append.1 hi).resolve_right hij)
    ·have hy1 := List.mem_of_mem_erase hy
     have hy0 := List.mem_of_mem_erase hy1
     have hak : k ∉ ys := ok.apart r1 hy1 r2
     have haj : ∀ i ∈ S.rowOf j, i ∉ ys := fun i hi hiy => hnd.2.1.2.2 i hi i (List.mem_flatten.2 ⟨ys, hy, hiy⟩) rfl
     obtain ⟨t, t1, t2⟩ := R.row ys hy0
     refine ⟨t, ?_, fun i hi => ?_⟩
     ·rw [List.getElem?_set, if_neg, List.getElem?_set, if_neg, t1]
      ·rintro rfl
       rw [h2] at t1
       exact hak (by rw [← map_ofNat_inj (Option.some.inj t1)]; exact r2)
      ·rintro rfl
       rw [g2] at t1
       exact haj j r4 (by rw [← map_ofNat_inj (Option.some.inj t1)]; exact r4)
     ·rw [hk1, if_neg (fun h => haj i h hi)]
      exact t2 i hi
theorem d_split {i : Int} (hD : DocM H x col S N) (ok : SqOk S) (hN2 : N ≤ 2999999999999) (fin : ∀ H' col', DocM H' x col' (Sq.splitQ S i).2 (N + 1) → Nx col col' H H' → K (.int .i64 (Sq.splitQ S i).1) H') :
  CallsH Try.prog 55 #[.pointer (some ⟨x, 0, none⟩), .int .i64 i] H K := by
 have hD0 := hD.more (Nat.le_succ N)
 obtain ⟨A, its, inn, L, q, TR, Bi, vi, Bn, vn, TL, vl, P, R, hN⟩ := hD
 have hb := R.hasB ok i
 unfold Sq.splitQ at fin
 cases h : S.hasB i with
 | false => rw [h] at fin hb; exact rg_split_none P hb (fin H col hD0 (Nx.refl _ _))
 | true =>
  obtain ⟨k, rfl, hk, e⟩ := has_nat h
  rw [h] at fin hb
  simp only [if_true, e] at fin
  obtain ⟨n, h1, h2, h3⟩ := R.of hk
  obtain ⟨r1, r2⟩ := Sq.rowOf_spec hk
  have e1 := ok.rlen r1
  by_cases h0 : (S.rowOf k).idxOf k = 0
  ·rw [if_pos h0] at fin
   exact rg_split_first P hb h1 h2 (List.mem_map.2 ⟨k, r2, rfl⟩) (by simp; omega) (by rw [idxOf_map]; exact h0) (fin H col hD0 (Nx.refl _ _))
  ·rw [if_neg h0] at fin
   have hln := (List.getElem?_eq_some_iff.1 h2).1
   have hfl : ∀ j, j ∈ S.rows.flatten ↔ j ∈ ((S.rowOf k).take ((S.rowOf k).idxOf k) :: (S.rowOf k).drop ((S.rowOf k).idxOf k) :: S.rows.erase (S.rowOf k)).flatten := fun j => by
    have e3 : j ∈ S.rowOf k ↔ j ∈ (S.rowOf k).take ((S.rowOf k).idxOf k) ∨ j ∈ (S.rowOf k).drop ((S.rowOf k).idxOf k) := by
     rw [← List.mem_append, List.take_append_drop]
    rw [ok.flat r1, List.flatten_cons, List.flatten_cons, List.mem_append, List.mem_append, ← or_assoc, e3]
   have htd : ∀ j, j ∈ (S.rowOf k).take ((S.rowOf k).idxOf k) → j ∉ (S.rowOf k).drop ((S.rowOf k).idxOf k) := fun j h1 h2 => by
    have hn : (S.rowOf k).Nodup := (List.sublist_flatten_of_mem r1).nodup ok.nodup
    rw [← List.take_append_drop ((S.rowOf k).idxOf k) (S.rowOf k), List.nodup_append] at hn
    exact hn.2.2 j h1 j h2 rfl
   refine rg_split P hb h1 h2 r2 (by omega) idxOf_map h0 (fun j hj => by rw [R.nlen]; exact ok.lt j (mem_flat r1 hj)) (by omega) fun H' col' inn' TL' vl' hG n1 hl1 hk1 => fin H' col' ⟨A, its, inn', _, q, TR, Bi, vi, Bn, vn, TL', vl', hG, ⟨R.ok, R.room, R.free, R.top, fun j => (R.has j).trans (hfl j), R.ilen, by rw [hl1]; exact R.nlen, fun j hj => R.it j ((hfl j).2 hj), fun ys hy => ?_⟩, by simp; omega⟩ n1
   rcases List.mem_cons.1 hy with rfl | hy
   ·refine ⟨L.length, ?_, fun j hj => ?_⟩
    ·rw [List.getElem?_append_right (by simp)]; simp
    ·rw [hk1, if_pos hj]
   rcases List.mem_cons.1 hy with rfl | hy
   ·refine ⟨n, ?_, fun j hj => ?_⟩
    ·rw [List.getElem?_append_left (by simpa using hln), List.getElem?_set, if_pos rfl, if_pos hln]
    ·rw [hk1, if_neg (fun h => htd j h hj)]
     exact h3 j (List.mem_of_mem_drop hj)
   ·have hy0 := List.mem_of_mem_erase hy
    obtain ⟨t, t1, t2⟩ := R.row ys hy0
    have hlt := (List.getElem?_eq_some_iff.1 t1).1
    refine ⟨t, ?_, fun j hj => ?_⟩
    ·rw [List.getElem?_append_left (by simpa using hlt), List.getElem?_set, if_neg, t1]
     rintro rfl
     rw [h2] at t1
     exact ok.apart r1 hy r2 (by rw [← map_ofNat_inj (Option.some.inj t1)]; exact r2)
    ·rw [hk1, if_neg (fun h => ok.apart r1 hy (List.mem_of_mem_take h) hj)]
     exact t2 j hj
theorem d_make {z : Sp.Item} (hD : DocM H x col S N) (ok : SqOk S) (hN2 : N ≤ 2999999999999) (fin : ∀ H' col', DocM H' x col' (Sq.makeQ S z).2 (N + 1) → Nx col col' H H' → K (.tuple #[.int .i64 (Sq.makeQ S z).1.1, .int .i64 (Sq.makeQ S z).1.2]) H') :
  CallsH Try.prog 51 #[.pointer (some ⟨x, 0, none⟩), z.val] H K := by
 have hD0 := hD.more (Nat.le_succ N)
 obtain ⟨A, its, inn, L, q, TR, Bi, vi, Bn, vn, TL, vl, P, R, hN⟩ := hD
 unfold Sq.makeQ at fin
 have hrm := ok.room
 have hc : (rfOf A).count = S.rows.flatten.length := by rw [rfOf_count R.ok, R.many ok]
 have hroom : (rfOf A).room = S.room := R.room
 cases hm : mayB z with
 | false =>
  rw [hm] at fin
  exact rg_make_bad P hm fun H' hf => fin H' col (hD0.grow hf fun _ _ h => h) (Nx.same hf fun _ h => h.elim)
 | true =>
  rw [hm] at fin
  simp only [Bool.true_eq_false, if_false] at fin
  by_cases hr : S.rows.flatten.length = S.room
  ·rw [if_pos hr] at fin
   exact rg_make_full P hm (by omega) fun H' hf => fin H' col (hD0.grow hf fun _ _ h => h) (Nx.same hf fun _ h => h.elim)
  rw [if_neg hr] at fin
  have hmr : A.many < A.room := by rw [R.many ok, R.room]; omega
  cases hfr : S.free with
  | cons h fs =>
   have hfA : A.free = h :: fs := by rw [R.free, hfr]
   have hh := (ok.free h).1 (by rw [hfr]; exact .head _)
   have hnx : S.next = h := by unfold Sq.next; rw [hfr]; rfl
   refine rg_make_old (h := h) (fs := fs.reverse) P hm (by rw [hc, hroom]; omega) (by simp [rfOf, hfA]) (by rw [R.ilen]; exact hh.2.1) (by rw [R.nlen]; exact hh.2.1) (by omega) fun H' col' Bi' vi' Bn' vn' TL' vl' hG n1 => ?_
   rw [← rfOf_putOld (v := [.int .i64 0]) hfA] at hG
   have := fin H' col' ⟨A.putOld h [.int .i64 0], _, _, _, q, TR, Bi', vi', Bn', vn', TL', vl', hG, ⟨R.ok.putOld hfA hmr rfl, R.room, ?_, ?_, fun j => ?_, ?_, ?_, fun j hj => ?_, fun ys hy => ?_⟩, by simp; omega⟩ n1
   ·rw [hnx] at this; exact this
   ·simp [Ar.putOld, Sq.made, hfA, hfr]
   ·simp [Ar.putOld, Sq.made, hfr, R.top]
   ·have e' : (A.putOld h [.int .i64 0]).get j = if j = h then some [.int .i64 0] else A.get j := Ar.get_set (by rw [R.top]; exact hh.2.1)
    rw [e']
    simp only [Sq.made, hnx, List.flatten_cons, List.singleton_append, List.mem_cons]
    by_cases hjh : j = h
    ·simp [hjh]
    ·rw [if_neg hjh, R.has]; simp [hjh]
   ·simp [Sq.made, hfr, R.ilen]
   ·simp [Sq.made, hfr, R.nlen]
   ·simp only [Sq.made, hnx, List.flatten_cons, List.singleton_append, List.mem_cons] at hj ⊢
    rw [List.getElem?_set]
    by_cases hjh : j = h
    ·subst hjh
     rw [if_pos rfl, if_pos (by rw [R.ilen]; exact hh.2.1)]; simp
    ·rw [if_neg (fun e => hjh e.symm), R.it j (hj.resolve_left hjh)]
     simp only [if_neg hjh]
   ·simp only [Sq.made, hnx, List.mem_cons] at hy
    rcases hy with rfl | hy
    ·refine ⟨L.length, by rw [List.getElem?_append_right (Nat.le_refl _)]; simp, fun j hj => ?_⟩
     rw [List.mem_singleton.1 hj, List.getElem?_set, if_pos rfl, if_pos (by rw [R.nlen]; exact hh.2.1)]
    ·obtain ⟨t, t1, t2⟩ := R.row ys hy
     refine ⟨t, by rw [List.getElem?_append_left (List.getElem?_eq_some_iff.1 t1).1]; exact t1, fun j hj => ?_⟩
     rw [List.getElem?_set, if_neg (fun e => hh.2.2 (by rw [e]; exact mem_flat hy hj))]
     exact t2 j hj
  | nil =>
   have hfA : A.free = [] := by rw [R.free, hfr]
   have hnx : S.next = S.top := by unfold Sq.next; rw [hfr]; rfl
   rw [hfr, List.length_nil] at hrm
   refine rg_make_new (n := S.top) P hm (by rw [hc, hroom]; omega) (by simp [rfOf, hfA]) (by simp [rfOf, R.top]) (by rw [hroom]; omega) R.ilen R.nlen (by omega) (by omega) fun H' col' TR' Bi' vi' Bn' vn' TL' vl' hG n1 => ?_
   rw [← rfOf_putNew (v := [.int .i64 0])] at hG
   have := fin H' col' ⟨A.putNew [.int .i64 0], _, _, _, q, TR', Bi', vi', Bn', vn', TL', vl', hG, ⟨R.ok.putNew hfA hmr rfl, R.room, ?_, ?_, fun j => ?_, ?_, ?_, fun j hj => ?_, fun ys hy => ?_⟩, by simp; omega⟩ n1
   ·rw [hnx] at this; exact this
   ·simp [Ar.putNew, Sq.made, hfA, hfr]
   ·simp [Ar.putNew, Sq.made, hfr, R.top]
   ·rw [Ar.get_putNew, R.top]
    simp only [Sq.made, hnx, List.flatten_cons, List.singleton_append, List.mem_cons]
    by_cases hjh : j = S.top
    ·simp [hjh]
    ·rw [if_neg hjh, R.has]; simp [hjh]
   ·simp [Sq.made, hfr, R.ilen]
   ·simp [Sq.made, hfr, R.nlen]
   ·simp only [Sq.made, hnx, List.flatten_cons, List.singleton_append, List.mem_cons] at hj ⊢
    by_cases hjh : j = S.top
    ·subst hjh
     rw [List.getElem?_append_right (by rw [R.ilen]; exact Nat.le_refl _), R.ilen]; simp
    ·have hjf := hj.resolve_left hjh
     rw [List.getElem?_append_left (by rw [R.ilen]; exact ok.lt j hjf), R.it j hjf]
     simp only [if_neg hjh]
   ·simp only [Sq.made, hnx, List.mem_cons] at hy
    rcases hy with rfl | hy
    ·refine ⟨L.length, by rw [List.getElem?_append_right (Nat.le_refl _)]; simp, fun j hj => ?_⟩
     rw [List.mem_singleton.1 hj, List.getElem?_append_right (by rw [R.nlen]; exact Nat.le_refl _), R.nlen]; simp
    ·obtain ⟨t, t1, t2⟩ := R.row ys hy
     refine ⟨t, by rw [List.getElem?_append_left (List.getElem?_eq_some_iff.1 t1).1]; exact t1, fun j hj => ?_⟩
     rw [List.getElem?_append_left (by rw [R.nlen]; exact ok.lt j (mem_flat hy hj))]
     exact t2 j hj
theorem d_new {H : Heap} {n : Nat} {K : Value → Heap → Prop} (hn : n ≤ 1024)
  (fin : ∀ H' x col, DocM H' x col (Sq.new n) 0 → Fr (fun _ => False) H H' → (∀ b, col b ≠ 0 → H.size ≤ b) → col x ≠ 0 → K (.tuple #[.pointer (some ⟨x, 0, none⟩), .int .i64 0]) H') :
  CallsH Try.prog 30 #[.int .i64 (n : Nat)] H K := by
 refine rg_new hn fun H' x col q TR Bi vi Bn vn TL vl hG hf hc => fin H' x col ⟨Ar.new n, _, _, [], q, TR, Bi, vi, Bn, vn, TL, vl, hG, ⟨Ar.Ok.new (by omega), rfl, rfl, rfl, fun h => ?_, rfl, rfl, fun k hk => (by cases hk), fun ys hy => (by cases hy)⟩, Nat.le_refl _⟩ hf hc (by rw [hG.cx]; decide)
 unfold Ar.get Ar.new Sq.new
 rcases h with _ | h
 ·simp
 ·simp
end
structure SsP (H : Heap) (s : Nat) (col : Nat → Nat) (S S' : Sq) (N : Nat) (L L' : List (List Int)) (f : Nat) (T : Nat → Prop) (x : Nat) (cx : Nat → Nat) (TA : Nat → Prop) (va : Value) (TW : Nat → Prop) (vw : Value) : Prop where
 b : Blk H s [.pointer (some ⟨f, 0, none⟩), .pointer (some ⟨x, 0, none⟩), va, vw]
 fo : FoM H f T S
 dc : DocM H x cx S' N
 la : LL (Value.int .i64) H TA va L
 lw : LL (Value.int .i64) H TW vw L'
 cs : col s = 1
 cf : ∀ b, T b → col b = 2
 cd : ∀ b, cx b ≠ 0 → col b = 3
 ca : ∀ b, TA b → col b = 4
 cw : ∀ b, TW b → col b = 5
 lt : ∀ b, col b ≠ 0 → b < H.size
section
variable {H : Heap} {s : Nat} {col : Nat → Nat} {S S' : Sq} {N : Nat} {L L' : List (List Int)} {f : Nat} {T : Nat → Prop} {x : Nat} {cx : Nat → Nat} {TA : Nat → Prop} {va : Value} {TW : Nat → Prop} {vw : Value}
theorem SsP.old (h : SsP H s col S S' N L L' f T x cx TA va TW vw) {b n' k j : Nat} (hj : col b = j) (h0 : j ≠ 0) : extC col H.size n' k b = j := by
 rw [extC_old (h.lt b (by rw [hj]; exact h0)), hj]
theorem SsP.grow {H' : Heap} {Q : Nat → Prop} (h : SsP H s col S S' N L L' f T x cx TA va TW vw) (hf : Fr Q H H') (hS : ∀ b, col b ≠ 0 → ¬ Q b) : SsP H' s col S S' N L L' f T x cx TA va TW vw where
 b := h.b.frame hf (hS s (by rw [h.cs]; decide))
 fo := h.fo.frame hf fun b hb => hS b (by rw [h.cf b hb]; decide)
 dc := h.dc.grow hf fun b hb => hS b (by rw [h.cd b hb]; decide)
 la := h.la.frame hf fun b hb => hS b (by rw [h.ca b hb]; decide)
 lw := h.lw.frame hf fun b hb => hS b (by rw [h.cw b hb]; decide)
 cs := h.cs
 cf := h.cf
 cd := h.cd
 ca := h.ca
 cw := h.cw
 lt := fun b hb => Nat.lt_of_lt_of_le (h.lt b hb) hf.size
theorem SsP.setFo {H' : Heap} {S1 : Sq} {T' : Nat → Prop} (h : SsP H s col S S' N L L' f T x cx TA va TW vw) (hf : Fr T H H') (ho : FoM H' f T' S1) (hT : ∀ b, T' b → T b ∨ H.size ≤ b) :
  SsP H' s (extC col H.size H'.size 2) S1 S' N L L' f T' x cx TA va TW vw ∧ Nx col (extC col H.size H'.size 2) H H' := by
 have hne : ∀ b, col b ≠ 2 → ¬ T b := fun b hb e => hb (h.cf b e)
 refine ⟨⟨h.b.frame hf (hne _ (by rw [h.cs]; decide)), ho, h.dc.grow hf fun b hb => hne b (by rw [h.cd b hb]; decide), h.la.frame hf fun b hb => hne b (by rw [h.ca b hb]; decide), h.lw.frame hf fun b hb => hne b (by rw [h.cw b hb]; decide),
  h.old h.cs (by decide), fun b hb => ?_, fun b hb => h.old (h.cd b hb) (by decide), fun b hb => h.old (h.ca b hb) (by decide), fun b hb => h.old (h.cw b hb) (by decide), fun b hb => extC_lt hf.size hb⟩, Nx.ext hf fun b hb => by rw [h.cf b hb]; decide⟩
 rcases hT b hb with h' | h'
 ·exact h.old (h.cf b h') (by decide)
 ·exact extC_new h' (ho.lt hb)
theorem SsP.setDc {H' : Heap} {S1 : Sq} {M : Nat} {cx' : Nat → Nat} (h : SsP H s col S S' N L L' f T x cx TA va TW vw) (ho : DocM H' x cx' S1 M) (n : Nx cx cx' H H') :
  SsP H' s (extC col H.size H'.size 3) S S1 M L L' f T x cx' TA va TW vw ∧ Nx col (extC col H.size H'.size 3) H H' := by
 have hf := n.fr
 have hne : ∀ b, col b ≠ 3 → ¬ cx b ≠ 0 := fun b hb e => hb (h.cd b e)
 refine ⟨⟨h.b.frame hf (hne _ (by rw [h.cs]; decide)), h.fo.frame hf fun b hb => hne b (by rw [h.cf b hb]; decide), ho, h.la.frame hf fun b hb => hne b (by rw [h.ca b hb]; decide), h.lw.frame hf fun b hb => hne b (by rw [h.cw b hb]; decide),
  h.old h.cs (by decide), fun b hb => h.old (h.cf b hb) (by decide), fun b hb => ?_, fun b hb => h.old (h.ca b hb) (by decide), fun b hb => h.old (h.cw b hb) (by decide), fun b hb => extC_lt hf.size hb⟩, Nx.ext hf fun b hb => by rw [h.cd b hb]; decide⟩
 rcases n.own b hb with h' | h'
 ·exact h.old (h.cd b h') (by decide)
 ·exact extC_new h' (ho.lt hb)
theorem SsP.setLa {H' : Heap} {M : List (List Int)} {TA' : Nat → Prop} {va' : Value} (h : SsP H s col S S' N L L' f T x cx TA va TW vw) (hf : Fr TA H H') (hk : LL (Value.int .i64) H' TA' va' M) (hB : ∀ b, TA' b → TA b ∨ H.size ≤ b) :
  okW H' ⟨s, 2, none⟩ ∧ SsP (hset H' ⟨s, 2, none⟩ va') s (extC col H.size H'.size 4) S S' N M L' f T x cx TA' va' TW vw ∧ Nx col (extC col H.size H'.size 4) H (hset H' ⟨s, 2, none⟩ va') := by
 have hsz : (hset H' ⟨s, 2, none⟩ va').size = H'.size := hset_size ..
 have hb := h.b.frame hf fun e => by have := h.ca s e; rw [h.cs] at this; cases this
 have hf2 : Fr (fun b => TA b ∨ b = s) H (hset H' ⟨s, 2, none⟩ va') := Fr.set (S := fun b => TA b ∨ b = s) (a := ⟨s, 2, none⟩) (hf.mono fun b _ h => .inl h) (.inl (.inr rfl)) _
 have hne : ∀ b, col b ≠ 4 → col b ≠ 1 → ¬ (TA b ∨ b = s) := by
  rintro b h4 h1 (e | rfl)
  ·exact h4 (h.ca b e)
  ·exact h1 h.cs
 have hBn : ∀ b, TA' b → extC col H.size H'.size 4 b = 4 := fun b hb => by
  rcases hB b hb with e | e
  ·exact h.old (h.ca b e) (by decide)
  ·exact extC_new e (hk.lt hb)
 have hcs := h.old (n' := H'.size) (k := 4) h.cs (by decide)
 have hnx : Nx col (extC col H.size H'.size 4) H (hset H' ⟨s, 2, none⟩ va') := by
  rw [← hsz]
  refine Nx.ext hf2 ?_
  rintro b (e | rfl)
  ·rw [h.ca b e]; decide
  ·rw [h.cs]; decide
 refine ⟨hb.okW (by simp), ⟨hb.set_same 2 va', h.fo.frame hf2 fun b hb => hne b (by rw [h.cf b hb]; decide) (by rw [h.cf b hb]; decide), h.dc.grow hf2 fun b hb => hne b (by rw [h.cd b hb]; decide) (by rw [h.cd b hb]; decide),
  hk.frame (Fr.set (S := (· = s)) (a := ⟨s, 2, none⟩) (Fr.refl _ H') (.inl rfl) _) (fun b hb' e => ?_),
  h.lw.frame hf2 fun b hb => hne b (by rw [h.cw b hb]; decide) (by rw [h.cw b hb]; decide),
  hcs, fun b hb => h.old (h.cf b hb) (by decide), fun b hb => h.old (h.cd b hb) (by decide), hBn, fun b hb => h.old (h.cw b hb) (by decide), fun b hb => by rw [hsz]; exact extC_lt hf.size hb⟩, hnx⟩
 have := hBn b hb'
 rw [e, hcs] at this
 cases this
theorem SsP.setLw {H' : Heap} {M : List (List Int)} {TW' : Nat → Prop} {vw' : Value} (h : SsP H s col S S' N L L' f T x cx TA va TW vw) (hf : Fr TW H H') (hk : LL (Value.int .i64) H' TW' vw' M) (hB : ∀ b, TW' b → TW b ∨ H.size ≤ b) :
  okW H' ⟨s, 3, none⟩ ∧ SsP (hset H' ⟨s, 3, none⟩ vw') s (extC col H.size H'.size 5) S S' N L M f T x cx TA va TW' vw' ∧ Nx col (extC col H.size H'.size 5) H (hset H' ⟨s, 3, none⟩ vw') := by
 have hsz : (hset H' ⟨s, 3, none⟩ vw').size = H'.size := hset_size ..
 have hb := h.b.frame hf fun e => by have := h.cw s e; rw [h.cs] at this; cases this
 have hf2 : Fr (fun b => TW b ∨ b = s) H (hset H' ⟨s, 3, none⟩ vw') := Fr.set (S := fun b => TW b ∨ b = s) (a := ⟨s, 3, none⟩) (hf.mono fun b _ h => .inl h) (.inl (.inr rfl)) _
 have hne : ∀ b, col b ≠ 5 → col b ≠ 1 → ¬ (TW b ∨ b = s) := by
  rintro b h4 h1 (e | rfl)
  ·exact h4 (h.cw b e)
  ·exact h1 h.cs
 have hBn : ∀ b, TW' b → extC col H.size H'.size 5 b = 5 := fun b hb => by
  rcases hB b hb with e | e
  ·exact h.old (h.cw b e) (by decide)
  ·exact extC_new e (hk.lt hb)
 have hcs := h.old (n' := H'.size) (k := 5) h.cs (by decide)
 have hnx : Nx col (extC col H.size H'.size 5) H (hset H' ⟨s, 3, none⟩ vw') := by
  rw [← hsz]
  refine Nx.ext hf2 ?_
  rintro b (e | rfl)
  ·rw [h.cw b e]; decide
  ·rw [h.cs]; decide
 refine ⟨hb.okW (by simp), ⟨hb.set_same 3 vw', h.fo.frame hf2 fun b hb => hne b (by rw [h.cf b hb]; decide) (by rw [h.cf b hb]; decide), h.dc.grow hf2 fun b hb => hne b (by rw [h.cd b hb]; decide) (by rw [h.cd b hb]; decide),
  h.la.frame hf2 fun b hb => hne b (by rw [h.ca b hb]; decide) (by rw [h.ca b hb]; decide), hk.frame (Fr.set (S := (· = s)) (a := ⟨s, 3, none⟩) (Fr.refl _ H') (.inl rfl) _) (fun b hb' e => ?_),
  hcs, fun b hb => h.old (h.cf b hb) (by decide), fun b hb => h.old (h.cd b hb) (by decide), fun b hb => h.old (h.ca b hb) (by decide), hBn, fun b hb => by rw [hsz]; exact extC_lt hf.size hb⟩, hnx⟩
 have := hBn b hb'
 rw [e, hcs] at this
 cases this
def SsS (H : Heap) (s : Nat) (col : Nat → Nat) (S : Sq) (N : Nat) : Prop :=
 ∃ L f T x cx TA va TW vw, SsP H s col S S N L L f T x cx TA va TW vw ∧ L.length ≤ 30 ∧ ∀ (j : Nat) xs, L[j]? = some xs → xs.length ≤ 5000
theorem SsS.grow {H' : Heap} {Q : Nat → Prop} (h : SsS H s col S N) (hf : Fr Q H H') (hS : ∀ b, col b ≠ 0 → ¬ Q b) : SsS H' s col S N := by
 obtain ⟨L, f, T, x, cx, TA, va, TW, vw, P, h⟩ := h
 exact ⟨L, f, T, x, cx, TA, va, TW, vw, P.grow hf hS, h⟩
theorem SsS.lt (h : SsS H s col S N) {b : Nat} (hb : col b ≠ 0) : b < H.size := by
 obtain ⟨L, f, T, x, cx, TA, va, TW, vw, P, h⟩ := h
 exact P.lt b hb
theorem SsS.more {M : Nat} (h : SsS H s col S N) (hN : N ≤ M) : SsS H s col S M := by
 obtain ⟨L, f, T, x, cx, TA, va, TW, vw, P, h⟩ := h
 exact ⟨L, f, T, x, cx, TA, va, TW, vw, { P with dc := P.dc.more hN }, h⟩
end
end Go.Proofs.Ytndkbhlfbeiniaa
