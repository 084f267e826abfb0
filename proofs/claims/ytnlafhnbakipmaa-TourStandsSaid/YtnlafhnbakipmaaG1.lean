/-
  Splay forests in memory: hang, side, turn.
  Splay forests in memory: splay.
  Trees of a splay forest, plain: what is kept at each node, and what turns do to it.
  What a turn does, handle by handle.
  A turn in a tree.
  Steps of a splay in a tree: the node comes up, what stands in order stays.
  Splay forests as sequences: splay.
  Splay forests as sequences: what only asks.
  Splay forests as sequences: Get, Rank.
  Splay forests as sequences: what changes: Split.
-/
import Derived.Test.YtnlafhnbakipmaaG0
import Derived.Test.YtnlafhnbakipmaaHpE
namespace Go.Proofs.Ytnlafhnbakipmaa
open Go Go.Hp Go.Sp
set_option linter.all false
set_option maxRecDepth 100000
set_option maxHeartbeats 1600000

section
variable {H H' : Heap} {f p g : Nat} {A : Ar} {nb : Nat → Nat} {N : Nodes}
theorem FAt.kid (hF : FAt H f p g A nb N) {k s x : Nat} (hk : U A k) (hs : s = 0 ∨ s = 1) (hx : x = 0 ∨ U A x) :
  okW H ⟨nb k, 4 + s, none⟩ ∧ FAt (hset H ⟨nb k, 4 + s, none⟩ (.int .i64 x)) f p g A nb (upd N k ((N k).setKid s x)) ∧ Fr (NB A nb) H (hset H ⟨nb k, 4 + s, none⟩ (.int .i64 x)) := by
 have hn := hF.nd k hk
 have hfr : Fr (· = nb k) H (hset H ⟨nb k, 4 + s, none⟩ (.int .i64 x)) := Fr.set (S := (· = nb k)) (a := ⟨nb k, 4 + s, none⟩) (Fr.refl _ _) (.inl rfl) _
 refine ⟨hn.okW (by rcases hs with rfl | rfl <;> simp [Rec.cells]), hF.set hk hfr ?_ (hF.cl.setKid hk hx), NB.of hk hfr⟩
 rcases hs with rfl | rfl
 ·exact hn.set_same 4 _
 ·exact hn.set_same 5 _
theorem FAt.setUp (hF : FAt H f p g A nb N) {k x : Nat} (hk : U A k) (hx : x = 0 ∨ U A x) :
  okW H ⟨nb k, 3, none⟩ ∧ FAt (hset H ⟨nb k, 3, none⟩ (.int .i64 x)) f p g A nb (setUp N k x) ∧ Fr (NB A nb) H (hset H ⟨nb k, 3, none⟩ (.int .i64 x)) := by
 have hn := hF.nd k hk
 have hfr : Fr (· = nb k) H (hset H ⟨nb k, 3, none⟩ (.int .i64 x)) := Fr.set (S := (· = nb k)) (a := ⟨nb k, 3, none⟩) (Fr.refl _ _) (.inl rfl) _
 exact ⟨hn.okW (by simp [Rec.cells]), hF.set hk hfr (hn.set_same 3 _) (hF.cl.setUp hk hx), NB.of hk hfr⟩
theorem hang_ok {K : Value → Heap → Prop} (hF : FAt H f p g A nb N) {k s x : Nat} (hk : U A k) (hs : s = 0 ∨ s = 1) (hx : x = 0 ∨ U A x) (fin : ∀ H', FAt H' f p g A nb (hangN N k s x) → Fr (NB A nb) H H' → K (.tuple #[]) H') :
  CallsH Try.prog 73 #[.pointer (some ⟨f, 0, none⟩), .int .i64 k, .int .i64 s, .int .i64 x] H K := by
 obtain ⟨w1, hF1, hf1⟩ := hF.kid hk hs hx
 have t1 : (s < 2) = True := by simp; omega
 have ts : ((s : Int) < 2) = True := by simp; omega
 refine call73 (by simp) ?_
 simp only [Try.f73, Option.getD_some]
 repeat' (first|(with_reducible first|refine jA ?_|(refine hK _ _ ?_;clear hK K)|refine jJ fun K hK=>?_|refine jK ?_|refine jL ?_|refine jM ?_|refine jN ?_|refine jO ?_|refine jP ?_|refine jQ ?_|(refine jB ?_;clear hK K)|(refine jC ?_;clear hK K)|refine jD ?_|refine jE ?_|refine jG ?_|refine jH ?_|refine jI ?_)|((with_reducible refine jR ?hq ?_);case hq=>rfl)|((first|(with_reducible first|refine jS fun K hK=>?_|refine jT ?_|refine jU ?_)|((with_reducible refine jV ?hy fun K hK=>?_);case hy=>rfl));simp only [go_sem, Nat.reduceEqDiff, Nat.reduceAdd, Nat.reduceMul, Nat.reduceLeDiff, Nat.reduceLT, Int.reduceLT, Int.reduceLE, Int.reduceEq, Int.reduceNeg, Int.reduceToNat, Nat.reducePow, reduceIte, reduceCtorEq])|((with_reducible first|refine jW ?hy ?_|refine jY ?hy ?_);case hy=>rfl)|((with_reducible first|refine jX ?hy ?_|refine jZ ?hy ?_);case hy=>rfl)|((with_reducible refine jF ?hy ?_);case hy=>decide))
 refine node_ok hF hk ?_
 by_cases h0 : x = 0
 ·subst h0
  have e : hangN N k s 0 = upd N k ((N k).setKid s 0) := if_pos rfl
  rw [e] at fin
  have t2 : (((0 : Nat) : Int) != 0) = false := rfl
  repeat' (first|(with_reducible first|refine jA ?_|(refine hK _ _ ?_;clear hK K)|refine jJ fun K hK=>?_|refine jK ?_|refine jL ?_|refine jM ?_|refine jN ?_|refine jO ?_|refine jP ?_|refine jQ ?_|(refine jB ?_;clear hK K)|(refine jC ?_;clear hK K)|refine jD ?_|refine jE ?_|refine jG ?_|refine jH ?_|refine jI ?_)|((with_reducible refine jR ?hq ?_);case hq=>rfl)|((first|(with_reducible first|refine jS fun K hK=>?_|refine jT ?_|refine jU ?_)|((with_reducible refine jV ?hy fun K hK=>?_);case hy=>rfl));simp only [go_sem, Nat.reduceEqDiff, Nat.reduceAdd, Nat.reduceMul, Nat.reduceLeDiff, Nat.reduceLT, Int.reduceLT, Int.reduceLE, Int.reduceEq, Int.reduceNeg, Int.reduceToNat, Nat.reducePow, reduceIte, reduceCtorEq, t1, ts, w1, t2])|((with_reducible first|refine jW ?hy ?_|refine jY ?hy ?_);case hy=>rfl)|((with_reducible first|refine jX ?hy ?_|refine jZ ?hy ?_);case hy=>rfl)|((with_reducible refine jF ?hy ?_);case hy=>decide))
  exact fin _ hF1 hf1
 ·have hU := hx.resolve_left h0
  have e : hangN N k s x = setUp (upd N k ((N k).setKid s x)) x k := if_neg h0
  rw [e] at fin
  have t2 : ((x : Int) != 0) = true := by simp [h0]
  repeat' (first|(with_reducible first|refine jA ?_|(refine hK _ _ ?_;clear hK K)|refine jJ fun K hK=>?_|refine jK ?_|refine jL ?_|refine jM ?_|refine jN ?_|refine jO ?_|refine jP ?_|refine jQ ?_|(refine jB ?_;clear hK K)|(refine jC ?_;clear hK K)|refine jD ?_|refine jE ?_|refine jG ?_|refine jH ?_|refine jI ?_)|((with_reducible refine jR ?hq ?_);case hq=>rfl)|((first|(with_reducible first|refine jS fun K hK=>?_|refine jT ?_|refine jU ?_)|((with_reducible refine jV ?hy fun K hK=>?_);case hy=>rfl));simp only [go_sem, Nat.reduceEqDiff, Nat.reduceAdd, Nat.reduceMul, Nat.reduceLeDiff, Nat.reduceLT, Int.reduceLT, Int.reduceLE, Int.reduceEq, Int.reduceNeg, Int.reduceToNat, Nat.reducePow, reduceIte, reduceCtorEq, t1, ts, w1, t2])|((with_reducible first|refine jW ?hy ?_|refine jY ?hy ?_);case hy=>rfl)|((with_reducible first|refine jX ?hy ?_|refine jZ ?hy ?_);case hy=>rfl)|((with_reducible refine jF ?hy ?_);case hy=>decide))
  refine node_ok hF1 hU ?_
  obtain ⟨w2, hF2, hf2⟩ := hF1.setUp hU (.inr hk)
  repeat' (first|(with_reducible first|refine jA ?_|(refine hK _ _ ?_;clear hK K)|refine jJ fun K hK=>?_|refine jK ?_|refine jL ?_|refine jM ?_|refine jN ?_|refine jO ?_|refine jP ?_|refine jQ ?_|(refine jB ?_;clear hK K)|(refine jC ?_;clear hK K)|refine jD ?_|refine jE ?_|refine jG ?_|refine jH ?_|refine jI ?_)|((with_reducible refine jR ?hq ?_);case hq=>rfl)|((first|(with_reducible first|refine jS fun K hK=>?_|refine jT ?_|refine jU ?_)|((with_reducible refine jV ?hy fun K hK=>?_);case hy=>rfl));simp only [go_sem, Nat.reduceEqDiff, Nat.reduceAdd, Nat.reduceMul, Nat.reduceLeDiff, Nat.reduceLT, Int.reduceLT, Int.reduceLE, Int.reduceEq, Int.reduceNeg, Int.reduceToNat, Nat.reducePow, reduceIte, reduceCtorEq, w2])|((with_reducible first|refine jW ?hy ?_|refine jY ?hy ?_);case hy=>rfl)|((with_reducible first|refine jX ?hy ?_|refine jZ ?hy ?_);case hy=>rfl)|((with_reducible refine jF ?hy ?_);case hy=>decide))
  exact fin _ hF2 (hf1.trans hf2)
theorem side_ok {K : Value → Heap → Prop} (hF : FAt H f p g A nb N) {k x : Nat} (hk : U A k) (fin : K (.int .i64 (sideN N k x)) H) :
  CallsH Try.prog 90 #[.pointer (some ⟨f, 0, none⟩), .int .i64 k, .int .i64 x] H K := by
 have hn := hF.nd k hk
 have c5 := hn.cellOf (i := 5) rfl
 refine call90 (by simp) ?_
 simp only [Try.f90, Option.getD_some]
 repeat' (first|(with_reducible first|refine jA ?_|(refine hK _ _ ?_;clear hK K)|refine jJ fun K hK=>?_|refine jK ?_|refine jL ?_|refine jM ?_|refine jN ?_|refine jO ?_|refine jP ?_|refine jQ ?_|(refine jB ?_;clear hK K)|(refine jC ?_;clear hK K)|refine jD ?_|refine jE ?_|refine jG ?_|refine jH ?_|refine jI ?_)|((with_reducible refine jR ?hq ?_);case hq=>rfl)|((first|(with_reducible first|refine jS fun K hK=>?_|refine jT ?_|refine jU ?_)|((with_reducible refine jV ?hy fun K hK=>?_);case hy=>rfl));simp only [go_sem, Nat.reduceEqDiff, Nat.reduceAdd, Nat.reduceMul, Nat.reduceLeDiff, Nat.reduceLT, Int.reduceLT, Int.reduceLE, Int.reduceEq, Int.reduceNeg, Int.reduceToNat, Nat.reducePow, reduceIte, reduceCtorEq])|((with_reducible first|refine jW ?hy ?_|refine jY ?hy ?_);case hy=>rfl)|((with_reducible first|refine jX ?hy ?_|refine jZ ?hy ?_);case hy=>rfl)|((with_reducible refine jF ?hy ?_);case hy=>decide))
 refine node_ok hF hk ?_
 by_cases h : (N k).r = x
 ·have e : sideN N k x = 1 := if_pos h
  rw [e] at fin
  have t1 : (((N k).r : Int) == (x : Int)) = true := by simp [h]
  repeat' (first|(with_reducible first|refine jA ?_|(refine hK _ _ ?_;clear hK K)|refine jJ fun K hK=>?_|refine jK ?_|refine jL ?_|refine jM ?_|refine jN ?_|refine jO ?_|refine jP ?_|refine jQ ?_|(refine jB ?_;clear hK K)|(refine jC ?_;clear hK K)|refine jD ?_|refine jE ?_|refine jG ?_|refine jH ?_|refine jI ?_)|((with_reducible refine jR ?hq ?_);case hq=>rfl)|((first|(with_reducible first|refine jS fun K hK=>?_|refine jT ?_|refine jU ?_)|((with_reducible refine jV ?hy fun K hK=>?_);case hy=>rfl));simp only [go_sem, Nat.reduceEqDiff, Nat.reduceAdd, Nat.reduceMul, Nat.reduceLeDiff, Nat.reduceLT, Int.reduceLT, Int.reduceLE, Int.reduceEq, Int.reduceNeg, Int.reduceToNat, Nat.reducePow, reduceIte, reduceCtorEq, c5, t1])|((with_reducible first|refine jW ?hy ?_|refine jY ?hy ?_);case hy=>rfl)|((with_reducible first|refine jX ?hy ?_|refine jZ ?hy ?_);case hy=>rfl)|((with_reducible refine jF ?hy ?_);case hy=>decide))
  exact fin
 ·have e : sideN N k x = 0 := if_neg h
  rw [e] at fin
  have t1 : (((N k).r : Int) == (x : Int)) = false := by simp; omega
  repeat' (first|(with_reducible first|refine jA ?_|(refine hK _ _ ?_;clear hK K)|refine jJ fun K hK=>?_|refine jK ?_|refine jL ?_|refine jM ?_|refine jN ?_|refine jO ?_|refine jP ?_|refine jQ ?_|(refine jB ?_;clear hK K)|(refine jC ?_;clear hK K)|refine jD ?_|refine jE ?_|refine jG ?_|refine jH ?_|refine jI ?_)|((with_reducible refine jR ?hq ?_);case hq=>rfl)|((first|(with_reducible first|refine jS fun K hK=>?_|refine jT ?_|refine jU ?_)|((with_reducible refine jV ?hy fun K hK=>?_);case hy=>rfl));simp only [go_sem, Nat.reduceEqDiff, Nat.reduceAdd, Nat.reduceMul, Nat.reduceLeDiff, Nat.reduceLT, Int.reduceLT, Int.reduceLE, Int.reduceEq, Int.reduceNeg, Int.reduceToNat, Nat.reducePow, reduceIte, reduceCtorEq, c5, t1])|((with_reducible first|refine jW ?hy ?_|refine jY ?hy ?_);case hy=>rfl)|((with_reducible first|refine jX ?hy ?_|refine jZ ?hy ?_);case hy=>rfl)|((with_reducible refine jF ?hy ?_);case hy=>decide))
  exact fin
theorem sideN_two (N : Nodes) (k x : Nat) : sideN N k x = 0 ∨ sideN N k x = 1 := by
 unfold sideN
 split
 ·exact .inr rfl
 ·exact .inl rfl
theorem turn_ok {K : Value → Heap → Prop} (hF : FAt H f p g A nb N) {k : Nat} (hk : U A k) (hu : U A (N k).up) (fin : ∀ H', FAt H' f p g A nb (turnN N k) → Fr (NB A nb) H H' → K (.tuple #[]) H') :
  CallsH Try.prog 91 #[.pointer (some ⟨f, 0, none⟩), .int .i64 k] H K := by
 have hn := hF.nd k hk
 have hnu := hF.nd _ hu
 have c3 := hn.cellOf (i := 3) rfl
 have u3 := hnu.cellOf (i := 3) rfl
 have htop := hF.cl.up _ hu
 obtain ⟨s, es⟩ : ∃ s, s = sideN N (N k).up k := ⟨_, rfl⟩
 have hs : s = 0 ∨ s = 1 := by rw [es]; exact sideN_two _ _ _
 have ck : hcell H ⟨nb k, 4 + (1 - s), none⟩ = some (.int .i64 ((N k).kid (1 - s))) := by
  rcases hs with h | h <;> rw [h]
  ·exact hn.cellOf (i := 5) rfl
  ·exact hn.cellOf (i := 4) rfl
 have hs1 : 1 - s = 0 ∨ 1 - s = 1 := by omega
 have ews : IntKind.i64.wrap (1 - (s : Int)) = ((1 - s : Nat) : Int) := by rw [wrap_i64] <;> omega
 have t1 : (1 - s < 2) = True := by simp; omega
 have ts : (((1 - s : Nat) : Int) < 2) = True := by simp; omega
 have ek : turnN N k = pullN (pullN (hangN (setUp (turn2 (hangN N (N k).up s ((N k).kid (1 - s))) (N (N k).up).up (N k).up k) k (N (N k).up).up) k (1 - s) (N k).up) (N k).up) k := by rw [es]; rfl
 rw [ek] at fin
 refine call91 (by simp) ?_
 simp only [Try.f91, Option.getD_some]
 repeat' (first|(with_reducible first|refine jA ?_|(refine hK _ _ ?_;clear hK K)|refine jJ fun K hK=>?_|refine jK ?_|refine jL ?_|refine jM ?_|refine jN ?_|refine jO ?_|refine jP ?_|refine jQ ?_|(refine jB ?_;clear hK K)|(refine jC ?_;clear hK K)|refine jD ?_|refine jE ?_|refine jG ?_|refine jH ?_|refine jI ?_)|((with_reducible refine jR ?hq ?_);case hq=>rfl)|((first|(with_reducible first|refine jS fun K hK=>?_|refine jT ?_|refine jU ?_)|((with_reducible refine jV ?hy fun K hK=>?_);case hy=>rfl));simp only [go_sem, Nat.reduceEqDiff, Nat.reduceAdd, Nat.reduceMul, Nat.reduceLeDiff, Nat.reduceLT, Int.reduceLT, Int.reduceLE, Int.reduceEq, Int.reduceNeg, Int.reduceToNat, Nat.reducePow, reduceIte, reduceCtorEq])|((with_reducible first|refine jW ?hy ?_|refine jY ?hy ?_);case hy=>rfl)|((with_reducible first|refine jX ?hy ?_|refine jZ ?hy ?_);case hy=>rfl)|((with_reducible refine jF ?hy ?_);case hy=>decide))
 refine node_ok hF hk ?_
 repeat' (first|(with_reducible first|refine jA ?_|(refine hK _ _ ?_;clear hK K)|refine jJ fun K hK=>?_|refine jK ?_|refine jL ?_|refine jM ?_|refine jN ?_|refine jO ?_|refine jP ?_|refine jQ ?_|(refine jB ?_;clear hK K)|(refine jC ?_;clear hK K)|refine jD ?_|refine jE ?_|refine jG ?_|refine jH ?_|refine jI ?_)|((with_reducible refine jR ?hq ?_);case hq=>rfl)|((first|(with_reducible first|refine jS fun K hK=>?_|refine jT ?_|refine jU ?_)|((with_reducible refine jV ?hy fun K hK=>?_);case hy=>rfl));simp only [go_sem, Nat.reduceEqDiff, Nat.reduceAdd, Nat.reduceMul, Nat.reduceLeDiff, Nat.reduceLT, Int.reduceLT, Int.reduceLE, Int.reduceEq, Int.reduceNeg, Int.reduceToNat, Nat.reducePow, reduceIte, reduceCtorEq, c3])|((with_reducible first|refine jW ?hy ?_|refine jY ?hy ?_);case hy=>rfl)|((with_reducible first|refine jX ?hy ?_|refine jZ ?hy ?_);case hy=>rfl)|((with_reducible refine jF ?hy ?_);case hy=>decide))
 refine node_ok hF hu ?_
 repeat' (first|(with_reducible first|refine jA ?_|(refine hK _ _ ?_;clear hK K)|refine jJ fun K hK=>?_|refine jK ?_|refine jL ?_|refine jM ?_|refine jN ?_|refine jO ?_|refine jP ?_|refine jQ ?_|(refine jB ?_;clear hK K)|(refine jC ?_;clear hK K)|refine jD ?_|refine jE ?_|refine jG ?_|refine jH ?_|refine jI ?_)|((with_reducible refine jR ?hq ?_);case hq=>rfl)|((first|(with_reducible first|refine jS fun K hK=>?_|refine jT ?_|refine jU ?_)|((with_reducible refine jV ?hy fun K hK=>?_);case hy=>rfl));simp only [go_sem, Nat.reduceEqDiff, Nat.reduceAdd, Nat.reduceMul, Nat.reduceLeDiff, Nat.reduceLT, Int.reduceLT, Int.reduceLE, Int.reduceEq, Int.reduceNeg, Int.reduceToNat, Nat.reducePow, reduceIte, reduceCtorEq, u3])|((with_reducible first|refine jW ?hy ?_|refine jY ?hy ?_);case hy=>rfl)|((with_reducible first|refine jX ?hy ?_|refine jZ ?hy ?_);case hy=>rfl)|((with_reducible refine jF ?hy ?_);case hy=>decide))
 refine side_ok hF hu ?_
 rw [← es]
 repeat' (first|(with_reducible first|refine jA ?_|(refine hK _ _ ?_;clear hK K)|refine jJ fun K hK=>?_|refine jK ?_|refine jL ?_|refine jM ?_|refine jN ?_|refine jO ?_|refine jP ?_|refine jQ ?_|(refine jB ?_;clear hK K)|(refine jC ?_;clear hK K)|refine jD ?_|refine jE ?_|refine jG ?_|refine jH ?_|refine jI ?_)|((with_reducible refine jR ?hq ?_);case hq=>rfl)|((first|(with_reducible first|refine jS fun K hK=>?_|refine jT ?_|refine jU ?_)|((with_reducible refine jV ?hy fun K hK=>?_);case hy=>rfl));simp only [go_sem, Nat.reduceEqDiff, Nat.reduceAdd, Nat.reduceMul, Nat.reduceLeDiff, Nat.reduceLT, Int.reduceLT, Int.reduceLE, Int.reduceEq, Int.reduceNeg, Int.reduceToNat, Nat.reducePow, reduceIte, reduceCtorEq, ews, t1, ts, ck])|((with_reducible first|refine jW ?hy ?_|refine jY ?hy ?_);case hy=>rfl)|((with_reducible first|refine jX ?hy ?_|refine jZ ?hy ?_);case hy=>rfl)|((with_reducible refine jF ?hy ?_);case hy=>decide))
 refine hang_ok hF hu hs (hF.cl.kid hk) ?_
 intro H1 hF1 hf1
 by_cases h0 : (N (N k).up).up = 0
 ·have t2 : (((N (N k).up).up : Int) != 0) = false := by simp [h0]
  have e2 : turn2 (hangN N (N k).up s ((N k).kid (1 - s))) (N (N k).up).up (N k).up k = hangN N (N k).up s ((N k).kid (1 - s)) := if_pos h0
  rw [e2] at fin
  obtain ⟨w3, hF3, hf3⟩ := hF1.setUp hk htop
  repeat' (first|(with_reducible first|refine jA ?_|(refine hK _ _ ?_;clear hK K)|refine jJ fun K hK=>?_|refine jK ?_|refine jL ?_|refine jM ?_|refine jN ?_|refine jO ?_|refine jP ?_|refine jQ ?_|(refine jB ?_;clear hK K)|(refine jC ?_;clear hK K)|refine jD ?_|refine jE ?_|refine jG ?_|refine jH ?_|refine jI ?_)|((with_reducible refine jR ?hq ?_);case hq=>rfl)|((first|(with_reducible first|refine jS fun K hK=>?_|refine jT ?_|refine jU ?_)|((with_reducible refine jV ?hy fun K hK=>?_);case hy=>rfl));simp only [go_sem, Nat.reduceEqDiff, Nat.reduceAdd, Nat.reduceMul, Nat.reduceLeDiff, Nat.reduceLT, Int.reduceLT, Int.reduceLE, Int.reduceEq, Int.reduceNeg, Int.reduceToNat, Nat.reducePow, reduceIte, reduceCtorEq, t2, w3, ews, t1, ts])|((with_reducible first|refine jW ?hy ?_|refine jY ?hy ?_);case hy=>rfl)|((with_reducible first|refine jX ?hy ?_|refine jZ ?hy ?_);case hy=>rfl)|((with_reducible refine jF ?hy ?_);case hy=>decide))
  refine hang_ok hF3 hk hs1 (.inr hu) ?_
  intro H4 hF4 hf4
  repeat' (first|(with_reducible first|refine jA ?_|(refine hK _ _ ?_;clear hK K)|refine jJ fun K hK=>?_|refine jK ?_|refine jL ?_|refine jM ?_|refine jN ?_|refine jO ?_|refine jP ?_|refine jQ ?_|(refine jB ?_;clear hK K)|(refine jC ?_;clear hK K)|refine jD ?_|refine jE ?_|refine jG ?_|refine jH ?_|refine jI ?_)|((with_reducible refine jR ?hq ?_);case hq=>rfl)|((first|(with_reducible first|refine jS fun K hK=>?_|refine jT ?_|refine jU ?_)|((with_reducible refine jV ?hy fun K hK=>?_);case hy=>rfl));simp only [go_sem, Nat.reduceEqDiff, Nat.reduceAdd, Nat.reduceMul, Nat.reduceLeDiff, Nat.reduceLT, Int.reduceLT, Int.reduceLE, Int.reduceEq, Int.reduceNeg, Int.reduceToNat, Nat.reducePow, reduceIte, reduceCtorEq])|((with_reducible first|refine jW ?hy ?_|refine jY ?hy ?_);case hy=>rfl)|((with_reducible first|refine jX ?hy ?_|refine jZ ?hy ?_);case hy=>rfl)|((with_reducible refine jF ?hy ?_);case hy=>decide))
  refine pull_ok hF4 hu ?_
  intro H5 hF5 hf5
  repeat' (first|(with_reducible first|refine jA ?_|(refine hK _ _ ?_;clear hK K)|refine jJ fun K hK=>?_|refine jK ?_|refine jL ?_|refine jM ?_|refine jN ?_|refine jO ?_|refine jP ?_|refine jQ ?_|(refine jB ?_;clear hK K)|(refine jC ?_;clear hK K)|refine jD ?_|refine jE ?_|refine jG ?_|refine jH ?_|refine jI ?_)|((with_reducible refine jR ?hq ?_);case hq=>rfl)|((first|(with_reducible first|refine jS fun K hK=>?_|refine jT ?_|refine jU ?_)|((with_reducible refine jV ?hy fun K hK=>?_);case hy=>rfl));simp only [go_sem, Nat.reduceEqDiff, Nat.reduceAdd, Nat.reduceMul, Nat.reduceLeDiff, Nat.reduceLT, Int.reduceLT, Int.reduceLE, Int.reduceEq, Int.reduceNeg, Int.reduceToNat, Nat.reducePow, reduceIte, reduceCtorEq])|((with_reducible first|refine jW ?hy ?_|refine jY ?hy ?_);case hy=>rfl)|((with_reducible first|refine jX ?hy ?_|refine jZ ?hy ?_);case hy=>rfl)|((with_reducible refine jF ?hy ?_);case hy=>decide))
  refine pull_ok hF5 hk ?_
  intro H6 hF6 hf6
  repeat' (first|(with_reducible first|refine jA ?_|(refine hK _ _ ?_;clear hK K)|refine jJ fun K hK=>?_|refine jK ?_|refine jL ?_|refine jM ?_|refine jN ?_|refine jO ?_|refine jP ?_|refine jQ ?_|(refine jB ?_;clear hK K)|(refine jC ?_;clear hK K)|refine jD ?_|refine jE ?_|refine jG ?_|refine jH ?_|refine jI ?_)|((with_reducible refine jR ?hq ?_);case hq=>rfl)|((first|(with_reducible first|refine jS fun K hK=>?_|refine jT ?_|refine jU ?_)|((with_reducible refine jV ?hy fun K hK=>?_);case hy=>rfl));simp only [go_sem, Nat.reduceEqDiff, Nat.reduceAdd, Nat.reduceMul, Nat.reduceLeDiff, Nat.reduceLT, Int.reduceLT, Int.reduceLE, Int.reduceEq, Int.reduceNeg, Int.reduceToNat, Nat.reducePow, reduceIte, reduceCtorEq])|((with_reducible first|refine jW ?hy ?_|refine jY ?hy ?_);case hy=>rfl)|((with_reducible first|refine jX ?hy ?_|refine jZ ?hy ?_);case hy=>rfl)|((with_reducible refine jF ?hy ?_);case hy=>decide))
  exact fin _ hF6 ((((hf1.trans hf3).trans hf4).trans hf5).trans hf6)
 ·have t2 : (((N (N k).up).up : Int) != 0) = true := by simp [h0]
  have hut := htop.resolve_left h0
  obtain ⟨s2, es2⟩ : ∃ s2, s2 = sideN (hangN N (N k).up s ((N k).kid (1 - s))) (N (N k).up).up (N k).up := ⟨_, rfl⟩
  have hs2 : s2 = 0 ∨ s2 = 1 := by rw [es2]; exact sideN_two _ _ _
  have e2 : turn2 (hangN N (N k).up s ((N k).kid (1 - s))) (N (N k).up).up (N k).up k = upd (hangN N (N k).up s ((N k).kid (1 - s))) (N (N k).up).up ((hangN N (N k).up s ((N k).kid (1 - s)) (N (N k).up).up).setKid s2 k) := by rw [es2]; exact if_neg h0
  rw [e2] at fin
  obtain ⟨w2, hF2, hf2⟩ := hF1.kid hut hs2 (.inr hk)
  obtain ⟨w3, hF3, hf3⟩ := hF2.setUp hk htop
  have t3 : (s2 < 2) = True := by simp; omega
  have ts3 : ((s2 : Int) < 2) = True := by simp; omega
  repeat' (first|(with_reducible first|refine jA ?_|(refine hK _ _ ?_;clear hK K)|refine jJ fun K hK=>?_|refine jK ?_|refine jL ?_|refine jM ?_|refine jN ?_|refine jO ?_|refine jP ?_|refine jQ ?_|(refine jB ?_;clear hK K)|(refine jC ?_;clear hK K)|refine jD ?_|refine jE ?_|refine jG ?_|refine jH ?_|refine jI ?_)|((with_reducible refine jR ?hq ?_);case hq=>rfl)|((first|(with_reducible first|refine jS fun K hK=>?_|refine jT ?_|refine jU ?_)|((with_reducible refine jV ?hy fun K hK=>?_);case hy=>rfl));simp only [go_sem, Nat.reduceEqDiff, Nat.reduceAdd, Nat.reduceMul, Nat.reduceLeDiff, Nat.reduceLT, Int.reduceLT, Int.reduceLE, Int.reduceEq, Int.reduceNeg, Int.reduceToNat, Nat.reducePow, reduceIte, reduceCtorEq, t2])|((with_reducible first|refine jW ?hy ?_|refine jY ?hy ?_);case hy=>rfl)|((with_reducible first|refine jX ?hy ?_|refine jZ ?hy ?_);case hy=>rfl)|((with_reducible refine jF ?hy ?_);case hy=>decide))
  refine x_drawS [] [0, 1, 3, 4, 5, 7, 2, 8, 9, 6, 10, 11] rfl (by kernel_rfl) (Cells []) trivial ?_
  repeat' (first|(with_reducible refine xs_nil ?_)|((first|((with_reducible apply xs_rd);case hi=>rfl)|((with_reducible apply xs_guard_yes);(case hi=>rfl);(case hy=>rfl)));(case hr=>rfl);(case h1=>intro H' hS'; (try simp only [Cells, and_true] at hS');simp only [go_sem, Nat.reduceEqDiff, Nat.reduceAdd, Nat.reduceMul, Nat.reduceLeDiff, Nat.reduceLT, Int.reduceLT, Int.reduceLE, Int.reduceEq, Int.reduceNeg, Int.reduceToNat, Nat.reducePow, reduceIte, reduceCtorEq, hS']; rfl))|((with_reducible refine xs_tail ?hz ?_);case hz=>rfl)|((with_reducible refine xs_keep ?hz ?_);case hz=>first|(with_reducible assumption)|assumption|(simp only [go_sem, Nat.reduceEqDiff, Nat.reduceAdd, Nat.reduceMul, Nat.reduceLeDiff, Nat.reduceLT, Int.reduceLT, Int.reduceLE, Int.reduceEq, Int.reduceNeg, Int.reduceToNat, Nat.reducePow, reduceIte, reduceCtorEq, Cells, and_true]))|((with_reducible apply xs_guard_no);(case hi=>rfl);(case hy=>rfl);(case hS=>assumption))|((first|((with_reducible apply xs_op);(case hi=>rfl))|((with_reducible apply xs_op_yes);(case hi=>rfl);(case hy=>rfl)));(case hr=>rfl);intro K hK; simp only [go_sem, Nat.reduceEqDiff, Nat.reduceAdd, Nat.reduceMul, Nat.reduceLeDiff, Nat.reduceLT, Int.reduceLT, Int.reduceLE, Int.reduceEq, Int.reduceNeg, Int.reduceToNat, Nat.reducePow, reduceIte, reduceCtorEq])|(with_reducible first|refine jA ?_|(refine hK _ _ ?_;clear hK K)|refine jJ fun K hK=>?_|refine jK ?_|refine jL ?_|refine jM ?_|refine jN ?_|refine jO ?_|refine jP ?_|refine jQ ?_|(refine jB ?_;clear hK K)|(refine jC ?_;clear hK K)|refine jD ?_|refine jE ?_|refine jG ?_|refine jH ?_|refine jI ?_)|((with_reducible refine jR ?hq ?_);case hq=>rfl)|((first|(with_reducible first|refine jS fun K hK=>?_|refine jT ?_|refine jU ?_)|((with_reducible refine jV ?hy fun K hK=>?_);case hy=>rfl));simp only [go_sem, Nat.reduceEqDiff, Nat.reduceAdd, Nat.reduceMul, Nat.reduceLeDiff, Nat.reduceLT, Int.reduceLT, Int.reduceLE, Int.reduceEq, Int.reduceNeg, Int.reduceToNat, Nat.reducePow, reduceIte, reduceCtorEq])|((with_reducible first|refine jW ?hy ?_|refine jY ?hy ?_);case hy=>rfl)|((with_reducible first|refine jX ?hy ?_|refine jZ ?hy ?_);case hy=>rfl)|((with_reducible refine jF ?hy ?_);case hy=>decide))
  refine node_ok hF1 hut ?_
  repeat' (first|(with_reducible refine xs_nil ?_)|((first|((with_reducible apply xs_rd);case hi=>rfl)|((with_reducible apply xs_guard_yes);(case hi=>rfl);(case hy=>rfl)));(case hr=>rfl);(case h1=>intro H' hS'; (try simp only [Cells, and_true] at hS');simp only [go_sem, Nat.reduceEqDiff, Nat.reduceAdd, Nat.reduceMul, Nat.reduceLeDiff, Nat.reduceLT, Int.reduceLT, Int.reduceLE, Int.reduceEq, Int.reduceNeg, Int.reduceToNat, Nat.reducePow, reduceIte, reduceCtorEq, hS']; rfl))|((with_reducible refine xs_tail ?hz ?_);case hz=>rfl)|((with_reducible refine xs_keep ?hz ?_);case hz=>first|(with_reducible assumption)|assumption|(simp only [go_sem, Nat.reduceEqDiff, Nat.reduceAdd, Nat.reduceMul, Nat.reduceLeDiff, Nat.reduceLT, Int.reduceLT, Int.reduceLE, Int.reduceEq, Int.reduceNeg, Int.reduceToNat, Nat.reducePow, reduceIte, reduceCtorEq, Cells, and_true]))|((with_reducible apply xs_guard_no);(case hi=>rfl);(case hy=>rfl);(case hS=>assumption))|((first|((with_reducible apply xs_op);(case hi=>rfl))|((with_reducible apply xs_op_yes);(case hi=>rfl);(case hy=>rfl)));(case hr=>rfl);intro K hK; simp only [go_sem, Nat.reduceEqDiff, Nat.reduceAdd, Nat.reduceMul, Nat.reduceLeDiff, Nat.reduceLT, Int.reduceLT, Int.reduceLE, Int.reduceEq, Int.reduceNeg, Int.reduceToNat, Nat.reducePow, reduceIte, reduceCtorEq])|(with_reducible first|refine jA ?_|(refine hK _ _ ?_;clear hK K)|refine jJ fun K hK=>?_|refine jK ?_|refine jL ?_|refine jM ?_|refine jN ?_|refine jO ?_|refine jP ?_|refine jQ ?_|(refine jB ?_;clear hK K)|(refine jC ?_;clear hK K)|refine jD ?_|refine jE ?_|refine jG ?_|refine jH ?_|refine jI ?_)|((with_reducible refine jR ?hq ?_);case hq=>rfl)|((first|(with_reducible first|refine jS fun K hK=>?_|refine jT ?_|refine jU ?_)|((with_reducible refine jV ?hy fun K hK=>?_);case hy=>rfl));simp only [go_sem, Nat.reduceEqDiff, Nat.reduceAdd, Nat.reduceMul, Nat.reduceLeDiff, Nat.reduceLT, Int.reduceLT, Int.reduceLE, Int.reduceEq, Int.reduceNeg, Int.reduceToNat, Nat.reducePow, reduceIte, reduceCtorEq])|((with_reducible first|refine jW ?hy ?_|refine jY ?hy ?_);case hy=>rfl)|((with_reducible first|refine jX ?hy ?_|refine jZ ?hy ?_);case hy=>rfl)|((with_reducible refine jF ?hy ?_);case hy=>decide))
  refine side_ok hF1 hut ?_
  rw [← es2]
  repeat' (first|(with_reducible refine xs_nil ?_)|((first|((with_reducible apply xs_rd);case hi=>rfl)|((with_reducible apply xs_guard_yes);(case hi=>rfl);(case hy=>rfl)));(case hr=>rfl);(case h1=>intro H' hS'; (try simp only [Cells, and_true] at hS');simp only [go_sem, Nat.reduceEqDiff, Nat.reduceAdd, Nat.reduceMul, Nat.reduceLeDiff, Nat.reduceLT, Int.reduceLT, Int.reduceLE, Int.reduceEq, Int.reduceNeg, Int.reduceToNat, Nat.reducePow, reduceIte, reduceCtorEq, t3, ts3, w2, w3, ews, t1, ts, hS']; rfl))|((with_reducible refine xs_tail ?hz ?_);case hz=>rfl)|((with_reducible refine xs_keep ?hz ?_);case hz=>first|(with_reducible assumption)|assumption|(simp only [go_sem, Nat.reduceEqDiff, Nat.reduceAdd, Nat.reduceMul, Nat.reduceLeDiff, Nat.reduceLT, Int.reduceLT, Int.reduceLE, Int.reduceEq, Int.reduceNeg, Int.reduceToNat, Nat.reducePow, reduceIte, reduceCtorEq, Cells, and_true, t3, ts3, w2, w3, ews, t1, ts]))|((with_reducible apply xs_guard_no);(case hi=>rfl);(case hy=>rfl);(case hS=>assumption))|((first|((with_reducible apply xs_op);(case hi=>rfl))|((with_reducible apply xs_op_yes);(case hi=>rfl);(case hy=>rfl)));(case hr=>rfl);intro K hK; simp only [go_sem, Nat.reduceEqDiff, Nat.reduceAdd, Nat.reduceMul, Nat.reduceLeDiff, Nat.reduceLT, Int.reduceLT, Int.reduceLE, Int.reduceEq, Int.reduceNeg, Int.reduceToNat, Nat.reducePow, reduceIte, reduceCtorEq, t3, ts3, w2, w3, ews, t1, ts])|(with_reducible first|refine jA ?_|(refine hK _ _ ?_;clear hK K)|refine jJ fun K hK=>?_|refine jK ?_|refine jL ?_|refine jM ?_|refine jN ?_|refine jO ?_|refine jP ?_|refine jQ ?_|(refine jB ?_;clear hK K)|(refine jC ?_;clear hK K)|refine jD ?_|refine jE ?_|refine jG ?_|refine jH ?_|refine jI ?_)|((with_reducible refine jR ?hq ?_);case hq=>rfl)|((first|(with_reducible first|refine jS fun K hK=>?_|refine jT ?_|refine jU ?_)|((with_reducible refine jV ?hy fun K hK=>?_);case hy=>rfl));simp only [go_sem, Nat.reduceEqDiff, Nat.reduceAdd, Nat.reduceMul, Nat.reduceLeDiff, Nat.reduceLT, Int.reduceLT, Int.reduceLE, Int.reduceEq, Int.reduceNeg, Int.reduceToNat, Nat.reducePow, reduceIte, reduceCtorEq, t3, ts3, w2, w3, ews, t1, ts])|((with_reducible first|refine jW ?hy ?_|refine jY ?hy ?_);case hy=>rfl)|((with_reducible first|refine jX ?hy ?_|refine jZ ?hy ?_);case hy=>rfl)|((with_reducible refine jF ?hy ?_);case hy=>decide))
  refine hang_ok hF3 hk hs1 (.inr hu) ?_
  intro H4 hF4 hf4
  repeat' (first|(with_reducible first|refine jA ?_|(refine hK _ _ ?_;clear hK K)|refine jJ fun K hK=>?_|refine jK ?_|refine jL ?_|refine jM ?_|refine jN ?_|refine jO ?_|refine jP ?_|refine jQ ?_|(refine jB ?_;clear hK K)|(refine jC ?_;clear hK K)|refine jD ?_|refine jE ?_|refine jG ?_|refine jH ?_|refine jI ?_)|((with_reducible refine jR ?hq ?_);case hq=>rfl)|((first|(with_reducible first|refine jS fun K hK=>?_|refine jT ?_|refine jU ?_)|((with_reducible refine jV ?hy fun K hK=>?_);case hy=>rfl));simp only [go_sem, Nat.reduceEqDiff, Nat.reduceAdd, Nat.reduceMul, Nat.reduceLeDiff, Nat.reduceLT, Int.reduceLT, Int.reduceLE, Int.reduceEq, Int.reduceNeg, Int.reduceToNat, Nat.reducePow, reduceIte, reduceCtorEq])|((with_reducible first|refine jW ?hy ?_|refine jY ?hy ?_);case hy=>rfl)|((with_reducible first|refine jX ?hy ?_|refine jZ ?hy ?_);case hy=>rfl)|((with_reducible refine jF ?hy ?_);case hy=>decide))
  refine pull_ok hF4 hu ?_
  intro H5 hF5 hf5
  repeat' (first|(with_reducible first|refine jA ?_|(refine hK _ _ ?_;clear hK K)|refine jJ fun K hK=>?_|refine jK ?_|refine jL ?_|refine jM ?_|refine jN ?_|refine jO ?_|refine jP ?_|refine jQ ?_|(refine jB ?_;clear hK K)|(refine jC ?_;clear hK K)|refine jD ?_|refine jE ?_|refine jG ?_|refine jH ?_|refine jI ?_)|((with_reducible refine jR ?hq ?_);case hq=>rfl)|((first|(with_reducible first|refine jS fun K hK=>?_|refine jT ?_|refine jU ?_)|((with_reducible refine jV ?hy fun K hK=>?_);case hy=>rfl));simp only [go_sem, Nat.reduceEqDiff, Nat.reduceAdd, Nat.reduceMul, Nat.reduceLeDiff, Nat.reduceLT, Int.reduceLT, Int.reduceLE, Int.reduceEq, Int.reduceNeg, Int.reduceToNat, Nat.reducePow, reduceIte, reduceCtorEq])|((with_reducible first|refine jW ?hy ?_|refine jY ?hy ?_);case hy=>rfl)|((with_reducible first|refine jX ?hy ?_|refine jZ ?hy ?_);case hy=>rfl)|((with_reducible refine jF ?hy ?_);case hy=>decide))
  refine pull_ok hF5 hk ?_
  intro H6 hF6 hf6
  repeat' (first|(with_reducible first|refine jA ?_|(refine hK _ _ ?_;clear hK K)|refine jJ fun K hK=>?_|refine jK ?_|refine jL ?_|refine jM ?_|refine jN ?_|refine jO ?_|refine jP ?_|refine jQ ?_|(refine jB ?_;clear hK K)|(refine jC ?_;clear hK K)|refine jD ?_|refine jE ?_|refine jG ?_|refine jH ?_|refine jI ?_)|((with_reducible refine jR ?hq ?_);case hq=>rfl)|((first|(with_reducible first|refine jS fun K hK=>?_|refine jT ?_|refine jU ?_)|((with_reducible refine jV ?hy fun K hK=>?_);case hy=>rfl));simp only [go_sem, Nat.reduceEqDiff, Nat.reduceAdd, Nat.reduceMul, Nat.reduceLeDiff, Nat.reduceLT, Int.reduceLT, Int.reduceLE, Int.reduceEq, Int.reduceNeg, Int.reduceToNat, Nat.reducePow, reduceIte, reduceCtorEq])|((with_reducible first|refine jW ?hy ?_|refine jY ?hy ?_);case hy=>rfl)|((with_reducible first|refine jX ?hy ?_|refine jZ ?hy ?_);case hy=>rfl)|((with_reducible refine jF ?hy ?_);case hy=>decide))
  exact fin _ hF6 (((((hf1.trans hf2).trans hf3).trans hf4).trans hf5).trans hf6)
end

section
variable {H H' : Heap} {f p g : Nat} {A : Ar} {nb : Nat → Nat} {N : Nodes}
theorem step_ok {K : Value → Heap → Prop} (hF : FAt H f p g A nb N) {k c2 c3 : Nat} (hk : U A k) (hs : stepOk N k) (hc : Cells [(c2, 0, .pointer (some ⟨f, 0, none⟩)), (c3, 0, .int .i64 (k : Nat))] H) (hn2 : ¬ NB A nb c2) (hn3 : ¬ NB A nb c3)
  (fin : ∀ H', FAt H' f p g A nb (stepN N k) → Fr (NB A nb) H H' → K (.tuple #[]) H') :
  CallsH Try.prog 89 #[.int .i64 (N k).up, .int .i64 (N (N k).up).up, .pointer (some ⟨c2, 0, none⟩), .pointer (some ⟨c3, 0, none⟩)] H K := by
 have hu := (hF.cl.up k hk).resolve_left hs.1
 have hcn : ∀ x ∈ [(c2, 0, Value.pointer (some ⟨f, 0, none⟩)), (c3, 0, Value.int .i64 (k : Nat))], ¬ NB A nb x.1 := fun x hx => by
  simp only [List.mem_cons, List.not_mem_nil, or_false] at hx
  rcases hx with rfl | rfl
  ·exact hn2
  ·exact hn3
 have q := hc
 simp only [Cells, and_true] at q
 refine call89 (by simp) ?_
 simp only [Try.f89, Option.getD_some]
 by_cases h0 : (N (N k).up).up = 0
 ·have t1 : (((N (N k).up).up : Int) == 0) = true := by simp [h0]
  have e : stepN N k = turnN N k := if_pos h0
  rw [e] at fin
  repeat' (first|(with_reducible first|refine jA ?_|(refine hK _ _ ?_;clear hK K)|refine jJ fun K hK=>?_|refine jK ?_|refine jL ?_|refine jM ?_|refine jN ?_|refine jO ?_|refine jP ?_|refine jQ ?_|(refine jB ?_;clear hK K)|(refine jC ?_;clear hK K)|refine jD ?_|refine jE ?_|refine jG ?_|refine jH ?_|refine jI ?_)|((with_reducible refine jR ?hq ?_);case hq=>rfl)|((first|(with_reducible first|refine jS fun K hK=>?_|refine jT ?_|refine jU ?_)|((with_reducible refine jV ?hy fun K hK=>?_);case hy=>rfl));simp only [go_sem, Nat.reduceEqDiff, Nat.reduceAdd, Nat.reduceMul, Nat.reduceLeDiff, Nat.reduceLT, Int.reduceLT, Int.reduceLE, Int.reduceEq, Int.reduceNeg, Int.reduceToNat, Nat.reducePow, reduceIte, reduceCtorEq, t1, q])|((with_reducible first|refine jW ?hy ?_|refine jY ?hy ?_);case hy=>rfl)|((with_reducible first|refine jX ?hy ?_|refine jZ ?hy ?_);case hy=>rfl)|((with_reducible refine jF ?hy ?_);case hy=>decide))
  refine turn_ok hF hk hu ?_
  intro H1 hF1 hf1
  repeat' (first|(with_reducible first|refine jA ?_|(refine hK _ _ ?_;clear hK K)|refine jJ fun K hK=>?_|refine jK ?_|refine jL ?_|refine jM ?_|refine jN ?_|refine jO ?_|refine jP ?_|refine jQ ?_|(refine jB ?_;clear hK K)|(refine jC ?_;clear hK K)|refine jD ?_|refine jE ?_|refine jG ?_|refine jH ?_|refine jI ?_)|((with_reducible refine jR ?hq ?_);case hq=>rfl)|((first|(with_reducible first|refine jS fun K hK=>?_|refine jT ?_|refine jU ?_)|((with_reducible refine jV ?hy fun K hK=>?_);case hy=>rfl));simp only [go_sem, Nat.reduceEqDiff, Nat.reduceAdd, Nat.reduceMul, Nat.reduceLeDiff, Nat.reduceLT, Int.reduceLT, Int.reduceLE, Int.reduceEq, Int.reduceNeg, Int.reduceToNat, Nat.reducePow, reduceIte, reduceCtorEq])|((with_reducible first|refine jW ?hy ?_|refine jY ?hy ?_);case hy=>rfl)|((with_reducible first|refine jX ?hy ?_|refine jZ ?hy ?_);case hy=>rfl)|((with_reducible refine jF ?hy ?_);case hy=>decide))
  exact fin _ hF1 hf1
 ·have t1 : (((N (N k).up).up : Int) == 0) = false := by simp [h0]
  have hut := (hF.cl.up _ hu).resolve_left h0
  have e : stepN N k = turnN (first N k) k := by
   unfold stepN first
   rw [if_neg h0]
   split <;> rfl
  rw [e] at fin
  have h2 := hs.2 h0
  repeat' (first|(with_reducible first|refine jA ?_|(refine hK _ _ ?_;clear hK K)|refine jJ fun K hK=>?_|refine jK ?_|refine jL ?_|refine jM ?_|refine jN ?_|refine jO ?_|refine jP ?_|refine jQ ?_|(refine jB ?_;clear hK K)|(refine jC ?_;clear hK K)|refine jD ?_|refine jE ?_|refine jG ?_|refine jH ?_|refine jI ?_)|((with_reducible refine jR ?hq ?_);case hq=>rfl)|((first|(with_reducible first|refine jS fun K hK=>?_|refine jT ?_|refine jU ?_)|((with_reducible refine jV ?hy fun K hK=>?_);case hy=>rfl));simp only [go_sem, Nat.reduceEqDiff, Nat.reduceAdd, Nat.reduceMul, Nat.reduceLeDiff, Nat.reduceLT, Int.reduceLT, Int.reduceLE, Int.reduceEq, Int.reduceNeg, Int.reduceToNat, Nat.reducePow, reduceIte, reduceCtorEq, t1])|((with_reducible first|refine jW ?hy ?_|refine jY ?hy ?_);case hy=>rfl)|((with_reducible first|refine jX ?hy ?_|refine jZ ?hy ?_);case hy=>rfl)|((with_reducible refine jF ?hy ?_);case hy=>decide))
  refine x_drawS [] [0, 1, 2, 4, 5, 6, 3, 7, 8, 9] rfl (by kernel_rfl) (Cells _) hc ?_
  repeat' (first|(with_reducible refine xs_nil ?_)|((first|((with_reducible apply xs_rd);case hi=>rfl)|((with_reducible apply xs_guard_yes);(case hi=>rfl);(case hy=>rfl)));(case hr=>rfl);(case h1=>intro H' hS'; (try simp only [Cells, and_true] at hS');simp only [go_sem, Nat.reduceEqDiff, Nat.reduceAdd, Nat.reduceMul, Nat.reduceLeDiff, Nat.reduceLT, Int.reduceLT, Int.reduceLE, Int.reduceEq, Int.reduceNeg, Int.reduceToNat, Nat.reducePow, reduceIte, reduceCtorEq, hS']; rfl))|((with_reducible refine xs_tail ?hz ?_);case hz=>rfl)|((with_reducible refine xs_keep ?hz ?_);case hz=>first|(with_reducible assumption)|assumption|(simp only [go_sem, Nat.reduceEqDiff, Nat.reduceAdd, Nat.reduceMul, Nat.reduceLeDiff, Nat.reduceLT, Int.reduceLT, Int.reduceLE, Int.reduceEq, Int.reduceNeg, Int.reduceToNat, Nat.reducePow, reduceIte, reduceCtorEq, Cells, and_true]))|((with_reducible apply xs_guard_no);(case hi=>rfl);(case hy=>rfl);(case hS=>assumption))|((first|((with_reducible apply xs_op);(case hi=>rfl))|((with_reducible apply xs_op_yes);(case hi=>rfl);(case hy=>rfl)));(case hr=>rfl);intro K hK; simp only [go_sem, Nat.reduceEqDiff, Nat.reduceAdd, Nat.reduceMul, Nat.reduceLeDiff, Nat.reduceLT, Int.reduceLT, Int.reduceLE, Int.reduceEq, Int.reduceNeg, Int.reduceToNat, Nat.reducePow, reduceIte, reduceCtorEq])|(with_reducible first|refine jA ?_|(refine hK _ _ ?_;clear hK K)|refine jJ fun K hK=>?_|refine jK ?_|refine jL ?_|refine jM ?_|refine jN ?_|refine jO ?_|refine jP ?_|refine jQ ?_|(refine jB ?_;clear hK K)|(refine jC ?_;clear hK K)|refine jD ?_|refine jE ?_|refine jG ?_|refine jH ?_|refine jI ?_)|((with_reducible refine jR ?hq ?_);case hq=>rfl)|((first|(with_reducible first|refine jS fun K hK=>?_|refine jT ?_|refine jU ?_)|((with_reducible refine jV ?hy fun K hK=>?_);case hy=>rfl));simp only [go_sem, Nat.reduceEqDiff, Nat.reduceAdd, Nat.reduceMul, Nat.reduceLeDiff, Nat.reduceLT, Int.reduceLT, Int.reduceLE, Int.reduceEq, Int.reduceNeg, Int.reduceToNat, Nat.reducePow, reduceIte, reduceCtorEq])|((with_reducible first|refine jW ?hy ?_|refine jY ?hy ?_);case hy=>rfl)|((with_reducible first|refine jX ?hy ?_|refine jZ ?hy ?_);case hy=>rfl)|((with_reducible refine jF ?hy ?_);case hy=>decide))
  refine side_ok hF hut ?_
  repeat' (first|(with_reducible refine xs_nil ?_)|((first|((with_reducible apply xs_rd);case hi=>rfl)|((with_reducible apply xs_guard_yes);(case hi=>rfl);(case hy=>rfl)));(case hr=>rfl);(case h1=>intro H' hS'; (try simp only [Cells, and_true] at hS');simp only [go_sem, Nat.reduceEqDiff, Nat.reduceAdd, Nat.reduceMul, Nat.reduceLeDiff, Nat.reduceLT, Int.reduceLT, Int.reduceLE, Int.reduceEq, Int.reduceNeg, Int.reduceToNat, Nat.reducePow, reduceIte, reduceCtorEq, hS']; rfl))|((with_reducible refine xs_tail ?hz ?_);case hz=>rfl)|((with_reducible refine xs_keep ?hz ?_);case hz=>first|(with_reducible assumption)|assumption|(simp only [go_sem, Nat.reduceEqDiff, Nat.reduceAdd, Nat.reduceMul, Nat.reduceLeDiff, Nat.reduceLT, Int.reduceLT, Int.reduceLE, Int.reduceEq, Int.reduceNeg, Int.reduceToNat, Nat.reducePow, reduceIte, reduceCtorEq, Cells, and_true]))|((with_reducible apply xs_guard_no);(case hi=>rfl);(case hy=>rfl);(case hS=>assumption))|((first|((with_reducible apply xs_op);(case hi=>rfl))|((with_reducible apply xs_op_yes);(case hi=>rfl);(case hy=>rfl)));(case hr=>rfl);intro K hK; simp only [go_sem, Nat.reduceEqDiff, Nat.reduceAdd, Nat.reduceMul, Nat.reduceLeDiff, Nat.reduceLT, Int.reduceLT, Int.reduceLE, Int.reduceEq, Int.reduceNeg, Int.reduceToNat, Nat.reducePow, reduceIte, reduceCtorEq])|(with_reducible first|refine jA ?_|(refine hK _ _ ?_;clear hK K)|refine jJ fun K hK=>?_|refine jK ?_|refine jL ?_|refine jM ?_|refine jN ?_|refine jO ?_|refine jP ?_|refine jQ ?_|(refine jB ?_;clear hK K)|(refine jC ?_;clear hK K)|refine jD ?_|refine jE ?_|refine jG ?_|refine jH ?_|refine jI ?_)|((with_reducible refine jR ?hq ?_);case hq=>rfl)|((first|(with_reducible first|refine jS fun K hK=>?_|refine jT ?_|refine jU ?_)|((with_reducible refine jV ?hy fun K hK=>?_);case hy=>rfl));simp only [go_sem, Nat.reduceEqDiff, Nat.reduceAdd, Nat.reduceMul, Nat.reduceLeDiff, Nat.reduceLT, Int.reduceLT, Int.reduceLE, Int.reduceEq, Int.reduceNeg, Int.reduceToNat, Nat.reducePow, reduceIte, reduceCtorEq])|((with_reducible first|refine jW ?hy ?_|refine jY ?hy ?_);case hy=>rfl)|((with_reducible first|refine jX ?hy ?_|refine jZ ?hy ?_);case hy=>rfl)|((with_reducible refine jF ?hy ?_);case hy=>decide))
  refine side_ok hF hu ?_
  by_cases hsd : sideN N (N (N k).up).up (N k).up = sideN N (N k).up k
  ·have e1 : first N k = turnN N (N k).up := if_pos hsd
   rw [e1] at fin h2
   have t2 : ((sideN N (N (N k).up).up (N k).up : Int) == (sideN N (N k).up k : Int)) = true := by simp [hsd]
   repeat' (first|(with_reducible refine xs_nil ?_)|((first|((with_reducible apply xs_rd);case hi=>rfl)|((with_reducible apply xs_guard_yes);(case hi=>rfl);(case hy=>rfl)));(case hr=>rfl);(case h1=>intro H' hS'; (try simp only [Cells, and_true] at hS');simp only [go_sem, Nat.reduceEqDiff, Nat.reduceAdd, Nat.reduceMul, Nat.reduceLeDiff, Nat.reduceLT, Int.reduceLT, Int.reduceLE, Int.reduceEq, Int.reduceNeg, Int.reduceToNat, Nat.reducePow, reduceIte, reduceCtorEq, t2, q, hS']; rfl))|((with_reducible refine xs_tail ?hz ?_);case hz=>rfl)|((with_reducible refine xs_keep ?hz ?_);case hz=>first|(with_reducible assumption)|assumption|(simp only [go_sem, Nat.reduceEqDiff, Nat.reduceAdd, Nat.reduceMul, Nat.reduceLeDiff, Nat.reduceLT, Int.reduceLT, Int.reduceLE, Int.reduceEq, Int.reduceNeg, Int.reduceToNat, Nat.reducePow, reduceIte, reduceCtorEq, Cells, and_true, t2, q]))|((with_reducible apply xs_guard_no);(case hi=>rfl);(case hy=>rfl);(case hS=>assumption))|((first|((with_reducible apply xs_op);(case hi=>rfl))|((with_reducible apply xs_op_yes);(case hi=>rfl);(case hy=>rfl)));(case hr=>rfl);intro K hK; simp only [go_sem, Nat.reduceEqDiff, Nat.reduceAdd, Nat.reduceMul, Nat.reduceLeDiff, Nat.reduceLT, Int.reduceLT, Int.reduceLE, Int.reduceEq, Int.reduceNeg, Int.reduceToNat, Nat.reducePow, reduceIte, reduceCtorEq, t2, q])|(with_reducible first|refine jA ?_|(refine hK _ _ ?_;clear hK K)|refine jJ fun K hK=>?_|refine jK ?_|refine jL ?_|refine jM ?_|refine jN ?_|refine jO ?_|refine jP ?_|refine jQ ?_|(refine jB ?_;clear hK K)|(refine jC ?_;clear hK K)|refine jD ?_|refine jE ?_|refine jG ?_|refine jH ?_|refine jI ?_)|((with_reducible refine jR ?hq ?_);case hq=>rfl)|((first|(with_reducible first|refine jS fun K hK=>?_|refine jT ?_|refine jU ?_)|((with_reducible refine jV ?hy fun K hK=>?_);case hy=>rfl));simp only [go_sem, Nat.reduceEqDiff, Nat.reduceAdd, Nat.reduceMul, Nat.reduceLeDiff, Nat.reduceLT, Int.reduceLT, Int.reduceLE, Int.reduceEq, Int.reduceNeg, Int.reduceToNat, Nat.reducePow, reduceIte, reduceCtorEq, t2, q])|((with_reducible first|refine jW ?hy ?_|refine jY ?hy ?_);case hy=>rfl)|((with_reducible first|refine jX ?hy ?_|refine jZ ?hy ?_);case hy=>rfl)|((with_reducible refine jF ?hy ?_);case hy=>decide))
   refine turn_ok hF hu hut ?_
   intro H1 hF1 hf1
   have q1 := hc.frame hf1 hcn
   simp only [Cells, and_true] at q1
   have hu1 := (hF1.cl.up k hk).resolve_left h2
   repeat' (first|(with_reducible first|refine jA ?_|(refine hK _ _ ?_;clear hK K)|refine jJ fun K hK=>?_|refine jK ?_|refine jL ?_|refine jM ?_|refine jN ?_|refine jO ?_|refine jP ?_|refine jQ ?_|(refine jB ?_;clear hK K)|(refine jC ?_;clear hK K)|refine jD ?_|refine jE ?_|refine jG ?_|refine jH ?_|refine jI ?_)|((with_reducible refine jR ?hq ?_);case hq=>rfl)|((first|(with_reducible first|refine jS fun K hK=>?_|refine jT ?_|refine jU ?_)|((with_reducible refine jV ?hy fun K hK=>?_);case hy=>rfl));simp only [go_sem, Nat.reduceEqDiff, Nat.reduceAdd, Nat.reduceMul, Nat.reduceLeDiff, Nat.reduceLT, Int.reduceLT, Int.reduceLE, Int.reduceEq, Int.reduceNeg, Int.reduceToNat, Nat.reducePow, reduceIte, reduceCtorEq, q1])|((with_reducible first|refine jW ?hy ?_|refine jY ?hy ?_);case hy=>rfl)|((with_reducible first|refine jX ?hy ?_|refine jZ ?hy ?_);case hy=>rfl)|((with_reducible refine jF ?hy ?_);case hy=>decide))
   refine turn_ok hF1 hk hu1 ?_
   intro H2 hF2 hf2
   repeat' (first|(with_reducible first|refine jA ?_|(refine hK _ _ ?_;clear hK K)|refine jJ fun K hK=>?_|refine jK ?_|refine jL ?_|refine jM ?_|refine jN ?_|refine jO ?_|refine jP ?_|refine jQ ?_|(refine jB ?_;clear hK K)|(refine jC ?_;clear hK K)|refine jD ?_|refine jE ?_|refine jG ?_|refine jH ?_|refine jI ?_)|((with_reducible refine jR ?hq ?_);case hq=>rfl)|((first|(with_reducible first|refine jS fun K hK=>?_|refine jT ?_|refine jU ?_)|((with_reducible refine jV ?hy fun K hK=>?_);case hy=>rfl));simp only [go_sem, Nat.reduceEqDiff, Nat.reduceAdd, Nat.reduceMul, Nat.reduceLeDiff, Nat.reduceLT, Int.reduceLT, Int.reduceLE, Int.reduceEq, Int.reduceNeg, Int.reduceToNat, Nat.reducePow, reduceIte, reduceCtorEq])|((with_reducible first|refine jW ?hy ?_|refine jY ?hy ?_);case hy=>rfl)|((with_reducible first|refine jX ?hy ?_|refine jZ ?hy ?_);case hy=>rfl)|((with_reducible refine jF ?hy ?_);case hy=>decide))
   exact fin _ hF2 (hf1.trans hf2)
  ·have e1 : first N k = turnN N k := if_neg hsd
   rw [e1] at fin h2
   have t2 : ((sideN N (N (N k).up).up (N k).up : Int) == (sideN N (N k).up k : Int)) = false := by simp; omega
   repeat' (first|(with_reducible refine xs_nil ?_)|((first|((with_reducible apply xs_rd);case hi=>rfl)|((with_reducible apply xs_guard_yes);(case hi=>rfl);(case hy=>rfl)));(case hr=>rfl);(case h1=>intro H' hS'; (try simp only [Cells, and_true] at hS');simp only [go_sem, Nat.reduceEqDiff, Nat.reduceAdd, Nat.reduceMul, Nat.reduceLeDiff, Nat.reduceLT, Int.reduceLT, Int.reduceLE, Int.reduceEq, Int.reduceNeg, Int.reduceToNat, Nat.reducePow, reduceIte, reduceCtorEq, t2, q, hS']; rfl))|((with_reducible refine xs_tail ?hz ?_);case hz=>rfl)|((with_reducible refine xs_keep ?hz ?_);case hz=>first|(with_reducible assumption)|assumption|(simp only [go_sem, Nat.reduceEqDiff, Nat.reduceAdd, Nat.reduceMul, Nat.reduceLeDiff, Nat.reduceLT, Int.reduceLT, Int.reduceLE, Int.reduceEq, Int.reduceNeg, Int.reduceToNat, Nat.reducePow, reduceIte, reduceCtorEq, Cells, and_true, t2, q]))|((with_reducible apply xs_guard_no);(case hi=>rfl);(case hy=>rfl);(case hS=>assumption))|((first|((with_reducible apply xs_op);(case hi=>rfl))|((with_reducible apply xs_op_yes);(case hi=>rfl);(case hy=>rfl)));(case hr=>rfl);intro K hK; simp only [go_sem, Nat.reduceEqDiff, Nat.reduceAdd, Nat.reduceMul, Nat.reduceLeDiff, Nat.reduceLT, Int.reduceLT, Int.reduceLE, Int.reduceEq, Int.reduceNeg, Int.reduceToNat, Nat.reducePow, reduceIte, reduceCtorEq, t2, q])|(with_reducible first|refine jA ?_|(refine hK _ _ ?_;clear hK K)|refine jJ fun K hK=>?_|refine jK ?_|refine jL ?_|refine jM ?_|refine jN ?_|refine jO ?_|refine jP ?_|refine jQ ?_|(refine jB ?_;clear hK K)|(refine jC ?_;clear hK K)|refine jD ?_|refine jE ?_|refine jG ?_|refine jH ?_|refine jI ?_)|((with_reducible refine jR ?hq ?_);case hq=>rfl)|((first|(with_reducible first|refine jS fun K hK=>?_|refine jT ?_|refine jU ?_)|((with_reducible refine jV ?hy fun K hK=>?_);case hy=>rfl));simp only [go_sem, Nat.reduceEqDiff, Nat.reduceAdd, Nat.reduceMul, Nat.reduceLeDiff, Nat.reduceLT, Int.reduceLT, Int.reduceLE, Int.reduceEq, Int.reduceNeg, Int.reduceToNat, Nat.reducePow, reduceIte, reduceCtorEq, t2, q])|((with_reducible first|refine jW ?hy ?_|refine jY ?hy ?_);case hy=>rfl)|((with_reducible first|refine jX ?hy ?_|refine jZ ?hy ?_);case hy=>rfl)|((with_reducible refine jF ?hy ?_);case hy=>decide))
   refine turn_ok hF hk hu ?_
   intro H1 hF1 hf1
   have q1 := hc.frame hf1 hcn
   simp only [Cells, and_true] at q1
   have hu1 := (hF1.cl.up k hk).resolve_left h2
   repeat' (first|(with_reducible first|refine jA ?_|(refine hK _ _ ?_;clear hK K)|refine jJ fun K hK=>?_|refine jK ?_|refine jL ?_|refine jM ?_|refine jN ?_|refine jO ?_|refine jP ?_|refine jQ ?_|(refine jB ?_;clear hK K)|(refine jC ?_;clear hK K)|refine jD ?_|refine jE ?_|refine jG ?_|refine jH ?_|refine jI ?_)|((with_reducible refine jR ?hq ?_);case hq=>rfl)|((first|(with_reducible first|refine jS fun K hK=>?_|refine jT ?_|refine jU ?_)|((with_reducible refine jV ?hy fun K hK=>?_);case hy=>rfl));simp only [go_sem, Nat.reduceEqDiff, Nat.reduceAdd, Nat.reduceMul, Nat.reduceLeDiff, Nat.reduceLT, Int.reduceLT, Int.reduceLE, Int.reduceEq, Int.reduceNeg, Int.reduceToNat, Nat.reducePow, reduceIte, reduceCtorEq, q1])|((with_reducible first|refine jW ?hy ?_|refine jY ?hy ?_);case hy=>rfl)|((with_reducible first|refine jX ?hy ?_|refine jZ ?hy ?_);case hy=>rfl)|((with_reducible refine jF ?hy ?_);case hy=>decide))
   refine turn_ok hF1 hk hu1 ?_
   intro H2 hF2 hf2
   repeat' (first|(with_reducible first|refine jA ?_|(refine hK _ _ ?_;clear hK K)|refine jJ fun K hK=>?_|refine jK ?_|refine jL ?_|refine jM ?_|refine jN ?_|refine jO ?_|refine jP ?_|refine jQ ?_|(refine jB ?_;clear hK K)|(refine jC ?_;clear hK K)|refine jD ?_|refine jE ?_|refine jG ?_|refine jH ?_|refine jI ?_)|((with_reducible refine jR ?hq ?_);case hq=>rfl)|((first|(with_reducible first|refine jS fun K hK=>?_|refine jT ?_|refine jU ?_)|((with_reducible refine jV ?hy fun K hK=>?_);case hy=>rfl));simp only [go_sem, Nat.reduceEqDiff, Nat.reduceAdd, Nat.reduceMul, Nat.reduceLeDiff, Nat.reduceLT, Int.reduceLT, Int.reduceLE, Int.reduceEq, Int.reduceNeg, Int.reduceToNat, Nat.reducePow, reduceIte, reduceCtorEq])|((with_reducible first|refine jW ?hy ?_|refine jY ?hy ?_);case hy=>rfl)|((with_reducible first|refine jX ?hy ?_|refine jZ ?hy ?_);case hy=>rfl)|((with_reducible refine jF ?hy ?_);case hy=>decide))
   exact fin _ hF2 (hf1.trans hf2)
theorem rise_ok {K : Value → Heap → Prop} {P : Nat → Nodes → Prop} {m : Nat} (hF : FAt H f p g A nb N) {k c2 c3 : Nat} (hk : U A k) (hc : Cells [(c2, 0, .pointer (some ⟨f, 0, none⟩)), (c3, 0, .int .i64 (k : Nat))] H) (hn2 : ¬ NB A nb c2) (hn3 : ¬ NB A nb c3)
  (h0 : P m N) (hP : ∀ m N, P m N → (N k).up = 0 ∨ (stepOk N k ∧ ∃ m', m' < m ∧ P m' (stepN N k)))
  (fin : ∀ H' N' m', FAt H' f p g A nb N' → P m' N' → (N' k).up = 0 → Fr (NB A nb) H H' → K (.tuple #[]) H') :
  CallsH Try.prog 88 #[.pointer (some ⟨f, 0, none⟩), .int .i64 k, .func (.func 89) #[] #[.pointer (some ⟨c2, 0, none⟩), .pointer (some ⟨c3, 0, none⟩)]] H K := by
 have hcn : ∀ x ∈ [(c2, 0, Value.pointer (some ⟨f, 0, none⟩)), (c3, 0, Value.int .i64 (k : Nat))], ¬ NB A nb x.1 := fun x hx => by
  simp only [List.mem_cons, List.not_mem_nil, or_false] at hx
  rcases hx with rfl | rfl
  ·exact hn2
  ·exact hn3
 refine call88 (by simp) ?_
 simp only [Try.f88, Option.getD_some]
 repeat' (first|(with_reducible first|refine jA ?_|(refine hK _ _ ?_;clear hK K)|refine jJ fun K hK=>?_|refine jK ?_|refine jL ?_|refine jM ?_|refine jN ?_|refine jO ?_|refine jP ?_|refine jQ ?_|(refine jB ?_;clear hK K)|(refine jC ?_;clear hK K)|refine jD ?_|refine jE ?_|refine jG ?_|refine jH ?_|refine jI ?_)|((with_reducible refine jR ?hq ?_);case hq=>rfl)|((first|(with_reducible first|refine jS fun K hK=>?_|refine jT ?_|refine jU ?_)|((with_reducible refine jV ?hy fun K hK=>?_);case hy=>rfl));simp only [go_sem, Nat.reduceEqDiff, Nat.reduceAdd, Nat.reduceMul, Nat.reduceLeDiff, Nat.reduceLT, Int.reduceLT, Int.reduceLE, Int.reduceEq, Int.reduceNeg, Int.reduceToNat, Nat.reducePow, reduceIte, reduceCtorEq])|((with_reducible first|refine jW ?hy ?_|refine jY ?hy ?_);case hy=>rfl)|((with_reducible first|refine jX ?hy ?_|refine jZ ?hy ?_);case hy=>rfl)|((with_reducible refine jF ?hy ?_);case hy=>decide))
 refine x_loop (fun m e' H' => ∃ N', FAt H' f p g A nb N' ∧ P m N' ∧ Fr (NB A nb) H H') m ⟨N, hF, h0, .refl _ _⟩ ?_
 rintro m1 e1 H1 ⟨N1, hF1, hP1, hf1⟩ hoff
 have e0 := (hoff 0 rfl).trans rfl
 have e1' := (hoff 1 rfl).trans rfl
 have e2 := (hoff 2 rfl).trans rfl
 have hn := hF1.nd k hk
 have c3' := hn.cellOf (i := 3) rfl
 repeat' (first|(with_reducible first|refine jA ?_|(refine hK _ _ ?_;clear hK K)|refine jJ fun K hK=>?_|refine jK ?_|refine jL ?_|refine jM ?_|refine jN ?_|refine jO ?_|refine jP ?_|refine jQ ?_|(refine jB ?_;clear hK K)|(refine jC ?_;clear hK K)|refine jD ?_|refine jE ?_|refine jG ?_|refine jH ?_|refine jI ?_)|((with_reducible refine jR ?hq ?_);case hq=>rfl)|((first|(with_reducible first|refine jS fun K hK=>?_|refine jT ?_|refine jU ?_)|((with_reducible refine jV ?hy fun K hK=>?_);case hy=>rfl));simp only [go_sem, Nat.reduceEqDiff, Nat.reduceAdd, Nat.reduceMul, Nat.reduceLeDiff, Nat.reduceLT, Int.reduceLT, Int.reduceLE, Int.reduceEq, Int.reduceNeg, Int.reduceToNat, Nat.reducePow, reduceIte, reduceCtorEq, e0, e1', e2])|((with_reducible first|refine jW ?hy ?_|refine jY ?hy ?_);case hy=>rfl)|((with_reducible first|refine jX ?hy ?_|refine jZ ?hy ?_);case hy=>rfl)|((with_reducible refine jF ?hy ?_);case hy=>decide))
 refine node_ok hF1 hk ?_
 rcases hP m1 N1 hP1 with hz | ⟨hs, m', hm, hP'⟩
 ·have t1 : (((N1 k).up : Int) == 0) = true := by simp [hz]
  repeat' (first|(with_reducible first|refine jA ?_|(refine hK _ _ ?_;clear hK K)|refine jJ fun K hK=>?_|refine jK ?_|refine jL ?_|refine jM ?_|refine jN ?_|refine jO ?_|refine jP ?_|refine jQ ?_|(refine jB ?_;clear hK K)|(refine jC ?_;clear hK K)|refine jD ?_|refine jE ?_|refine jG ?_|refine jH ?_|refine jI ?_)|((with_reducible refine jR ?hq ?_);case hq=>rfl)|((first|(with_reducible first|refine jS fun K hK=>?_|refine jT ?_|refine jU ?_)|((with_reducible refine jV ?hy fun K hK=>?_);case hy=>rfl));simp only [go_sem, Nat.reduceEqDiff, Nat.reduceAdd, Nat.reduceMul, Nat.reduceLeDiff, Nat.reduceLT, Int.reduceLT, Int.reduceLE, Int.reduceEq, Int.reduceNeg, Int.reduceToNat, Nat.reducePow, reduceIte, reduceCtorEq, e0, e1', e2, c3', t1])|((with_reducible first|refine jW ?hy ?_|refine jY ?hy ?_);case hy=>rfl)|((with_reducible first|refine jX ?hy ?_|refine jZ ?hy ?_);case hy=>rfl)|((with_reducible refine jF ?hy ?_);case hy=>decide))
  exact fin _ _ _ hF1 hP1 hz hf1
 ·have t1 : (((N1 k).up : Int) == 0) = false := by simp [hs.1]
  have hu := (hF1.cl.up k hk).resolve_left hs.1
  have u3 := (hF1.nd _ hu).cellOf (i := 3) rfl
  repeat' (first|(with_reducible first|refine jA ?_|(refine hK _ _ ?_;clear hK K)|refine jJ fun K hK=>?_|refine jK ?_|refine jL ?_|refine jM ?_|refine jN ?_|refine jO ?_|refine jP ?_|refine jQ ?_|(refine jB ?_;clear hK K)|(refine jC ?_;clear hK K)|refine jD ?_|refine jE ?_|refine jG ?_|refine jH ?_|refine jI ?_)|((with_reducible refine jR ?hq ?_);case hq=>rfl)|((first|(with_reducible first|refine jS fun K hK=>?_|refine jT ?_|refine jU ?_)|((with_reducible refine jV ?hy fun K hK=>?_);case hy=>rfl));simp only [go_sem, Nat.reduceEqDiff, Nat.reduceAdd, Nat.reduceMul, Nat.reduceLeDiff, Nat.reduceLT, Int.reduceLT, Int.reduceLE, Int.reduceEq, Int.reduceNeg, Int.reduceToNat, Nat.reducePow, reduceIte, reduceCtorEq, e0, e1', e2, c3', t1])|((with_reducible first|refine jW ?hy ?_|refine jY ?hy ?_);case hy=>rfl)|((with_reducible first|refine jX ?hy ?_|refine jZ ?hy ?_);case hy=>rfl)|((with_reducible refine jF ?hy ?_);case hy=>decide))
  refine node_ok hF1 hu ?_
  repeat' (first|(with_reducible first|refine jA ?_|(refine hK _ _ ?_;clear hK K)|refine jJ fun K hK=>?_|refine jK ?_|refine jL ?_|refine jM ?_|refine jN ?_|refine jO ?_|refine jP ?_|refine jQ ?_|(refine jB ?_;clear hK K)|(refine jC ?_;clear hK K)|refine jD ?_|refine jE ?_|refine jG ?_|refine jH ?_|refine jI ?_)|((with_reducible refine jR ?hq ?_);case hq=>rfl)|((first|(with_reducible first|refine jS fun K hK=>?_|refine jT ?_|refine jU ?_)|((with_reducible refine jV ?hy fun K hK=>?_);case hy=>rfl));simp only [go_sem, Nat.reduceEqDiff, Nat.reduceAdd, Nat.reduceMul, Nat.reduceLeDiff, Nat.reduceLT, Int.reduceLT, Int.reduceLE, Int.reduceEq, Int.reduceNeg, Int.reduceToNat, Nat.reducePow, reduceIte, reduceCtorEq, e0, e1', e2, u3])|((with_reducible first|refine jW ?hy ?_|refine jY ?hy ?_);case hy=>rfl)|((with_reducible first|refine jX ?hy ?_|refine jZ ?hy ?_);case hy=>rfl)|((with_reducible refine jF ?hy ?_);case hy=>decide))
  refine step_ok hF1 hk hs (hc.frame hf1 hcn) hn2 hn3 ?_
  intro H2 hF2 hf2
  repeat' (first|(with_reducible first|refine jA ?_|(refine hK _ _ ?_;clear hK K)|refine jJ fun K hK=>?_|refine jK ?_|refine jL ?_|refine jM ?_|refine jN ?_|refine jO ?_|refine jP ?_|refine jQ ?_|(refine jB ?_;clear hK K)|(refine jC ?_;clear hK K)|refine jD ?_|refine jE ?_|refine jG ?_|refine jH ?_|refine jI ?_)|((with_reducible refine jR ?hq ?_);case hq=>rfl)|((first|(with_reducible first|refine jS fun K hK=>?_|refine jT ?_|refine jU ?_)|((with_reducible refine jV ?hy fun K hK=>?_);case hy=>rfl));simp only [go_sem, Nat.reduceEqDiff, Nat.reduceAdd, Nat.reduceMul, Nat.reduceLeDiff, Nat.reduceLT, Int.reduceLT, Int.reduceLE, Int.reduceEq, Int.reduceNeg, Int.reduceToNat, Nat.reducePow, reduceIte, reduceCtorEq])|((with_reducible first|refine jW ?hy ?_|refine jY ?hy ?_);case hy=>rfl)|((with_reducible first|refine jX ?hy ?_|refine jZ ?hy ?_);case hy=>rfl)|((with_reducible refine jF ?hy ?_);case hy=>decide))
  exact loop_normal hm ⟨_, hF2, hP', hf1.trans hf2⟩
theorem splay_ok {K : Value → Heap → Prop} {P : Nat → Nodes → Prop} {m : Nat} (hF : FAt H f p g A nb N) {k : Nat} (hk : U A k)
  (h0 : P m N) (hP : ∀ m N, P m N → (N k).up = 0 ∨ (stepOk N k ∧ ∃ m', m' < m ∧ P m' (stepN N k)))
  (fin : ∀ H' N' m', FAt H' f p g A nb N' → P m' N' → (N' k).up = 0 → Fr (NB A nb) H H' → K (.tuple #[]) H') :
  CallsH Try.prog 70 #[.pointer (some ⟨f, 0, none⟩), .int .i64 k] H K := by
 have hlt : ∀ h, U A h → nb h < H.size := fun h hh => (hF.nd h hh).lt
 refine call70 (by simp) ?_
 simp only [Try.f70, Option.getD_some]
 repeat' (first|(with_reducible first|refine jA ?_|(refine hK _ _ ?_;clear hK K)|refine jJ fun K hK=>?_|refine jK ?_|refine jL ?_|refine jM ?_|refine jN ?_|refine jO ?_|refine jP ?_|refine jQ ?_|(refine jB ?_;clear hK K)|(refine jC ?_;clear hK K)|refine jD ?_|refine jE ?_|refine jG ?_|refine jH ?_|refine jI ?_)|((with_reducible refine jR ?hq ?_);case hq=>rfl)|((first|(with_reducible first|refine jS fun K hK=>?_|refine jT ?_|refine jU ?_)|((with_reducible refine jV ?hy fun K hK=>?_);case hy=>rfl));simp only [go_sem, Nat.reduceEqDiff, Nat.reduceAdd, Nat.reduceMul, Nat.reduceLeDiff, Nat.reduceLT, Int.reduceLT, Int.reduceLE, Int.reduceEq, Int.reduceNeg, Int.reduceToNat, Nat.reducePow, reduceIte, reduceCtorEq, hcell_push, hcell_top, okW_push, okW_top, hcell_hset_ne, hcell_hset_off, hcell_hset_eq, okW_hset, hset_size, Array.size_push, Nat.lt_add_one, ne_add_one, add_one_ne, Nat.add_assoc, add_same, add_lt_same, Nat.reduceEqDiff, lt_add_k, add_k_ne, ne_add_k])|((with_reducible first|refine jW ?hy ?_|refine jY ?hy ?_);case hy=>rfl)|((with_reducible first|refine jX ?hy ?_|refine jZ ?hy ?_);case hy=>rfl)|((with_reducible refine jF ?hy ?_);case hy=>decide))
 refine rise_ok (P := P) (hF.grow ?_) hk (by simp only [go_sem, Nat.reduceEqDiff, Nat.reduceAdd, Nat.reduceMul, Nat.reduceLeDiff, Nat.reduceLT, Int.reduceLT, Int.reduceLE, Int.reduceEq, Int.reduceNeg, Int.reduceToNat, Nat.reducePow, reduceIte, reduceCtorEq, Cells, and_true, hcell_push, hcell_top, okW_push, okW_top, hcell_hset_ne, hcell_hset_off, hcell_hset_eq, okW_hset, hset_size, Array.size_push, Nat.lt_add_one, ne_add_one, add_one_ne, Nat.add_assoc, add_same, add_lt_same, Nat.reduceEqDiff, lt_add_k, add_k_ne, ne_add_k]) ?_ ?_ h0 hP ?_
 ·exact (by ((repeat (first | refine Fr.set ?_ (by simp) _ | refine Fr.push ?_ _)); exact Fr.refl _ _))
 ·rintro ⟨h, hh, e⟩
  have := hlt h hh
  omega
 ·rintro ⟨h, hh, e⟩
  have := hlt h hh
  omega
 ·intro H' N' m' hF' hP' hz hf
  repeat' (first|(with_reducible first|refine jA ?_|(refine hK _ _ ?_;clear hK K)|refine jJ fun K hK=>?_|refine jK ?_|refine jL ?_|refine jM ?_|refine jN ?_|refine jO ?_|refine jP ?_|refine jQ ?_|(refine jB ?_;clear hK K)|(refine jC ?_;clear hK K)|refine jD ?_|refine jE ?_|refine jG ?_|refine jH ?_|refine jI ?_)|((with_reducible refine jR ?hq ?_);case hq=>rfl)|((first|(with_reducible first|refine jS fun K hK=>?_|refine jT ?_|refine jU ?_)|((with_reducible refine jV ?hy fun K hK=>?_);case hy=>rfl));simp only [go_sem, Nat.reduceEqDiff, Nat.reduceAdd, Nat.reduceMul, Nat.reduceLeDiff, Nat.reduceLT, Int.reduceLT, Int.reduceLE, Int.reduceEq, Int.reduceNeg, Int.reduceToNat, Nat.reducePow, reduceIte, reduceCtorEq])|((with_reducible first|refine jW ?hy ?_|refine jY ?hy ?_);case hy=>rfl)|((with_reducible first|refine jX ?hy ?_|refine jZ ?hy ?_);case hy=>rfl)|((with_reducible refine jF ?hy ?_);case hy=>decide))
  exact fin _ _ _ hF' hP' hz (Fr.trans' (S' := NB A nb) (S := NB A nb) (Fr.mono (S := fun _ => False) (by exact (by ((repeat (first | refine Fr.set ?_ (by simp) _ | refine Fr.push ?_ _)); exact Fr.refl _ _))) (fun b _ h => h.elim)) hf (fun b _ h => h))
end
end Go.Proofs.Ytnlafhnbakipmaa
namespace Go.Sp
open Go Go.Hp
set_option linter.unusedVariables false

structure May (x : Item) : Prop where
 lo : -1099511627776 ≤ x.value
 hi : x.value ≤ 1099511627776
 f0 : 0 ≤ x.flags
 f1 : x.flags < 256
def valsL (xs : List Item) : List Int := (xs.filter (·.counts)).map (·.value)
def minL : List Int → Int
 | [] => 0
 | [v] => v
 | v :: w :: vs => minI v (minL (w :: vs))
def maxL : List Int → Int
 | [] => 0
 | [v] => v
 | v :: w :: vs => maxI v (maxL (w :: vs))
def flagsL : List Item → Nat
 | [] => 0
 | x :: xs => x.flags.toNat ||| flagsL xs
def aggL (xs : List Item) : Agg := ⟨((valsL xs).length : Nat), (valsL xs).sum, minL (valsL xs), maxL (valsL xs), (flagsL xs : Nat)⟩
theorem minI_assoc (a b c : Int) : minI (minI a b) c = minI a (minI b c) := by unfold minI; split <;> split <;> (try split) <;> (try split) <;> omega
theorem maxI_assoc (a b c : Int) : maxI (maxI a b) c = maxI a (maxI b c) := by unfold maxI; split <;> split <;> (try split) <;> (try split) <;> omega
theorem minL_append : ∀ (xs ys : List Int), minL (xs ++ ys) = if xs = [] then minL ys else if ys = [] then minL xs else minI (minL xs) (minL ys)
 | [], ys => by simp
 | [v], [] => by simp
 | [v], w :: ys => by simp [minL]
 | v :: w :: xs, ys => by
  have ih := minL_append (w :: xs) ys
  simp only [List.cons_append, reduceCtorEq, if_false] at ih ⊢
  cases ys with
  | nil => simp
  | cons y ys =>
   simp only [reduceCtorEq, if_false] at ih ⊢
   simp only [minL]
   rw [ih, minI_assoc]
theorem maxL_append : ∀ (xs ys : List Int), maxL (xs ++ ys) = if xs = [] then maxL ys else if ys = [] then maxL xs else maxI (maxL xs) (maxL ys)
 | [], ys => by simp
 | [v], [] => by simp
 | [v], w :: ys => by simp [maxL]
 | v :: w :: xs, ys => by
  have ih := maxL_append (w :: xs) ys
  simp only [List.cons_append, reduceCtorEq, if_false] at ih ⊢
  cases ys with
  | nil => simp
  | cons y ys =>
   simp only [reduceCtorEq, if_false] at ih ⊢
   simp only [maxL]
   rw [ih, maxI_assoc]
theorem flagsL_append : ∀ (xs ys : List Item), flagsL (xs ++ ys) = flagsL xs ||| flagsL ys
 | [], ys => by simp [flagsL]
 | x :: xs, ys => by simp [flagsL, flagsL_append xs ys, Nat.or_assoc]
theorem flagsL_lt : ∀ {xs : List Item}, (∀ x ∈ xs, May x) → flagsL xs < 256
 | [], _ => by simp [flagsL]
 | x :: xs, h => by
  have h1 := h x (.head _)
  have h2 := flagsL_lt fun y hy => h y (.tail _ hy)
  unfold flagsL
  exact Nat.or_lt_two_pow (n := 8) (by have := h1.f0; have := h1.f1; omega) h2
theorem or64_nat {a b : Nat} (ha : a < 256) (hb : b < 256) : or64 (a : Int) (b : Int) = ((a ||| b : Nat) : Int) := by
 have h : a ||| b < 2 ^ 8 := Nat.or_lt_two_pow (n := 8) ha hb
 have e : (BitVec.ofInt IntKind.i64.bits (a : Int) ||| BitVec.ofInt IntKind.i64.bits (b : Int)).toNat = a ||| b := by
  have e1 : ∀ n : Nat, n < 256 → (BitVec.ofInt IntKind.i64.bits (n : Int)).toNat = n := fun n hn => by
   show (BitVec.ofInt 64 (n : Int)).toNat = n
   rw [BitVec.toNat_ofInt]
   omega
  rw [BitVec.toNat_or, e1 a ha, e1 b hb]
 unfold or64 bitOr
 rw [e, wrap_i64] <;> omega
theorem sum_bound : ∀ {xs : List Item}, (∀ x ∈ xs, May x) → -(1099511627776 * (xs.length : Int)) ≤ (valsL xs).sum ∧ (valsL xs).sum ≤ 1099511627776 * (xs.length : Int)
 | [], _ => by simp [valsL]
 | x :: xs, h => by
  have h1 := h x (.head _)
  have h2 := sum_bound fun y hy => h y (.tail _ hy)
  have := h1.lo
  have := h1.hi
  unfold valsL at h2 ⊢
  cases hc : x.counts <;> simp only [List.filter_cons, hc, if_true, if_false, Bool.false_eq_true, List.map_cons, List.sum_cons, List.length_cons] <;> omega
theorem valsL_append (xs ys : List Item) : valsL (xs ++ ys) = valsL xs ++ valsL ys := by simp [valsL]
theorem valsL_length (xs : List Item) : (valsL xs).length ≤ xs.length := by unfold valsL; rw [List.length_map]; exact List.length_filter_le _ _
theorem plusA_aggL {xs ys : List Item} (hx : ∀ x ∈ xs, May x) (hy : ∀ y ∈ ys, May y) (hl : xs.length + ys.length ≤ 1048576) : plusA (aggL xs) (aggL ys) = aggL (xs ++ ys) := by
 have lx := valsL_length xs
 have ly := valsL_length ys
 have sx := sum_bound hx
 have sy := sum_bound hy
 unfold plusA aggL
 simp only [valsL_append, minL_append, maxL_append, flagsL_append, List.length_append, List.sum_append, Agg.mk.injEq]
 have zx : (((valsL xs).length : Nat) : Int) = 0 ↔ valsL xs = [] := by rw [← List.length_eq_zero_iff]; omega
 have zy : (((valsL ys).length : Nat) : Int) = 0 ↔ valsL ys = [] := by rw [← List.length_eq_zero_iff]; omega
 refine ⟨?_, ?_, ?_, ?_, or64_nat (flagsL_lt hx) (flagsL_lt hy)⟩
 ·unfold w64; rw [wrap_i64] <;> omega
 ·unfold w64; rw [wrap_i64] <;> omega
 ·simp only [zx, zy]
 ·simp only [zx, zy]
theorem ownA_aggL {x : Item} (h : May x) : ownA x = aggL [x] := by
 have := h.f0
 unfold ownA aggL valsL flagsL flagsL
 cases hc : x.counts <;> simp [hc, minL, maxL] <;> omega
inductive Tr where
 | nil
 | node (l : Tr) (h : Nat) (r : Tr)
namespace Tr
def root : Tr → Nat
 | nil => 0
 | node _ h _ => h
def list : Tr → List Nat
 | nil => []
 | node l h r => l.list ++ h :: r.list
end Tr
def aggOf (it : Nat → Item) (l : List Nat) : Agg := aggL (l.map it)
def recOf (it : Nat → Item) (up l h r : Nat) (xs : List Nat) : Rec := ⟨it h, up, l, r, (xs.length : Nat), aggOf it xs⟩
def TrAt (N : Nodes) (it : Nat → Item) : Nat → Tr → Prop
 | _, .nil => True
 | up, .node l h r => h ≠ 0 ∧ N h = recOf it up l.root h r.root (l.list ++ h :: r.list) ∧ TrAt N it h l ∧ TrAt N it h r
structure Fm where
 side : Bool
 h : Nat
 sib : Tr
def plug : Tr → List Fm → Tr
 | t, [] => t
 | t, ⟨false, h, s⟩ :: ps => plug (.node t h s) ps
 | t, ⟨true, h, s⟩ :: ps => plug (.node s h t) ps
def upOf : List Fm → Nat
 | [] => 0
 | f :: _ => f.h
def PathAt (N : Nodes) (it : Nat → Item) : Nat → List Nat → List Fm → Prop
 | _, _, [] => True
 | x, xs, ⟨false, h, s⟩ :: ps => h ≠ 0 ∧ N h = recOf it (upOf ps) x h s.root (xs ++ h :: s.list) ∧ TrAt N it h s ∧ PathAt N it h (xs ++ h :: s.list) ps
 | x, xs, ⟨true, h, s⟩ :: ps => h ≠ 0 ∧ N h = recOf it (upOf ps) s.root h x (s.list ++ h :: xs) ∧ TrAt N it h s ∧ PathAt N it h (s.list ++ h :: xs) ps
theorem trAt_plug {N : Nodes} {it : Nat → Item} : ∀ (ps : List Fm) (t : Tr), TrAt N it 0 (plug t ps) ↔ TrAt N it (upOf ps) t ∧ PathAt N it t.root t.list ps
 | [], t => by simp [plug, upOf, PathAt]
 | ⟨false, h, s⟩ :: ps, t => by
  have := trAt_plug (N := N) (it := it) ps (.node t h s)
  simp only [plug, upOf, PathAt] at this ⊢
  rw [this]
  simp only [TrAt, Tr.root, Tr.list]
  constructor
  ·rintro ⟨⟨a, b, c, d⟩, e⟩; exact ⟨c, a, b, d, e⟩
  ·rintro ⟨c, a, b, d, e⟩; exact ⟨⟨a, b, c, d⟩, e⟩
 | ⟨true, h, s⟩ :: ps, t => by
  have := trAt_plug (N := N) (it := it) ps (.node s h t)
  simp only [plug, upOf, PathAt] at this ⊢
  rw [this]
  simp only [TrAt, Tr.root, Tr.list]
  constructor
  ·rintro ⟨⟨a, b, c, d⟩, e⟩; exact ⟨d, a, b, c, e⟩
  ·rintro ⟨d, a, b, c, e⟩; exact ⟨⟨a, b, c, d⟩, e⟩
theorem TrAt.congr {N N' : Nodes} {it : Nat → Item} : ∀ {t : Tr} {up : Nat}, TrAt N it up t → (∀ h ∈ t.list, N' h = N h) → TrAt N' it up t
 | .nil, _, _, _ => trivial
 | .node l h r, up, ⟨a, b, c, d⟩, hN => by
  simp only [Tr.list, List.mem_append, List.mem_cons] at hN
  exact ⟨a, by rw [hN h (.inr (.inl rfl))]; exact b, c.congr fun k hk => hN k (.inl hk), d.congr fun k hk => hN k (.inr (.inr hk))⟩
theorem TrAt.hung {N N' : Nodes} {it : Nat → Item} {t : Tr} {up up' : Nat} (h : TrAt N it up t) (hd : t.list.Nodup) (h1 : t.root ≠ 0 → N' t.root = { N t.root with up := up' }) (h2 : ∀ k ∈ t.list, k ≠ t.root → N' k = N k) : TrAt N' it up' t := by
 cases t with
 | nil => trivial
 | node l k r =>
  obtain ⟨a, b, c, d⟩ := h
  simp only [Tr.list, Tr.root, List.mem_append, List.mem_cons] at hd h1 h2
  rw [List.nodup_append] at hd
  obtain ⟨n1, n2, n3⟩ := hd
  rw [List.nodup_cons] at n2
  refine ⟨a, ?_, c.congr fun i hi => h2 i (.inl hi) (fun e => n3 i hi k (.head _) e), d.congr fun i hi => h2 i (.inr (.inr hi)) (fun e => n2.1 (e ▸ hi))⟩
  rw [h1 a, b]
  rfl
theorem TrAt.ne_zero {N : Nodes} {it : Nat → Item} : ∀ {t : Tr} {up : Nat}, TrAt N it up t → 0 ∉ t.list
 | .nil, _, _ => by simp [Tr.list]
 | .node l h r, up, ⟨a, b, c, d⟩ => by
  simp only [Tr.list, List.mem_append, List.mem_cons, not_or]
  exact ⟨c.ne_zero, Ne.symm a, d.ne_zero⟩
theorem Tr.root_mem {t : Tr} (h : t.root ≠ 0) : t.root ∈ t.list := by
 cases t with
 | nil => exact absurd rfl h
 | node l k r => simp [Tr.root, Tr.list]
end Go.Sp
namespace Go.Sp
open Go Go.Hp
set_option linter.unusedVariables false
set_option linter.unusedSimpArgs false

def hung (N : Nodes) (k u top x s : Nat) : Nodes := hangN (setUp (turn2 (hangN N u s x) top u k) k top) k (1 - s) u
theorem turnN_eq (N : Nodes) {k u top x s : Nat} (hu : (N k).up = u) (ht : (N u).up = top) (hs : sideN N u k = s) (hx : (N k).kid (1 - s) = x) : turnN N k = pullN (pullN (hung N k u top x s) u) k := by
 unfold turnN hung
 rw [hu, ht, hs, hx]
theorem hung_k {N : Nodes} {k u top x s : Nat} (h1 : k ≠ u) (h2 : k ≠ top) (h3 : k ≠ x) (hu : u ≠ 0) : hung N k u top x s k = { (N k).setKid (1 - s) u with up := top } := by
 unfold hung hangN turn2 setUp
 by_cases hx : x = 0 <;> by_cases ht : top = 0 <;> simp only [hx, ht, hu, if_true, if_false, upd, h1, h2, h3, Ne.symm h1, h1.symm, ne_eq, not_false_eq_true] <;> (unfold Rec.setKid; split <;> rfl)
theorem hung_u {N : Nodes} {k u top x s : Nat} (h1 : k ≠ u) (h2 : u ≠ top) (h3 : u ≠ x) (hu : u ≠ 0) : hung N k u top x s u = { (N u).setKid s x with up := k } := by
 unfold hung hangN turn2 setUp
 by_cases hx : x = 0 <;> by_cases ht : top = 0 <;> simp only [hx, ht, hu, if_true, if_false, upd, h1, h2, h3, Ne.symm h1] <;> rfl
theorem hung_x {N : Nodes} {k u top x s : Nat} (h1 : k ≠ x) (h2 : u ≠ x) (h3 : top ≠ x) (hu : u ≠ 0) (hx : x ≠ 0) : hung N k u top x s x = { N x with up := u } := by
 unfold hung hangN turn2 setUp
 by_cases ht : top = 0 <;> simp only [hx, ht, hu, if_true, if_false, upd, h1.symm, h2.symm, Ne.symm h3, h1, h2, h3]
theorem hung_top {N : Nodes} {k u top x s : Nat} (h1 : k ≠ top) (h2 : u ≠ top) (h3 : top ≠ x) (hu : u ≠ 0) (ht : top ≠ 0) : hung N k u top x s top = (N top).setKid (sideN N top u) k := by
 unfold hung hangN turn2 setUp sideN
 by_cases hx : x = 0 <;> simp only [hx, ht, hu, if_true, if_false, upd, h1.symm, h2.symm, h3, h1, h2]
theorem hung_ne {N : Nodes} {k u top x s i : Nat} (h1 : i ≠ k) (h2 : i ≠ u) (h3 : i ≠ x ∨ x = 0) (h4 : i ≠ top ∨ top = 0) (hu : u ≠ 0) : hung N k u top x s i = N i := by
 unfold hung hangN turn2 setUp
 by_cases hx : x = 0 <;> by_cases ht : top = 0 <;> simp only [hx, ht, hu, if_true, if_false, upd, h1, h2, or_false, or_true] at h3 h4 ⊢ <;> simp only [h3, h4, if_false]
theorem belowN_congr {N N' : Nodes} {y : Nat} (h : y ≠ 0 → (N' y).many = (N y).many ∧ (N' y).total = (N y).total) : belowN N' y = belowN N y := by
 unfold belowN
 by_cases hy : y = 0
 ·rw [if_pos hy, if_pos hy]
 ·rw [if_neg hy, if_neg hy, (h hy).1, (h hy).2]
theorem TrAt.below {N : Nodes} {it : Nat → Item} {t : Tr} {up : Nat} (h : TrAt N it up t) : belowN N t.root = ((t.list.length : Int), aggOf it t.list) := by
 cases t with
 | nil => rfl
 | node l k r =>
  obtain ⟨a, b, _, _⟩ := h
  have e : belowN N k = ((N k).many, (N k).total) := if_neg a
  show belowN N k = _
  rw [e, b]
  rfl
theorem pullR_of {N : Nodes} {it : Nat → Item} {h up l r : Nat} {xs ys : List Nat} (hl : belowN N l = ((xs.length : Int), aggOf it xs)) (hr : belowN N r = ((ys.length : Int), aggOf it ys))
  (e1 : (N h).item = it h) (e2 : (N h).up = up) (e3 : (N h).l = l) (e4 : (N h).r = r) (hm : ∀ i ∈ xs ++ h :: ys, May (it i)) (hlen : (xs ++ h :: ys).length ≤ 4096) : pullR N h = recOf it up l h r (xs ++ h :: ys) := by
 simp only [List.length_append, List.length_cons] at hlen
 have mx : ∀ x ∈ xs.map it, May x := fun x hx => by
  obtain ⟨i, hi, rfl⟩ := List.mem_map.1 hx
  exact hm i (List.mem_append_left _ hi)
 have my : ∀ x ∈ ys.map it, May x := fun x hx => by
  obtain ⟨i, hi, rfl⟩ := List.mem_map.1 hx
  exact hm i (List.mem_append_right _ (.tail _ hi))
 have mh : May (it h) := hm h (List.mem_append_right _ (.head _))
 have t1 : plusA (aggOf it xs) (ownA (it h)) = aggL (xs.map it ++ [it h]) := by
  rw [ownA_aggL mh]
  exact plusA_aggL mx (fun y hy => by rw [List.mem_singleton.1 hy]; exact mh) (by simp; omega)
 have t2 : plusA (aggL (xs.map it ++ [it h])) (aggOf it ys) = aggL ((xs.map it ++ [it h]) ++ ys.map it) := by
  refine plusA_aggL (fun x hx => ?_) my (by simp; omega)
  rcases List.mem_append.1 hx with hx | hx
  ·exact mx x hx
  ·rw [List.mem_singleton.1 hx]; exact mh
 unfold pullR recOf
 rw [e1, e3, e4, hl, hr, t1, t2]
 have w1 : w64 (w64 ((xs.length : Int) + 1) + (ys.length : Int)) = (((xs ++ h :: ys).length : Nat) : Int) := by
  have : w64 ((xs.length : Int) + 1) = (xs.length : Int) + 1 := by unfold w64; rw [wrap_i64] <;> omega
  rw [this]
  unfold w64
  rw [wrap_i64]
  ·simp only [List.length_append, List.length_cons]; omega
  ·omega
  ·omega
 simp only [w1]
 have e5 : aggL ((xs.map it ++ [it h]) ++ ys.map it) = aggOf it (xs ++ h :: ys) := by unfold aggOf; simp
 rw [e5]
 cases hN : N h with
 | mk a b c d f g =>
  rw [hN] at e1 e2 e3 e4
  simp only [] at e1 e2 e3 e4
  subst e1 e2 e3 e4
  rfl
end Go.Sp
namespace Go.Sp
open Go Go.Hp
set_option linter.unusedVariables false
set_option linter.unusedSimpArgs false

def ctx : List Fm → List Nat
 | [] => []
 | ⟨_, h, s⟩ :: ps => h :: (s.list ++ ctx ps)
theorem plug_perm : ∀ (ps : List Fm) (t : Tr), (plug t ps).list.Perm (t.list ++ ctx ps)
 | [], t => by simp [plug, ctx]
 | ⟨false, h, s⟩ :: ps, t => by
  have := plug_perm ps (.node t h s)
  simpa [plug, ctx, Tr.list] using this
 | ⟨true, h, s⟩ :: ps, t => by
  have h1 := plug_perm ps (.node s h t)
  simp only [plug, ctx, Tr.list] at h1 ⊢
  refine h1.trans ?_
  rw [List.append_assoc, List.cons_append]
  have e1 : (s.list ++ h :: (t.list ++ ctx ps)).Perm (h :: s.list ++ (t.list ++ ctx ps)) := List.perm_middle
  refine e1.trans ?_
  rw [← List.append_assoc]
  have e2 : (h :: s.list ++ t.list).Perm (t.list ++ (h :: s.list)) := List.perm_append_comm
  have := e2.append_right (ctx ps)
  simpa using this
theorem PathAt.congr {N N' : Nodes} {it : Nat → Item} : ∀ {ps : List Fm} {x : Nat} {xs : List Nat}, PathAt N it x xs ps → (∀ i ∈ ctx ps, N' i = N i) → PathAt N' it x xs ps
 | [], _, _, _, _ => trivial
 | ⟨false, h, s⟩ :: ps, x, xs, ⟨a, b, c, d⟩, hN => by
  simp only [ctx, List.mem_cons, List.mem_append] at hN
  exact ⟨a, by rw [hN h (.inl rfl)]; exact b, c.congr fun i hi => hN i (.inr (.inl hi)), d.congr fun i hi => hN i (.inr (.inr hi))⟩
 | ⟨true, h, s⟩ :: ps, x, xs, ⟨a, b, c, d⟩, hN => by
  simp only [ctx, List.mem_cons, List.mem_append] at hN
  exact ⟨a, by rw [hN h (.inl rfl)]; exact b, c.congr fun i hi => hN i (.inr (.inl hi)), d.congr fun i hi => hN i (.inr (.inr hi))⟩
theorem PathAt.ne_zero {N : Nodes} {it : Nat → Item} : ∀ {ps : List Fm} {x : Nat} {xs : List Nat}, PathAt N it x xs ps → 0 ∉ ctx ps
 | [], _, _, _ => by simp [ctx]
 | ⟨false, h, s⟩ :: ps, x, xs, ⟨a, b, c, d⟩ => by
  simp only [ctx, List.mem_cons, List.mem_append, not_or]
  exact ⟨Ne.symm a, c.ne_zero, d.ne_zero⟩
 | ⟨true, h, s⟩ :: ps, x, xs, ⟨a, b, c, d⟩ => by
  simp only [ctx, List.mem_cons, List.mem_append, not_or]
  exact ⟨Ne.symm a, c.ne_zero, d.ne_zero⟩
theorem PathAt.swap {N N' : Nodes} {it : Nat → Item} {ps : List Fm} {u k : Nat} {xs : List Nat} (h : PathAt N it u xs ps) (hu : u ≠ 0) (hn : u ∉ ctx ps) (hd : (ctx ps).Nodup)
  (ht : upOf ps ≠ 0 → N' (upOf ps) = (N (upOf ps)).setKid (sideN N (upOf ps) u) k) (ho : ∀ i ∈ ctx ps, i ≠ upOf ps → N' i = N i) : PathAt N' it k xs ps := by
 cases ps with
 | nil => trivial
 | cons f ps =>
  obtain ⟨side, h', s⟩ := f
  simp only [ctx, List.nodup_cons, List.mem_append, not_or, upOf, List.mem_cons] at hn hd ht ho
  have hsr : s.root ≠ u := fun e => by
   have h0 : s.root ≠ 0 := by rw [e]; exact hu
   exact hn.2.1 (e ▸ Tr.root_mem h0)
  cases side with
  | false =>
   obtain ⟨a, b, c, d⟩ := h
   refine ⟨a, ?_, c.congr fun i hi => ho i (.inr (.inl hi)) (fun e => hd.1.1 (e ▸ hi)), d.congr fun i hi => ho i (.inr (.inr hi)) (fun e => hd.1.2 (e ▸ hi))⟩
   rw [ht a]
   have e1 : sideN N h' u = 0 := by unfold sideN; rw [b]; exact if_neg hsr
   rw [e1, b]
   rfl
  | true =>
   obtain ⟨a, b, c, d⟩ := h
   refine ⟨a, ?_, c.congr fun i hi => ho i (.inr (.inl hi)) (fun e => hd.1.1 (e ▸ hi)), d.congr fun i hi => ho i (.inr (.inr hi)) (fun e => hd.1.2 (e ▸ hi))⟩
   rw [ht a]
   have e1 : sideN N h' u = 1 := by unfold sideN; rw [b]; exact if_pos rfl
   rw [e1, b]
   rfl
theorem upOf_mem {ps : List Fm} (h : upOf ps ≠ 0) : upOf ps ∈ ctx ps := by
 cases ps with
 | nil => exact absurd rfl h
 | cons f ps => simp [upOf, ctx]
theorem rot_left {N : Nodes} {it : Nat → Item} {a b c : Tr} {k u : Nat} {ps : List Fm} (h : TrAt N it 0 (plug (.node a k b) (⟨false, u, c⟩ :: ps))) (hd : ((a.list ++ k :: b.list) ++ (u :: (c.list ++ ctx ps))).Nodup)
  (hm : ∀ i ∈ (a.list ++ k :: b.list) ++ u :: c.list, May (it i)) (hl : ((a.list ++ k :: b.list) ++ u :: c.list).length ≤ 4096) : TrAt (turnN N k) it 0 (plug (.node a k (.node b u c)) ps) := by
 obtain ⟨⟨k0, ek, ha, hb⟩, u0, eu, hc, hp⟩ := (trAt_plug _ _).1 h
 simp only [upOf, Tr.root, Tr.list] at ek eu hp
 have za := ha.ne_zero
 have zb := hb.ne_zero
 have zc := hc.ne_zero
 have zp := hp.ne_zero
 have hd0 := hd
 simp only [List.nodup_append, List.nodup_cons, List.mem_append, List.mem_cons, not_or] at hd
 obtain ⟨⟨na, ⟨kb, nb⟩, dab⟩, ⟨⟨uc, up⟩, nc, np, dcp⟩, dX⟩ := hd
 have hku : k ≠ u := dX k (.inr (.inl rfl)) u (.inl rfl)
 have hkc : k ∉ c.list := fun e => dX k (.inr (.inl rfl)) k (.inr (.inl e)) rfl
 have hkp : k ∉ ctx ps := fun e => dX k (.inr (.inl rfl)) k (.inr (.inr e)) rfl
 have hua : u ∉ a.list := fun e => dX u (.inl e) u (.inl rfl) rfl
 have hub : u ∉ b.list := fun e => dX u (.inr (.inr e)) u (.inl rfl) rfl
 have hka : k ∉ a.list := fun e => dab k e k (.inl rfl) rfl
 have hbr : b.root ≠ 0 → b.root ∈ b.list := Tr.root_mem
 have hup : upOf ps ≠ 0 → upOf ps ∈ ctx ps := upOf_mem
 have hkt : k ≠ upOf ps := fun e => hkp (e ▸ hup (e ▸ k0))
 have hut : u ≠ upOf ps := fun e => up (e ▸ hup (e ▸ u0))
 have hkx : k ≠ b.root := fun e => kb (e ▸ hbr (e ▸ k0))
 have hux : u ≠ b.root := fun e => hub (e ▸ hbr (e ▸ u0))
 have htx : upOf ps ≠ b.root ∨ b.root = 0 := by
  by_cases h0 : b.root = 0
  ·exact .inr h0
  ·refine .inl fun e => ?_
   have h1 := hbr h0
   exact dX b.root (.inr (.inr h1)) b.root (.inr (.inr (e ▸ hup (by rw [e]; exact h0)))) rfl
 have hcr : c.root ≠ k := fun e => hkc (e ▸ Tr.root_mem (by rw [e]; exact k0))
 have es : sideN N u k = 0 := by unfold sideN; rw [eu]; exact if_neg hcr
 have et : turnN N k = pullN (pullN (hung N k u (upOf ps) b.root 0) u) k := turnN_eq N (by rw [ek]; rfl) (by rw [eu]; rfl) es (by rw [ek]; rfl)
 generalize hM : hung N k u (upOf ps) b.root 0 = M at et
 have Mk : M k = { (N k).setKid 1 u with up := upOf ps } := by rw [← hM]; exact hung_k hku hkt hkx u0
 have Mu : M u = { (N u).setKid 0 b.root with up := k } := by rw [← hM]; exact hung_u hku hut hux u0
 have Mx : b.root ≠ 0 → M b.root = { N b.root with up := u } := fun h0 => by rw [← hM]; exact hung_x hkx hux (htx.resolve_right h0) u0 h0
 have Mt : upOf ps ≠ 0 → M (upOf ps) = (N (upOf ps)).setKid (sideN N (upOf ps) u) k := fun h0 => by
  rw [← hM]
  by_cases hb0 : b.root = 0
  ·rw [hb0]; exact hung_top hkt hut h0 u0 h0
  ·exact hung_top hkt hut (htx.resolve_right hb0) u0 h0
 have Mo : ∀ i, i ≠ k → i ≠ u → (i ≠ b.root ∨ b.root = 0) → (i ≠ upOf ps ∨ upOf ps = 0) → M i = N i := fun i h1 h2 h3 h4 => by rw [← hM]; exact hung_ne h1 h2 h3 h4 u0
 have inX : ∀ i, i ∈ a.list ∨ i ∈ b.list ∨ i ∈ c.list → i ≠ upOf ps ∨ upOf ps = 0 := fun i hi => by
  by_cases h0 : upOf ps = 0
  ·exact .inr h0
  ·refine .inl fun e => ?_
   have h1 := hup h0
   rw [← e] at h1
   rcases hi with hi | hi | hi
   ·exact dX i (.inl hi) i (.inr (.inr h1)) rfl
   ·exact dX i (.inr (.inr hi)) i (.inr (.inr h1)) rfl
   ·exact dcp i hi i h1 rfl
 have offb : ∀ i, (i ∈ a.list ∨ i ∈ c.list ∨ i ∈ ctx ps) → i ≠ b.root ∨ b.root = 0 := fun i hi => by
  by_cases h0 : b.root = 0
  ·exact .inr h0
  ·refine .inl fun e => ?_
   have h1 := hbr h0
   rw [← e] at h1
   rcases hi with hi | hi | hi
   ·exact dab i hi i (.inr h1) rfl
   ·exact dX i (.inr (.inr h1)) i (.inr (.inl hi)) rfl
   ·exact dX i (.inr (.inr h1)) i (.inr (.inr hi)) rfl
 have Ma : ∀ i ∈ a.list, M i = N i := fun i hi => Mo i (fun e => hka (e ▸ hi)) (fun e => hua (e ▸ hi)) (offb i (.inl hi)) (inX i (.inl hi))
 have Mc : ∀ i ∈ c.list, M i = N i := fun i hi => Mo i (fun e => hkc (e ▸ hi)) (fun e => uc (e ▸ hi)) (offb i (.inr (.inl hi))) (inX i (.inr (.inr hi)))
 have Mb : ∀ i ∈ b.list, i ≠ b.root → M i = N i := fun i hi hne => Mo i (fun e => kb (e ▸ hi)) (fun e => hub (e ▸ hi)) (.inl hne) (inX i (.inr (.inl hi)))
 have hbM : TrAt M it u b := hb.hung nb Mx Mb
 have hcM : TrAt M it u c := hc.congr Mc
 have p1 : pullR M u = recOf it k b.root u c.root (b.list ++ u :: c.list) := by
  refine pullR_of hbM.below hcM.below (by rw [Mu, eu]; rfl) (by rw [Mu]) (by rw [Mu]; rfl) (by rw [Mu, eu]; rfl) (fun i hi => hm i ?_) ?_
  ·simp only [List.mem_append, List.mem_cons] at hi ⊢
   rcases hi with hi | hi | hi
   ·exact .inl (.inr (.inr hi))
   ·exact .inr (.inl hi)
   ·exact .inr (.inr hi)
  ·simp only [List.length_append, List.length_cons] at hl ⊢; omega
 have N5 : pullN M u = upd M u (recOf it k b.root u c.root (b.list ++ u :: c.list)) := by unfold pullN; rw [p1]
 rw [N5] at et
 have haM : TrAt (upd M u (recOf it k b.root u c.root (b.list ++ u :: c.list))) it k a := ha.congr fun i hi => by
  rw [upd_ne (i := i) _ _ (show i ≠ u from fun e => hua (e ▸ hi))]; exact Ma i hi
 have p2 : pullR (upd M u (recOf it k b.root u c.root (b.list ++ u :: c.list))) k = recOf it (upOf ps) a.root k u (a.list ++ k :: (b.list ++ u :: c.list)) := by
  have e5 : upd M u (recOf it k b.root u c.root (b.list ++ u :: c.list)) k = M k := upd_ne _ _ hku
  refine pullR_of haM.below ?_ (by rw [e5, Mk, ek]; rfl) (by rw [e5, Mk]) (by rw [e5, Mk, ek]; rfl) (by rw [e5, Mk]; rfl) (fun i hi => hm i ?_) ?_
  ·unfold belowN
   rw [if_neg u0, upd_same]
   rfl
  ·simp only [List.mem_append, List.mem_cons] at hi ⊢
   rcases hi with hi | hi | hi | hi | hi
   ·exact .inl (.inl hi)
   ·exact .inl (.inr (.inl hi))
   ·exact .inl (.inr (.inr hi))
   ·exact .inr (.inl hi)
   ·exact .inr (.inr hi)
  ·simp only [List.length_append, List.length_cons] at hl ⊢; omega
 have N6 : turnN N k = upd (upd M u (recOf it k b.root u c.root (b.list ++ u :: c.list))) k (recOf it (upOf ps) a.root k u (a.list ++ k :: (b.list ++ u :: c.list))) := by
  rw [et]; unfold pullN; rw [p2]
 have old : ∀ i, i ≠ k → i ≠ u → turnN N k i = M i := fun i h1 h2 => by rw [N6, upd_ne _ _ h1, upd_ne _ _ h2]
 refine (trAt_plug _ _).2 ⟨⟨k0, by rw [N6, upd_same]; rfl, ha.congr fun i hi => ?_, u0, ?_, ?_, ?_⟩, ?_⟩
 ·rw [old i (fun e => hka (e ▸ hi)) (fun e => hua (e ▸ hi))]; exact Ma i hi
 ·rw [N6, upd_ne _ _ (Ne.symm hku), upd_same]
 ·exact hbM.congr fun i hi => old i (fun e => kb (e ▸ hi)) (fun e => hub (e ▸ hi))
 ·exact hcM.congr fun i hi => old i (fun e => hkc (e ▸ hi)) (fun e => uc (e ▸ hi))
 ·simp only [Tr.root, Tr.list]
  have e : a.list ++ k :: (b.list ++ u :: c.list) = (a.list ++ k :: b.list) ++ u :: c.list := by simp
  rw [e]
  refine hp.swap u0 up np (fun h0 => ?_) (fun i hi hne => ?_)
  ·rw [old _ (Ne.symm hkt) (Ne.symm hut)]; exact Mt h0
  ·rw [old i (fun e => hkp (e ▸ hi)) (fun e => up (e ▸ hi))]
   exact Mo i (fun e => hkp (e ▸ hi)) (fun e => up (e ▸ hi)) (offb i (.inr (.inr hi))) (.inl hne)
theorem rot_right {N : Nodes} {it : Nat → Item} {a b c : Tr} {k u : Nat} {ps : List Fm} (h : TrAt N it 0 (plug (.node a k b) (⟨true, u, c⟩ :: ps))) (hd : ((a.list ++ k :: b.list) ++ (u :: (c.list ++ ctx ps))).Nodup)
  (hm : ∀ i ∈ (a.list ++ k :: b.list) ++ u :: c.list, May (it i)) (hl : ((a.list ++ k :: b.list) ++ u :: c.list).length ≤ 4096) : TrAt (turnN N k) it 0 (plug (.node (.node c u a) k b) ps) := by
 obtain ⟨⟨k0, ek, ha, hb⟩, u0, eu, hc, hp⟩ := (trAt_plug _ _).1 h
 simp only [upOf, Tr.root, Tr.list] at ek eu hp
 have za := ha.ne_zero
 have zb := hb.ne_zero
 have zc := hc.ne_zero
 have zp := hp.ne_zero
 have hd0 := hd
 simp only [List.nodup_append, List.nodup_cons, List.mem_append, List.mem_cons, not_or] at hd
 obtain ⟨⟨na, ⟨kb, nb⟩, dab⟩, ⟨⟨uc, up⟩, nc, np, dcp⟩, dX⟩ := hd
 have hku : k ≠ u := dX k (.inr (.inl rfl)) u (.inl rfl)
 have hkc : k ∉ c.list := fun e => dX k (.inr (.inl rfl)) k (.inr (.inl e)) rfl
 have hkp : k ∉ ctx ps := fun e => dX k (.inr (.inl rfl)) k (.inr (.inr e)) rfl
 have hua : u ∉ a.list := fun e => dX u (.inl e) u (.inl rfl) rfl
 have hub : u ∉ b.list := fun e => dX u (.inr (.inr e)) u (.inl rfl) rfl
 have hka : k ∉ a.list := fun e => dab k e k (.inl rfl) rfl
 have hbr : a.root ≠ 0 → a.root ∈ a.list := Tr.root_mem
 have hup : upOf ps ≠ 0 → upOf ps ∈ ctx ps := upOf_mem
 have hkt : k ≠ upOf ps := fun e => hkp (e ▸ hup (e ▸ k0))
 have hut : u ≠ upOf ps := fun e => up (e ▸ hup (e ▸ u0))
 have hkx : k ≠ a.root := fun e => hka (e ▸ hbr (e ▸ k0))
 have hux : u ≠ a.root := fun e => hua (e ▸ hbr (e ▸ u0))
 have htx : upOf ps ≠ a.root ∨ a.root = 0 := by
  by_cases h0 : a.root = 0
  ·exact .inr h0
  ·refine .inl fun e => ?_
   have h1 := hbr h0
   exact dX a.root (.inl h1) a.root (.inr (.inr (e ▸ hup (by rw [e]; exact h0)))) rfl
 have es : sideN N u k = 1 := by unfold sideN; rw [eu]; exact if_pos rfl
 have et : turnN N k = pullN (pullN (hung N k u (upOf ps) a.root 1) u) k := turnN_eq N (by rw [ek]; rfl) (by rw [eu]; rfl) es (by rw [ek]; rfl)
 generalize hM : hung N k u (upOf ps) a.root 1 = M at et
 have Mk : M k = { (N k).setKid 0 u with up := upOf ps } := by rw [← hM]; exact hung_k hku hkt hkx u0
 have Mu : M u = { (N u).setKid 1 a.root with up := k } := by rw [← hM]; exact hung_u hku hut hux u0
 have Mx : a.root ≠ 0 → M a.root = { N a.root with up := u } := fun h0 => by rw [← hM]; exact hung_x hkx hux (htx.resolve_right h0) u0 h0
 have Mt : upOf ps ≠ 0 → M (upOf ps) = (N (upOf ps)).setKid (sideN N (upOf ps) u) k := fun h0 => by
  rw [← hM]
  by_cases hb0 : a.root = 0
  ·rw [hb0]; exact hung_top hkt hut h0 u0 h0
  ·exact hung_top hkt hut (htx.resolve_right hb0) u0 h0
 have Mo : ∀ i, i ≠ k → i ≠ u → (i ≠ a.root ∨ a.root = 0) → (i ≠ upOf ps ∨ upOf ps = 0) → M i = N i := fun i h1 h2 h3 h4 => by rw [← hM]; exact hung_ne h1 h2 h3 h4 u0
 have inX : ∀ i, i ∈ a.list ∨ i ∈ b.list ∨ i ∈ c.list → i ≠ upOf ps ∨ upOf ps = 0 := fun i hi => by
  by_cases h0 : upOf ps = 0
  ·exact .inr h0
  ·refine .inl fun e => ?_
   have h1 := hup h0
   rw [← e] at h1
   rcases hi with hi | hi | hi
   ·exact dX i (.inl hi) i (.inr (.inr h1)) rfl
   ·exact dX i (.inr (.inr hi)) i (.inr (.inr h1)) rfl
   ·exact dcp i hi i h1 rfl
 have offb : ∀ i, (i ∈ b.list ∨ i ∈ c.list ∨ i ∈ ctx ps) → i ≠ a.root ∨ a.root = 0 := fun i hi => by
  by_cases h0 : a.root = 0
  ·exact .inr h0
  ·refine .inl fun e => ?_
   have h1 := hbr h0
   rw [← e] at h1
   rcases hi with hi | hi | hi
   ·exact dab i h1 i (.inr hi) rfl
   ·exact dX i (.inl h1) i (.inr (.inl hi)) rfl
   ·exact dX i (.inl h1) i (.inr (.inr hi)) rfl
 have Mb : ∀ i ∈ b.list, M i = N i := fun i hi => Mo i (fun e => kb (e ▸ hi)) (fun e => hub (e ▸ hi)) (offb i (.inl hi)) (inX i (.inr (.inl hi)))
 have Mc : ∀ i ∈ c.list, M i = N i := fun i hi => Mo i (fun e => hkc (e ▸ hi)) (fun e => uc (e ▸ hi)) (offb i (.inr (.inl hi))) (inX i (.inr (.inr hi)))
 have Ma : ∀ i ∈ a.list, i ≠ a.root → M i = N i := fun i hi hne => Mo i (fun e => hka (e ▸ hi)) (fun e => hua (e ▸ hi)) (.inl hne) (inX i (.inl hi))
 have haM : TrAt M it u a := ha.hung na Mx Ma
 have hcM : TrAt M it u c := hc.congr Mc
 have p1 : pullR M u = recOf it k c.root u a.root (c.list ++ u :: a.list) := by
  refine pullR_of hcM.below haM.below (by rw [Mu, eu]; rfl) (by rw [Mu]) (by rw [Mu, eu]; rfl) (by rw [Mu]; rfl) (fun i hi => hm i ?_) ?_
  ·simp only [List.mem_append, List.mem_cons] at hi ⊢
   rcases hi with hi | hi | hi
   ·exact .inr (.inr hi)
   ·exact .inr (.inl hi)
   ·exact .inl (.inl hi)
  ·simp only [List.length_append, List.length_cons] at hl ⊢; omega
 have N5 : pullN M u = upd M u (recOf it k c.root u a.root (c.list ++ u :: a.list)) := by unfold pullN; rw [p1]
 rw [N5] at et
 have hbM : TrAt (upd M u (recOf it k c.root u a.root (c.list ++ u :: a.list))) it k b := hb.congr fun i hi => by
  rw [upd_ne (i := i) _ _ (show i ≠ u from fun e => hub (e ▸ hi))]; exact Mb i hi
 have p2 : pullR (upd M u (recOf it k c.root u a.root (c.list ++ u :: a.list))) k = recOf it (upOf ps) u k b.root ((c.list ++ u :: a.list) ++ k :: b.list) := by
  have e5 : upd M u (recOf it k c.root u a.root (c.list ++ u :: a.list)) k = M k := upd_ne _ _ hku
  refine pullR_of (xs := c.list ++ u :: a.list) ?_ hbM.below (by rw [e5, Mk, ek]; rfl) (by rw [e5, Mk]) (by rw [e5, Mk]; rfl) (by rw [e5, Mk, ek]; rfl) (fun i hi => hm i ?_) ?_
  ·unfold belowN
   rw [if_neg u0, upd_same]
   rfl
  ·simp only [List.mem_append, List.mem_cons] at hi ⊢
   rcases hi with (hi | hi | hi) | hi | hi
   ·exact .inr (.inr hi)
   ·exact .inr (.inl hi)
   ·exact .inl (.inl hi)
   ·exact .inl (.inr (.inl hi))
   ·exact .inl (.inr (.inr hi))
  ·simp only [List.length_append, List.length_cons] at hl ⊢; omega
 have N6 : turnN N k = upd (upd M u (recOf it k c.root u a.root (c.list ++ u :: a.list))) k (recOf it (upOf ps) u k b.root ((c.list ++ u :: a.list) ++ k :: b.list)) := by
  rw [et]; unfold pullN; rw [p2]
 have old : ∀ i, i ≠ k → i ≠ u → turnN N k i = M i := fun i h1 h2 => by rw [N6, upd_ne _ _ h1, upd_ne _ _ h2]
 refine (trAt_plug _ _).2 ⟨⟨k0, by rw [N6, upd_same]; rfl, ⟨u0, ?_, ?_, ?_⟩, hb.congr fun i hi => ?_⟩, ?_⟩
 ·rw [N6, upd_ne _ _ (Ne.symm hku), upd_same]
 ·exact hcM.congr fun i hi => old i (fun e => hkc (e ▸ hi)) (fun e => uc (e ▸ hi))
 ·exact haM.congr fun i hi => old i (fun e => hka (e ▸ hi)) (fun e => hua (e ▸ hi))
 ·rw [old i (fun e => kb (e ▸ hi)) (fun e => hub (e ▸ hi))]; exact Mb i hi
 ·simp only [Tr.root, Tr.list]
  have e : (c.list ++ u :: a.list) ++ k :: b.list = c.list ++ u :: (a.list ++ k :: b.list) := by simp
  rw [e]
  refine hp.swap u0 up np (fun h0 => ?_) (fun i hi hne => ?_)
  ·rw [old _ (Ne.symm hkt) (Ne.symm hut)]; exact Mt h0
  ·rw [old i (fun e => hkp (e ▸ hi)) (fun e => up (e ▸ hi))]
   exact Mo i (fun e => hkp (e ▸ hi)) (fun e => up (e ▸ hi)) (offb i (.inr (.inr hi))) (.inl hne)
end Go.Sp
namespace Go.Sp
open Go Go.Hp
set_option linter.unusedVariables false
set_option linter.unusedSimpArgs false

structure Row (it : Nat → Item) (xs : List Nat) : Prop where
 nd : xs.Nodup
 may : ∀ i ∈ xs, May (it i)
 len : xs.length ≤ 4096
theorem plug_list : ∀ (ps : List Fm) {t t' : Tr}, t.list = t'.list → (plug t ps).list = (plug t' ps).list
 | [], _, _, h => h
 | ⟨false, h, s⟩ :: ps, t, t', e => plug_list ps (t := .node t h s) (t' := .node t' h s) (by simp [Tr.list, e])
 | ⟨true, h, s⟩ :: ps, t, t', e => plug_list ps (t := .node s h t) (t' := .node s h t') (by simp [Tr.list, e])
section
variable {N : Nodes} {it : Nat → Item} {a b c : Tr} {k u : Nat} {ps : List Fm} {xs : List Nat}
theorem turn_left (h : TrAt N it 0 (plug (.node a k b) (⟨false, u, c⟩ :: ps))) (e : (plug (.node a k b) (⟨false, u, c⟩ :: ps)).list = xs) (r : Row it xs) :
  TrAt (turnN N k) it 0 (plug (.node a k (.node b u c)) ps) ∧ (plug (.node a k (.node b u c)) ps).list = xs := by
 have hp := plug_perm (⟨false, u, c⟩ :: ps) (.node a k b)
 rw [e] at hp
 simp only [Tr.list, ctx] at hp
 refine ⟨rot_left h ((hp.nodup_iff).1 r.nd) (fun i hi => r.may i (hp.mem_iff.2 ?_)) ?_, ?_⟩
 ·simp only [List.mem_append, List.mem_cons] at hi ⊢
  rcases hi with hi | hi | hi
  ·exact .inl hi
  ·exact .inr (.inl hi)
  ·exact .inr (.inr (.inl hi))
 ·have := hp.length_eq
  have := r.len
  simp only [List.length_append, List.length_cons] at this ⊢
  simp only [List.length_append, List.length_cons] at *
  omega
 ·rw [← e]
  exact plug_list ps (by simp [Tr.list])
theorem turn_right (h : TrAt N it 0 (plug (.node a k b) (⟨true, u, c⟩ :: ps))) (e : (plug (.node a k b) (⟨true, u, c⟩ :: ps)).list = xs) (r : Row it xs) :
  TrAt (turnN N k) it 0 (plug (.node (.node c u a) k b) ps) ∧ (plug (.node (.node c u a) k b) ps).list = xs := by
 have hp := plug_perm (⟨true, u, c⟩ :: ps) (.node a k b)
 rw [e] at hp
 simp only [Tr.list, ctx] at hp
 refine ⟨rot_right h ((hp.nodup_iff).1 r.nd) (fun i hi => r.may i (hp.mem_iff.2 ?_)) ?_, ?_⟩
 ·simp only [List.mem_append, List.mem_cons] at hi ⊢
  rcases hi with hi | hi | hi
  ·exact .inl hi
  ·exact .inr (.inl hi)
  ·exact .inr (.inr (.inl hi))
 ·have := hp.length_eq
  have := r.len
  simp only [List.length_append, List.length_cons] at *
  omega
 ·rw [← e]
  exact plug_list ps (by simp [Tr.list])
theorem up_of (h : TrAt N it 0 (plug (.node a k b) ps)) : (N k).up = upOf ps ∧ k ≠ 0 := by
 obtain ⟨⟨k0, ek, _⟩, _⟩ := (trAt_plug _ _).1 h
 exact ⟨by rw [ek]; rfl, k0⟩
theorem side_left (h : TrAt N it 0 (plug (.node a k b) (⟨false, u, c⟩ :: ps))) (e : (plug (.node a k b) (⟨false, u, c⟩ :: ps)).list = xs) (r : Row it xs) : sideN N u k = 0 := by
 obtain ⟨⟨k0, ek, _⟩, u0, eu, hc, hp⟩ := (trAt_plug _ _).1 h
 have hp := plug_perm (⟨false, u, c⟩ :: ps) (.node a k b)
 rw [e] at hp
 have hd := (hp.nodup_iff).1 r.nd
 simp only [Tr.list, ctx, List.nodup_append, List.nodup_cons, List.mem_append, List.mem_cons, not_or] at hd
 obtain ⟨_, _, dX⟩ := hd
 unfold sideN
 rw [eu]
 refine if_neg fun e => ?_
 have e' : c.root = k := e
 exact dX k (.inr (.inl rfl)) k (.inr (.inl (by have := Tr.root_mem (t := c) (by rw [e']; exact k0); rwa [e'] at this))) rfl
theorem side_right (h : TrAt N it 0 (plug (.node a k b) (⟨true, u, c⟩ :: ps))) : sideN N u k = 1 := by
 obtain ⟨⟨k0, ek, _⟩, u0, eu, hc, hp⟩ := (trAt_plug _ _).1 h
 unfold sideN
 rw [eu]
 exact if_pos rfl
end
theorem turnN_ne {N : Nodes} {k i : Nat} (h1 : i ≠ k) (h2 : i ≠ (N k).up) (h3 : ∀ s, i ≠ (N k).kid s ∨ (N k).kid s = 0) (h4 : i ≠ (N (N k).up).up ∨ (N (N k).up).up = 0) (hu : (N k).up ≠ 0) : turnN N k i = N i := by
 rw [turnN_eq N rfl rfl rfl rfl]
 unfold pullN
 rw [upd_ne _ _ h1, upd_ne _ _ h2]
 exact hung_ne h1 h2 (h3 _) h4 hu
theorem turn_off {N : Nodes} {it : Nat → Item} {a b : Tr} {k : Nat} {f : Fm} {ps : List Fm} {xs : List Nat} (h : TrAt N it 0 (plug (.node a k b) (f :: ps))) (e : (plug (.node a k b) (f :: ps)).list = xs) {i : Nat} (hi : i ∉ xs) : turnN N k i = N i := by
 have hp := plug_perm (f :: ps) (.node a k b)
 rw [e] at hp
 have hm : ∀ j, j ∈ a.list ∨ j = k ∨ j ∈ b.list ∨ j ∈ ctx (f :: ps) → j ∈ xs := fun j hj => hp.mem_iff.2 (by
  simp only [Tr.list, List.mem_append, List.mem_cons]
  rcases hj with hj | hj | hj | hj
  ·exact .inl (.inl hj)
  ·exact .inl (.inr (.inl hj))
  ·exact .inl (.inr (.inr hj))
  ·exact .inr hj)
 obtain ⟨hu, k0⟩ := up_of h
 obtain ⟨⟨_, ek, _⟩, hpath⟩ := (trAt_plug _ _).1 h
 have hf : f.h ∈ ctx (f :: ps) := by cases f; simp [ctx]
 have hu' : (N k).up = f.h := hu
 have u0 : f.h ≠ 0 := fun e0 => hpath.ne_zero (e0 ▸ hf)
 have eu : (N f.h).up = upOf ps := by
  obtain ⟨side, u, c⟩ := f
  cases side
  ·obtain ⟨_, eu, _⟩ := hpath; exact congrArg Rec.up eu
  ·obtain ⟨_, eu, _⟩ := hpath; exact congrArg Rec.up eu
 refine turnN_ne (fun e => hi (hm i (.inr (.inl e)))) (fun e => hi (hm i (.inr (.inr (.inr (by rw [e, hu']; exact hf)))))) (fun s => ?_) ?_ (by rw [hu']; exact u0)
 ·by_cases h0 : (N k).kid s = 0
  ·exact .inr h0
  ·refine .inl fun e => hi (hm i ?_)
   rw [ek] at h0 e
   unfold Rec.kid at h0 e
   by_cases hs : s = 0
   ·rw [if_pos hs] at h0 e
    exact .inl (by rw [e]; exact Tr.root_mem h0)
   ·rw [if_neg hs] at h0 e
    exact .inr (.inr (.inl (by rw [e]; exact Tr.root_mem h0)))
 ·rw [hu', eu]
  by_cases h0 : upOf ps = 0
  ·exact .inr h0
  ·refine .inl fun e => hi (hm i (.inr (.inr (.inr ?_))))
   have := upOf_mem h0
   rw [← e] at this
   obtain ⟨side, u, c⟩ := f
   simp only [ctx, List.mem_cons, List.mem_append]
   exact .inr (.inr this)
structure Below (it : Nat → Item) (k : Nat) (xs : List Nat) (N0 : Nodes) (m : Nat) (N : Nodes) : Prop where
 tree : ∃ (a b : Tr) (ps : List Fm), ps.length = m ∧ TrAt N it 0 (plug (.node a k b) ps) ∧ (plug (.node a k b) ps).list = xs
 off : ∀ i, i ∉ xs → N i = N0 i
theorem below_step {it : Nat → Item} {k : Nat} {xs : List Nat} {N0 : Nodes} (r : Row it xs) (m : Nat) (N : Nodes) (h : Below it k xs N0 m N) : (N k).up = 0 ∨ (stepOk N k ∧ ∃ m', m' < m ∧ Below it k xs N0 m' (stepN N k)) := by
 obtain ⟨⟨a, b, ps, rfl, ht, e⟩, hoff⟩ := h
 obtain ⟨hu, k0⟩ := up_of ht
 cases ps with
 | nil => exact .inl hu
 | cons f1 ps =>
  right
  have hup : (N k).up = f1.h := hu
  obtain ⟨⟨_, ek, _⟩, hpath⟩ := (trAt_plug _ _).1 ht
  have hf : f1.h ∈ ctx (f1 :: ps) := by cases f1; simp [ctx]
  have u0 : f1.h ≠ 0 := fun e0 => hpath.ne_zero (e0 ▸ hf)
  have eu : (N f1.h).up = upOf ps := by
   obtain ⟨side, u, c⟩ := f1
   cases side
   ·obtain ⟨_, eu, _⟩ := hpath; exact congrArg Rec.up eu
   ·obtain ⟨_, eu, _⟩ := hpath; exact congrArg Rec.up eu
  have off1 : ∀ i, i ∉ xs → turnN N k i = N0 i := fun i hi => by rw [turn_off ht e hi]; exact hoff i hi
  cases ps with
  | nil =>
   have ht0 : (N (N k).up).up = 0 := by rw [hup, eu]; rfl
   refine ⟨⟨by rw [hup]; exact u0, fun h => absurd ht0 h⟩, 0, by simp, ?_⟩
   have es : stepN N k = turnN N k := if_pos ht0
   rw [es]
   obtain ⟨side, u, c⟩ := f1
   cases side
   ·obtain ⟨h1, h2⟩ := turn_left ht e r
    exact ⟨⟨_, _, [], rfl, h1, h2⟩, off1⟩
   ·obtain ⟨h1, h2⟩ := turn_right ht e r
    exact ⟨⟨_, _, [], rfl, h1, h2⟩, off1⟩
  | cons f2 ps =>
   have ht0 : (N (N k).up).up = f2.h := by rw [hup, eu]; rfl
   have hf2 : f2.h ∈ ctx (f1 :: f2 :: ps) := by cases f1; cases f2; simp [ctx]
   have t0 : f2.h ≠ 0 := fun e0 => hpath.ne_zero (e0 ▸ hf2)
   have es : stepN N k = turnN (first N k) k := by
    unfold stepN first
    rw [if_neg (by rw [ht0]; exact t0)]
    split <;> rfl
   rw [es]
   have sides : sideN N (N (N k).up).up (N k).up = sideN N f2.h f1.h ∧ sideN N (N k).up k = sideN N f1.h k := by rw [ht0, hup]; exact ⟨rfl, rfl⟩
   have fin : ∀ (a' b' : Tr) (f : Fm), TrAt (first N k) it 0 (plug (.node a' k b') (f :: ps)) → (plug (.node a' k b') (f :: ps)).list = xs → (∀ i, i ∉ xs → first N k i = N0 i) →
     stepOk N k ∧ ∃ m', m' < (f1 :: f2 :: ps).length ∧ Below it k xs N0 m' (turnN (first N k) k) := by
    intro a' b' f h1 h2 h3
    obtain ⟨hu1, _⟩ := up_of h1
    obtain ⟨_, hpath1⟩ := (trAt_plug _ _).1 h1
    have hf1 : f.h ∈ ctx (f :: ps) := by cases f; simp [ctx]
    have f0 : f.h ≠ 0 := fun e0 => hpath1.ne_zero (e0 ▸ hf1)
    refine ⟨⟨by rw [hup]; exact u0, fun _ => by rw [hu1]; exact f0⟩, ps.length, by simp; omega, ?_⟩
    have off2 : ∀ i, i ∉ xs → turnN (first N k) k i = N0 i := fun i hi => by rw [turn_off h1 h2 hi]; exact h3 i hi
    obtain ⟨side, u, c⟩ := f
    cases side
    ·obtain ⟨h4, h5⟩ := turn_left h1 h2 r
     exact ⟨⟨_, _, ps, rfl, h4, h5⟩, off2⟩
    ·obtain ⟨h4, h5⟩ := turn_right h1 h2 r
     exact ⟨⟨_, _, ps, rfl, h4, h5⟩, off2⟩
   obtain ⟨sd1, u, c⟩ := f1
   obtain ⟨sd2, t, d⟩ := f2
   simp only [] at sides ht0 hup
   cases sd1 <;> cases sd2
   ·-- left, left
    have ht' : TrAt N it 0 (plug (.node (.node a k b) u c) (⟨false, t, d⟩ :: ps)) := ht
    have s1 := side_left ht e r
    have s2 := side_left ht' e r
    have ef : first N k = turnN N u := by unfold first; rw [sides.1, sides.2, s1, s2, if_pos rfl, hup]
    obtain ⟨h1, h2⟩ := turn_left ht' e r
    rw [← ef] at h1
    exact fin a b ⟨false, u, .node c t d⟩ h1 h2 (fun i hi => by rw [ef, turn_off ht' e hi]; exact hoff i hi)
   ·-- k left, u right
    have ht' : TrAt N it 0 (plug (.node (.node a k b) u c) (⟨true, t, d⟩ :: ps)) := ht
    have s1 := side_left ht e r
    have s2 := side_right ht'
    have ef : first N k = turnN N k := by unfold first; rw [sides.1, sides.2, s1, s2, if_neg (by omega)]
    obtain ⟨h1, h2⟩ := turn_left ht e r
    rw [← ef] at h1
    exact fin _ _ _ h1 h2 (fun i hi => by rw [ef]; exact off1 i hi)
   ·-- k right, u left
    have ht' : TrAt N it 0 (plug (.node c u (.node a k b)) (⟨false, t, d⟩ :: ps)) := ht
    have s1 := side_right ht
    have s2 := side_left ht' e r
    have ef : first N k = turnN N k := by unfold first; rw [sides.1, sides.2, s1, s2, if_neg (by omega)]
    obtain ⟨h1, h2⟩ := turn_right ht e r
    rw [← ef] at h1
    exact fin _ _ _ h1 h2 (fun i hi => by rw [ef]; exact off1 i hi)
   ·-- right, right
    have ht' : TrAt N it 0 (plug (.node c u (.node a k b)) (⟨true, t, d⟩ :: ps)) := ht
    have s1 := side_right ht
    have s2 := side_right ht'
    have ef : first N k = turnN N u := by unfold first; rw [sides.1, sides.2, s1, s2, if_pos rfl, hup]
    obtain ⟨h1, h2⟩ := turn_right ht' e r
    rw [← ef] at h1
    exact fin a b ⟨true, u, .node d t c⟩ h1 h2 (fun i hi => by rw [ef, turn_off ht' e hi]; exact hoff i hi)
end Go.Sp
namespace Go.Sp
open Go Go.Hp
set_option linter.unusedVariables false

structure Fo where
 it : Nat → Item
 rows : List (List Nat)
theorem find_path {k : Nat} : ∀ {t : Tr}, k ∈ t.list → ∃ (a b : Tr) (ps : List Fm), plug (.node a k b) ps = t
 | .nil, h => by simp [Tr.list] at h
 | .node l h r, hk => by
  have app : ∀ (ps qs : List Fm) (t : Tr), plug t (ps ++ qs) = plug (plug t ps) qs := by
   intro ps
   induction ps with
   | nil => intro qs t; rfl
   | cons f ps ih =>
    intro qs t
    obtain ⟨side, u, c⟩ := f
    cases side
    ·exact ih qs _
    ·exact ih qs _
  simp only [Tr.list, List.mem_append, List.mem_cons] at hk
  rcases hk with hk | rfl | hk
  ·obtain ⟨a, b, ps, e⟩ := find_path hk
   exact ⟨a, b, ps ++ [⟨false, h, r⟩], by rw [app, e]; rfl⟩
  ·exact ⟨l, r, [], rfl⟩
  ·obtain ⟨a, b, ps, e⟩ := find_path hk
   exact ⟨a, b, ps ++ [⟨true, h, l⟩], by rw [app, e]; rfl⟩
end Go.Sp
namespace Go.Proofs.Ytnlafhnbakipmaa
open Go Go.Hp Go.Sp
set_option linter.all false
set_option maxRecDepth 100000
set_option maxHeartbeats 1600000

structure FoAt (H : Heap) (f p g : Nat) (A : Ar) (nb : Nat → Nat) (N : Nodes) (S : Fo) : Prop where
 mem : FAt H f p g A nb N
 trees : ∀ xs ∈ S.rows, ∃ t, TrAt N S.it 0 t ∧ t.list = xs
 nodup : S.rows.flatten.Nodup
 use : ∀ h, h ∈ S.rows.flatten ↔ U A h
 may : ∀ h, U A h → May (S.it h)
section
variable {H H' : Heap} {f p g : Nat} {A : Ar} {nb : Nat → Nat} {N : Nodes} {S : Fo} {xs : List Nat} {k : Nat}
theorem FoAt.grow (h : FoAt H f p g A nb N S) (hf : Fr (fun _ => False) H H') : FoAt H' f p g A nb N S := ⟨h.mem.grow hf, h.trees, h.nodup, h.use, h.may⟩
theorem FoAt.len (h : FoAt H f p g A nb N S) : S.rows.flatten.length ≤ 4096 := by
 have hp : S.rows.flatten.Perm A.handles := by
  unfold Ar.handles
  rw [List.perm_ext_iff_of_nodup h.nodup (List.nodup_range.filter _)]
  intro i
  rw [h.use i]
  simp only [List.mem_filter, List.mem_range]
  refine ⟨fun hu => ?_, fun hu => hu.2⟩
  obtain ⟨v, hv⟩ := Option.isSome_iff_exists.1 hu
  exact ⟨Ar.get_some_lt hv, hu⟩
 have hm : A.many = A.handles.length := by
  have e : A.vals = (List.range A.vals.length).map A.get := by
   apply List.ext_getElem?
   intro i
   rcases Nat.lt_or_ge i A.vals.length with h' | h'
   ·rw [Ar.get_eq h']; simp [h']
   ·rw [List.getElem?_eq_none h', List.getElem?_eq_none (by simpa using h')]
  unfold Ar.many Ar.handles
  conv => lhs; rw [e]
  rw [List.filter_map, List.length_map]
  rfl
 rw [hp.length_eq, ← hm]
 exact Nat.le_trans h.mem.ar.ok.most h.mem.ar.ok.room
theorem FoAt.row (h : FoAt H f p g A nb N S) (hx : xs ∈ S.rows) : Row S.it xs where
 nd := (List.sublist_flatten_of_mem hx).nodup h.nodup
 may := fun i hi => h.may i ((h.use i).1 (List.mem_flatten.2 ⟨xs, hx, hi⟩))
 len := Nat.le_trans (List.sublist_flatten_of_mem hx).length_le h.len
theorem splay_row {K : Value → Heap → Prop} (hF : FoAt H f p g A nb N S) (hx : xs ∈ S.rows) (hk : k ∈ xs)
  (hd : ∀ ys ∈ S.rows, ys = xs ∨ ∀ i ∈ ys, i ∉ xs)
  (fin : ∀ H' N' a b, FoAt H' f p g A nb N' S → TrAt N' S.it 0 (.node a k b) → a.list ++ k :: b.list = xs → Fr (NB A nb) H H' → (∀ i, i ∉ xs → N' i = N i) → K (.tuple #[]) H') :
  CallsH Try.prog 70 #[.pointer (some ⟨f, 0, none⟩), .int .i64 k] H K := by
 obtain ⟨t, ht, e⟩ := hF.trees xs hx
 obtain ⟨a, b, ps, ep⟩ := find_path (t := t) (k := k) (by rw [e]; exact hk)
 have hU : U A k := (hF.use k).1 (List.mem_flatten.2 ⟨xs, hx, hk⟩)
 have hr := hF.row hx
 refine splay_ok (P := Below S.it k xs N) (m := ps.length) hF.mem hU ⟨⟨a, b, ps, rfl, by rw [ep]; exact ht, by rw [ep]; exact e⟩, fun _ _ => rfl⟩ (below_step hr) ?_
 rintro H' N' m' hF' ⟨⟨a', b', ps', rfl, ht', e'⟩, hoff⟩ hz hf
 have hup := (up_of ht').1
 have hps : ps' = [] := by
  cases ps' with
  | nil => rfl
  | cons fm ps' =>
   obtain ⟨_, hpath⟩ := (trAt_plug _ _).1 ht'
   have hf1 : fm.h ∈ ctx (fm :: ps') := by cases fm; simp [ctx]
   rw [hz] at hup
   exact absurd hf1 (by rw [show fm.h = 0 from hup.symm]; exact hpath.ne_zero)
 subst hps
 refine fin H' N' a' b' ⟨hF', fun ys hy => ?_, hF.nodup, hF.use, hF.may⟩ ht' e' hf hoff
 rcases hd ys hy with rfl | hdis
 ·exact ⟨_, ht', e'⟩
 ·obtain ⟨t2, h1, h2⟩ := hF.trees ys hy
  exact ⟨t2, h1.congr fun i hi => hoff i (hdis i (by rw [← h2]; exact hi)), h2⟩
end
end Go.Proofs.Ytnlafhnbakipmaa
namespace Go.Proofs.Ytnlafhnbakipmaa
open Go Go.Hp Go.Sp
set_option linter.all false
set_option maxRecDepth 100000
set_option maxHeartbeats 1600000

theorem rows_apart {α : Type} : ∀ {l : List (List α)}, l.flatten.Nodup → ∀ {xs ys : List α}, xs ∈ l → ys ∈ l → ys = xs ∨ ∀ i ∈ ys, i ∉ xs
 | [], _, _, _, h, _ => by cases h
 | z :: l, hn, xs, ys, hx, hy => by
  rw [List.flatten_cons, List.nodup_append] at hn
  obtain ⟨h1, h2, h3⟩ := hn
  rcases List.mem_cons.1 hx with ex | hx'
  ·rcases List.mem_cons.1 hy with ey | hy'
   ·exact .inl (ey.trans ex.symm)
   ·exact .inr fun i hi hi' => h3 i (ex ▸ hi') i (List.mem_flatten.2 ⟨ys, hy', hi⟩) rfl
  ·rcases List.mem_cons.1 hy with ey | hy'
   ·exact .inr fun i hi hi' => h3 i (ey ▸ hi) i (List.mem_flatten.2 ⟨xs, hx', hi'⟩) rfl
   ·exact rows_apart h2 hx' hy'
section
variable {H H' : Heap} {f p g : Nat} {A : Ar} {nb : Nat → Nat} {N : Nodes} {S : Fo} {xs : List Nat} {k : Nat}
theorem FoAt.apart (h : FoAt H f p g A nb N S) (hx : xs ∈ S.rows) : ∀ ys ∈ S.rows, ys = xs ∨ ∀ i ∈ ys, i ∉ xs := fun ys hy => rows_apart h.nodup hx hy
theorem FoAt.u (h : FoAt H f p g A nb N S) (hx : xs ∈ S.rows) (hk : k ∈ xs) : U A k := (h.use k).1 (List.mem_flatten.2 ⟨xs, hx, hk⟩)
def Foot (f p g : Nat) (A : Ar) (nb : Nat → Nat) (b : Nat) : Prop := b = f ∨ b = p ∨ b = g ∨ NB A nb b
theorem FAt.frame {T : Nat → Prop} (h : FAt H f p g A nb N) (hf : Fr T H H') (hT : ∀ b, Foot f p g A nb b → ¬ T b) : FAt H' f p g A nb N :=
 ⟨h.ff.frame hf (hT _ (.inl rfl)), h.ar.frame hf (hT _ (.inr (.inl rfl))) (hT _ (.inr (.inr (.inl rfl)))), h.use, fun k hk => (h.nd k hk).frame hf (hT _ (.inr (.inr (.inr ⟨k, hk, rfl⟩)))), h.inj, h.dis, h.fp, h.cl⟩
theorem FAt.lt (h : FAt H f p g A nb N) {b : Nat} (hb : Foot f p g A nb b) : b < H.size := by
 obtain ⟨c, rest, b1, b2, _⟩ := h.ar.at_
 rcases hb with rfl | rfl | rfl | ⟨k, hk, rfl⟩
 ·exact h.ff.lt
 ·exact b1.lt
 ·exact b2.lt
 ·exact (h.nd k hk).lt
theorem FoAt.frame {T : Nat → Prop} (h : FoAt H f p g A nb N S) (hf : Fr T H H') (hT : ∀ b, Foot f p g A nb b → ¬ T b) : FoAt H' f p g A nb N S := ⟨h.mem.frame hf hT, h.trees, h.nodup, h.use, h.may⟩
theorem sum_ok {K : Value → Heap → Prop} (hF : FoAt H f p g A nb N S) (hx : xs ∈ S.rows) (hk : k ∈ xs)
  (fin : ∀ H' N', FoAt H' f p g A nb N' S → Fr (NB A nb) H H' → K (.tuple #[(aggOf S.it xs).val, .int .i64 0]) H') :
  CallsH Try.prog 50 #[.pointer (some ⟨f, 0, none⟩), .int .i64 k] H K := by
 have hU := hF.u hx hk
 have hlt := (hF.mem.nd k hU).lt
 have hF1 := hF.grow (H' := H.push (.cells #[.int .i64 0, .int .i64 0, .int .i64 0, .int .i64 0, .int .i64 0] 57)) ((Fr.refl _ _).push _)
 have hc1 : Cells [(H.size, 0, .int .i64 0), (H.size, 1, .int .i64 0), (H.size, 2, .int .i64 0), (H.size, 3, .int .i64 0), (H.size, 4, .int .i64 0)] (H.push (.cells #[.int .i64 0, .int .i64 0, .int .i64 0, .int .i64 0, .int .i64 0] 57)) := by
  simp only [go_sem, Nat.reduceEqDiff, Nat.reduceAdd, Nat.reduceMul, Nat.reduceLeDiff, Nat.reduceLT, Int.reduceLT, Int.reduceLE, Int.reduceEq, Int.reduceNeg, Int.reduceToNat, Nat.reducePow, reduceIte, reduceCtorEq, Cells, and_true, hcell_push, hcell_top, okW_push, okW_top, hcell_hset_ne, hcell_hset_off, hcell_hset_eq, okW_hset, hset_size, Array.size_push, Nat.lt_add_one, ne_add_one, add_one_ne, Nat.add_assoc, add_same, add_lt_same, Nat.reduceEqDiff, lt_add_k, add_k_ne, ne_add_k]
 have hblk := Blk.new H [.int .i64 0, .int .i64 0, .int .i64 0, .int .i64 0, .int .i64 0] 57
 refine call50 (by simp) ?_
 simp only [Try.f50, Option.getD_some]
 repeat' (first|(with_reducible first|refine jA ?_|(refine hK _ _ ?_;clear hK K)|refine jJ fun K hK=>?_|refine jK ?_|refine jL ?_|refine jM ?_|refine jN ?_|refine jO ?_|refine jP ?_|refine jQ ?_|(refine jB ?_;clear hK K)|(refine jC ?_;clear hK K)|refine jD ?_|refine jE ?_|refine jG ?_|refine jH ?_|refine jI ?_)|((with_reducible refine jR ?hq ?_);case hq=>rfl)|((first|(with_reducible first|refine jS fun K hK=>?_|refine jT ?_|refine jU ?_)|((with_reducible refine jV ?hy fun K hK=>?_);case hy=>rfl));simp only [go_sem, Nat.reduceEqDiff, Nat.reduceAdd, Nat.reduceMul, Nat.reduceLeDiff, Nat.reduceLT, Int.reduceLT, Int.reduceLE, Int.reduceEq, Int.reduceNeg, Int.reduceToNat, Nat.reducePow, reduceIte, reduceCtorEq])|((with_reducible first|refine jW ?hy ?_|refine jY ?hy ?_);case hy=>rfl)|((with_reducible first|refine jX ?hy ?_|refine jZ ?hy ?_);case hy=>rfl)|((with_reducible refine jF ?hy ?_);case hy=>decide))
 refine node_ok hF1.mem hU ?_
 repeat' (first|(with_reducible first|refine jA ?_|(refine hK _ _ ?_;clear hK K)|refine jJ fun K hK=>?_|refine jK ?_|refine jL ?_|refine jM ?_|refine jN ?_|refine jO ?_|refine jP ?_|refine jQ ?_|(refine jB ?_;clear hK K)|(refine jC ?_;clear hK K)|refine jD ?_|refine jE ?_|refine jG ?_|refine jH ?_|refine jI ?_)|((with_reducible refine jR ?hq ?_);case hq=>rfl)|((first|(with_reducible first|refine jS fun K hK=>?_|refine jT ?_|refine jU ?_)|((with_reducible refine jV ?hy fun K hK=>?_);case hy=>rfl));simp only [go_sem, Nat.reduceEqDiff, Nat.reduceAdd, Nat.reduceMul, Nat.reduceLeDiff, Nat.reduceLT, Int.reduceLT, Int.reduceLE, Int.reduceEq, Int.reduceNeg, Int.reduceToNat, Nat.reducePow, reduceIte, reduceCtorEq])|((with_reducible first|refine jW ?hy ?_|refine jY ?hy ?_);case hy=>rfl)|((with_reducible first|refine jX ?hy ?_|refine jZ ?hy ?_);case hy=>rfl)|((with_reducible refine jF ?hy ?_);case hy=>decide))
 refine splay_row hF1 hx hk (hF.apart hx) ?_
 intro H2 N2 a b hF2 ht e hf hoff
 have hn := hF2.mem.nd k hU
 have hne : ¬ H.size = nb k := by omega
 have hne' : ¬ nb k = H.size := by omega
 have hnb : ¬ NB A nb H.size := by
  rintro ⟨j, hj, ej⟩
  have := (hF.mem.nd j hj).lt
  omega
 have hb2 := hblk.frame hf hnb
 have w0 := hb2.okW (i := 0) (by simp)
 have w1 := hb2.okW (i := 1) (by simp)
 have w2 := hb2.okW (i := 2) (by simp)
 have w3 := hb2.okW (i := 3) (by simp)
 have w4 := hb2.okW (i := 4) (by simp)
 have eN : (N2 k).total = aggOf S.it xs := by
  obtain ⟨_, ek, _⟩ := ht
  rw [ek, ← e]
  rfl
 have c7 := hn.cellOf (i := 7) rfl
 have c8 := hn.cellOf (i := 8) rfl
 have c9 := hn.cellOf (i := 9) rfl
 have c10 := hn.cellOf (i := 10) rfl
 have c11 := hn.cellOf (i := 11) rfl
 rw [eN] at c7 c8 c9 c10 c11
 repeat' (first|(with_reducible first|refine jA ?_|(refine hK _ _ ?_;clear hK K)|refine jJ fun K hK=>?_|refine jK ?_|refine jL ?_|refine jM ?_|refine jN ?_|refine jO ?_|refine jP ?_|refine jQ ?_|(refine jB ?_;clear hK K)|(refine jC ?_;clear hK K)|refine jD ?_|refine jE ?_|refine jG ?_|refine jH ?_|refine jI ?_)|((with_reducible refine jR ?hq ?_);case hq=>rfl)|((first|(with_reducible first|refine jS fun K hK=>?_|refine jT ?_|refine jU ?_)|((with_reducible refine jV ?hy fun K hK=>?_);case hy=>rfl));simp only [go_sem, Nat.reduceEqDiff, Nat.reduceAdd, Nat.reduceMul, Nat.reduceLeDiff, Nat.reduceLT, Int.reduceLT, Int.reduceLE, Int.reduceEq, Int.reduceNeg, Int.reduceToNat, Nat.reducePow, reduceIte, reduceCtorEq, c7, c8, c9, c10, c11, w0, w1, w2, w3, w4, okW_hset, hcell_hset_eq, hcell_hset_ne, hcell_hset_off, hne, hne'])|((with_reducible first|refine jW ?hy ?_|refine jY ?hy ?_);case hy=>rfl)|((with_reducible first|refine jX ?hy ?_|refine jZ ?hy ?_);case hy=>rfl)|((with_reducible refine jF ?hy ?_);case hy=>decide))
 have hfr : Fr (fun b => H.size ≤ b) H2 (hset (hset (hset (hset (hset H2 ⟨H.size, 0, none⟩ (.int .i64 (aggOf S.it xs).count)) ⟨H.size, 1, none⟩ (.int .i64 (aggOf S.it xs).sum)) ⟨H.size, 2, none⟩ (.int .i64 (aggOf S.it xs).least)) ⟨H.size, 3, none⟩ (.int .i64 (aggOf S.it xs).most)) ⟨H.size, 4, none⟩ (.int .i64 (aggOf S.it xs).flags)) := by
  have step : ∀ {H' : Heap} (o : Nat) (v : Value), Fr (fun b => H.size ≤ b) H2 H' → Fr (fun b => H.size ≤ b) H2 (hset H' ⟨H.size, o, none⟩ v) := fun o v h => Fr.set (S := fun b => H.size ≤ b) (a := ⟨H.size, o, none⟩) h (.inl (Nat.le_refl _)) v
  exact step 4 _ (step 3 _ (step 2 _ (step 1 _ (step 0 _ (Fr.refl _ _)))))
 refine fin _ N2 (hF2.frame hfr fun b hb hle => ?_) ?_
 ·have := hF.mem.lt hb; omega
 ·refine (((Fr.refl (NB A nb) H).push _).trans hf).trans' hfr fun b hb hle => ?_
  exact absurd hle (by omega)
end

theorem item_of {N : Nodes} {it : Nat → Sp.Item} {k : Nat} : ∀ {t : Tr} {up : Nat}, TrAt N it up t → k ∈ t.list → (N k).item = it k
 | .nil, _, _, h => by simp [Tr.list] at h
 | .node l h r, up, ⟨a, b, c, d⟩, hk => by
  simp only [Tr.list, List.mem_append, List.mem_cons] at hk
  rcases hk with hk | rfl | hk
  ·exact item_of c hk
  ·rw [b]; rfl
  ·exact item_of d hk
theorem split_unique {α : Type} {x : α} : ∀ {l l' r r' : List α}, (l ++ x :: r).Nodup → l ++ x :: r = l' ++ x :: r' → l = l' ∧ r = r'
 | [], [], r, r', _, e => ⟨rfl, by simpa using e⟩
 | [], y :: l', r, r', hn, e => by
  simp only [List.nil_append, List.cons_append, List.cons.injEq] at e
  obtain ⟨rfl, e⟩ := e
  rw [List.nil_append, List.nodup_cons] at hn
  exact absurd (by rw [e]; simp) hn.1
 | y :: l, [], r, r', hn, e => by
  simp only [List.nil_append, List.cons_append, List.cons.injEq] at e
  obtain ⟨rfl, e⟩ := e
  rw [List.cons_append, List.nodup_cons] at hn
  exact absurd (by simp) hn.1
 | y :: l, z :: l', r, r', hn, e => by
  simp only [List.cons_append, List.cons.injEq] at e
  obtain ⟨rfl, e⟩ := e
  rw [List.cons_append, List.nodup_cons] at hn
  obtain ⟨h1, h2⟩ := split_unique hn.2 e
  exact ⟨by rw [h1], h2⟩
section
variable {H H' : Heap} {f p g : Nat} {A : Ar} {nb : Nat → Nat} {N : Nodes} {S : Fo} {xs : List Nat} {k : Nat}
theorem get_ok {K : Value → Heap → Prop} (hF : FoAt H f p g A nb N S) (hx : xs ∈ S.rows) (hk : k ∈ xs)
  (fin : ∀ H', Fr (fun _ => False) H H' → K (.tuple #[(S.it k).val, .int .i64 0]) H') :
  CallsH Try.prog 76 #[.pointer (some ⟨f, 0, none⟩), .int .i64 k] H K := by
 have hU := hF.u hx hk
 have hn := hF.mem.nd k hU
 have hlt := hn.lt
 have hF1 := hF.grow (H' := H.push (.cells #[.int .i64 0, .bool false, .int .i64 0] 79)) ((Fr.refl _ _).push _)
 have hne : ¬ H.size = nb k := by omega
 have hne' : ¬ nb k = H.size := by omega
 obtain ⟨t, ht, e⟩ := hF.trees xs hx
 have hi := item_of ht (by rw [e]; exact hk)
 have c0 := hn.cellOf (i := 0) rfl
 have c1 := hn.cellOf (i := 1) rfl
 have c2 := hn.cellOf (i := 2) rfl
 rw [hi] at c0 c1 c2
 refine call76 (by simp) ?_
 simp only [Try.f76, Option.getD_some]
 repeat' (first|(with_reducible first|refine jA ?_|(refine hK _ _ ?_;clear hK K)|refine jJ fun K hK=>?_|refine jK ?_|refine jL ?_|refine jM ?_|refine jN ?_|refine jO ?_|refine jP ?_|refine jQ ?_|(refine jB ?_;clear hK K)|(refine jC ?_;clear hK K)|refine jD ?_|refine jE ?_|refine jG ?_|refine jH ?_|refine jI ?_)|((with_reducible refine jR ?hq ?_);case hq=>rfl)|((first|(with_reducible first|refine jS fun K hK=>?_|refine jT ?_|refine jU ?_)|((with_reducible refine jV ?hy fun K hK=>?_);case hy=>rfl));simp only [go_sem, Nat.reduceEqDiff, Nat.reduceAdd, Nat.reduceMul, Nat.reduceLeDiff, Nat.reduceLT, Int.reduceLT, Int.reduceLE, Int.reduceEq, Int.reduceNeg, Int.reduceToNat, Nat.reducePow, reduceIte, reduceCtorEq, hcell_push, hcell_top, okW_push, okW_top, hcell_hset_ne, hcell_hset_off, hcell_hset_eq, okW_hset, hset_size, Array.size_push, Nat.lt_add_one, ne_add_one, add_one_ne, Nat.add_assoc, add_same, add_lt_same, Nat.reduceEqDiff, lt_add_k, add_k_ne, ne_add_k])|((with_reducible first|refine jW ?hy ?_|refine jY ?hy ?_);case hy=>rfl)|((with_reducible first|refine jX ?hy ?_|refine jZ ?hy ?_);case hy=>rfl)|((with_reducible refine jF ?hy ?_);case hy=>decide))
 refine node_ok hF1.mem hU ?_
 repeat' (first|(with_reducible first|refine jA ?_|(refine hK _ _ ?_;clear hK K)|refine jJ fun K hK=>?_|refine jK ?_|refine jL ?_|refine jM ?_|refine jN ?_|refine jO ?_|refine jP ?_|refine jQ ?_|(refine jB ?_;clear hK K)|(refine jC ?_;clear hK K)|refine jD ?_|refine jE ?_|refine jG ?_|refine jH ?_|refine jI ?_)|((with_reducible refine jR ?hq ?_);case hq=>rfl)|((first|(with_reducible first|refine jS fun K hK=>?_|refine jT ?_|refine jU ?_)|((with_reducible refine jV ?hy fun K hK=>?_);case hy=>rfl));simp only [go_sem, Nat.reduceEqDiff, Nat.reduceAdd, Nat.reduceMul, Nat.reduceLeDiff, Nat.reduceLT, Int.reduceLT, Int.reduceLE, Int.reduceEq, Int.reduceNeg, Int.reduceToNat, Nat.reducePow, reduceIte, reduceCtorEq, c0, c1, c2, hlt, hne, hne', hcell_push, hcell_top, okW_push, okW_top, hcell_hset_ne, hcell_hset_off, hcell_hset_eq, okW_hset, hset_size, Array.size_push, Nat.lt_add_one, ne_add_one, add_one_ne, Nat.add_assoc, add_same, add_lt_same, Nat.reduceEqDiff, lt_add_k, add_k_ne, ne_add_k])|((with_reducible first|refine jW ?hy ?_|refine jY ?hy ?_);case hy=>rfl)|((with_reducible first|refine jX ?hy ?_|refine jZ ?hy ?_);case hy=>rfl)|((with_reducible refine jF ?hy ?_);case hy=>decide))
 exact fin _ (by ((repeat (first | refine Fr.set ?_ (by simp) _ | refine Fr.push ?_ _)); exact Fr.refl _ _))
theorem rank_ok {K : Value → Heap → Prop} {l r : List Nat} (hF : FoAt H f p g A nb N S) (hx : xs ∈ S.rows) (hxs : xs = l ++ k :: r)
  (fin : ∀ H' N', FoAt H' f p g A nb N' S → Fr (NB A nb) H H' → K (.tuple #[.int .i64 (l.length : Nat), .int .i64 0]) H') :
  CallsH Try.prog 41 #[.pointer (some ⟨f, 0, none⟩), .int .i64 k] H K := by
 have hk : k ∈ xs := by rw [hxs]; simp
 have hU := hF.u hx hk
 refine call41 (by simp) ?_
 simp only [Try.f41, Option.getD_some]
 repeat' (first|(with_reducible first|refine jA ?_|(refine hK _ _ ?_;clear hK K)|refine jJ fun K hK=>?_|refine jK ?_|refine jL ?_|refine jM ?_|refine jN ?_|refine jO ?_|refine jP ?_|refine jQ ?_|(refine jB ?_;clear hK K)|(refine jC ?_;clear hK K)|refine jD ?_|refine jE ?_|refine jG ?_|refine jH ?_|refine jI ?_)|((with_reducible refine jR ?hq ?_);case hq=>rfl)|((first|(with_reducible first|refine jS fun K hK=>?_|refine jT ?_|refine jU ?_)|((with_reducible refine jV ?hy fun K hK=>?_);case hy=>rfl));simp only [go_sem, Nat.reduceEqDiff, Nat.reduceAdd, Nat.reduceMul, Nat.reduceLeDiff, Nat.reduceLT, Int.reduceLT, Int.reduceLE, Int.reduceEq, Int.reduceNeg, Int.reduceToNat, Nat.reducePow, reduceIte, reduceCtorEq])|((with_reducible first|refine jW ?hy ?_|refine jY ?hy ?_);case hy=>rfl)|((with_reducible first|refine jX ?hy ?_|refine jZ ?hy ?_);case hy=>rfl)|((with_reducible refine jF ?hy ?_);case hy=>decide))
 refine node_ok hF.mem hU ?_
 repeat' (first|(with_reducible first|refine jA ?_|(refine hK _ _ ?_;clear hK K)|refine jJ fun K hK=>?_|refine jK ?_|refine jL ?_|refine jM ?_|refine jN ?_|refine jO ?_|refine jP ?_|refine jQ ?_|(refine jB ?_;clear hK K)|(refine jC ?_;clear hK K)|refine jD ?_|refine jE ?_|refine jG ?_|refine jH ?_|refine jI ?_)|((with_reducible refine jR ?hq ?_);case hq=>rfl)|((first|(with_reducible first|refine jS fun K hK=>?_|refine jT ?_|refine jU ?_)|((with_reducible refine jV ?hy fun K hK=>?_);case hy=>rfl));simp only [go_sem, Nat.reduceEqDiff, Nat.reduceAdd, Nat.reduceMul, Nat.reduceLeDiff, Nat.reduceLT, Int.reduceLT, Int.reduceLE, Int.reduceEq, Int.reduceNeg, Int.reduceToNat, Nat.reducePow, reduceIte, reduceCtorEq])|((with_reducible first|refine jW ?hy ?_|refine jY ?hy ?_);case hy=>rfl)|((with_reducible first|refine jX ?hy ?_|refine jZ ?hy ?_);case hy=>rfl)|((with_reducible refine jF ?hy ?_);case hy=>decide))
 refine splay_row hF hx hk (hF.apart hx) ?_
 intro H2 N2 a b hF2 ht e hf hoff
 have hn := hF2.mem.nd k hU
 have c4 := hn.cellOf (i := 4) rfl
 obtain ⟨hla, _⟩ := split_unique (by rw [e]; exact (hF.row hx).nd) (e.trans hxs)
 repeat' (first|(with_reducible first|refine jA ?_|(refine hK _ _ ?_;clear hK K)|refine jJ fun K hK=>?_|refine jK ?_|refine jL ?_|refine jM ?_|refine jN ?_|refine jO ?_|refine jP ?_|refine jQ ?_|(refine jB ?_;clear hK K)|(refine jC ?_;clear hK K)|refine jD ?_|refine jE ?_|refine jG ?_|refine jH ?_|refine jI ?_)|((with_reducible refine jR ?hq ?_);case hq=>rfl)|((first|(with_reducible first|refine jS fun K hK=>?_|refine jT ?_|refine jU ?_)|((with_reducible refine jV ?hy fun K hK=>?_);case hy=>rfl));simp only [go_sem, Nat.reduceEqDiff, Nat.reduceAdd, Nat.reduceMul, Nat.reduceLeDiff, Nat.reduceLT, Int.reduceLT, Int.reduceLE, Int.reduceEq, Int.reduceNeg, Int.reduceToNat, Nat.reducePow, reduceIte, reduceCtorEq, c4])|((with_reducible first|refine jW ?hy ?_|refine jY ?hy ?_);case hy=>rfl)|((with_reducible first|refine jX ?hy ?_|refine jZ ?hy ?_);case hy=>rfl)|((with_reducible refine jF ?hy ?_);case hy=>decide))
 refine below_ok hF2.mem (hF2.mem.cl.l k hU) ?_
 intro H3 hf3
 have eb : belowN N2 (N2 k).l = ((l.length : Int), aggOf S.it l) := by
  obtain ⟨_, ek, ha, _⟩ := ht
  have := ha.below
  rw [ek, ← hla]
  exact this
 rw [eb]
 repeat' (first|(with_reducible first|refine jA ?_|(refine hK _ _ ?_;clear hK K)|refine jJ fun K hK=>?_|refine jK ?_|refine jL ?_|refine jM ?_|refine jN ?_|refine jO ?_|refine jP ?_|refine jQ ?_|(refine jB ?_;clear hK K)|(refine jC ?_;clear hK K)|refine jD ?_|refine jE ?_|refine jG ?_|refine jH ?_|refine jI ?_)|((with_reducible refine jR ?hq ?_);case hq=>rfl)|((first|(with_reducible first|refine jS fun K hK=>?_|refine jT ?_|refine jU ?_)|((with_reducible refine jV ?hy fun K hK=>?_);case hy=>rfl));simp only [go_sem, Nat.reduceEqDiff, Nat.reduceAdd, Nat.reduceMul, Nat.reduceLeDiff, Nat.reduceLT, Int.reduceLT, Int.reduceLE, Int.reduceEq, Int.reduceNeg, Int.reduceToNat, Nat.reducePow, reduceIte, reduceCtorEq, Agg.val, hcell_push, hcell_top, okW_push, okW_top, hcell_hset_ne, hcell_hset_off, hcell_hset_eq, okW_hset, hset_size, Array.size_push, Nat.lt_add_one, ne_add_one, add_one_ne, Nat.add_assoc, add_same, add_lt_same, Nat.reduceEqDiff, lt_add_k, add_k_ne, ne_add_k])|((with_reducible first|refine jW ?hy ?_|refine jY ?hy ?_);case hy=>rfl)|((with_reducible first|refine jX ?hy ?_|refine jZ ?hy ?_);case hy=>rfl)|((with_reducible refine jF ?hy ?_);case hy=>decide))
 generalize hH4 : hset _ _ _ = H4
 have hf4 : Fr (fun _ => False) H3 H4 := by rw [← hH4]; exact (by ((repeat (first | refine Fr.set ?_ (by simp) _ | refine Fr.push ?_ _)); exact Fr.refl _ _))
 exact fin _ N2 ((hF2.grow hf3).grow hf4) ((hf.trans (hf3.mono fun b _ h => h.elim)).trans (hf4.mono fun b _ h => h.elim))
end

section
variable {H H' : Heap} {f p g : Nat} {A : Ar} {nb : Nat → Nat} {N : Nodes} {S : Fo} {xs : List Nat} {k : Nat} {R : List (List Nat)}
theorem FoAt.perm (h : FoAt H f p g A nb N S) (hr : S.rows.Perm R) : FoAt H f p g A nb N ⟨S.it, R⟩ :=
 ⟨h.mem, fun xs hx => h.trees xs (hr.mem_iff.2 hx), (hr.flatten.nodup_iff).1 h.nodup, fun i => by rw [← h.use i]; exact (hr.flatten.mem_iff).symm, h.may⟩
theorem cut_tree {it : Nat → Sp.Item} {a b : Tr} (ht : TrAt N it 0 (.node a k b)) (ha : a.root ≠ 0) (hd : (a.list ++ k :: b.list).Nodup) (hm : ∀ i ∈ a.list ++ k :: b.list, May (it i)) (hl : (a.list ++ k :: b.list).length ≤ 4096) :
  let M := upd (setUp N a.root 0) k ((setUp N a.root 0 k).setKid 0 0)
  TrAt (pullN M k) it 0 a ∧ TrAt (pullN M k) it 0 (.node .nil k b) ∧ ∀ i, i ∉ a.list ++ k :: b.list → pullN M k i = N i := by
 intro M
 obtain ⟨k0, ek, hta, htb⟩ := ht
 simp only [List.nodup_append, List.nodup_cons, List.mem_cons] at hd
 obtain ⟨na, ⟨kb, nb'⟩, dab⟩ := hd
 have hka : k ∉ a.list := fun e => dab k e k (.inl rfl) rfl
 have har := Tr.root_mem ha
 have hkr : k ≠ a.root := fun e => hka (by rw [e]; exact har)
 have Mk : M k = (N k).setKid 0 0 := by
  show upd _ k _ k = _
  rw [upd_same]
  unfold Sp.setUp
  rw [upd_ne _ _ hkr]
 have Mo : ∀ i, i ≠ k → i ≠ a.root → M i = N i := fun i h1 h2 => by
  show upd _ k _ i = _
  rw [upd_ne _ _ h1]
  unfold Sp.setUp
  rw [upd_ne _ _ h2]
 have Ma : M a.root = { N a.root with up := 0 } := by
  show upd _ k _ a.root = _
  rw [upd_ne _ _ (Ne.symm hkr)]
  unfold Sp.setUp
  rw [upd_same]
 have hrb : ∀ i ∈ b.list, i ≠ a.root := fun i hi e => dab a.root har i (.inr hi) e.symm
 have htM : TrAt M it k b := htb.congr fun i hi => Mo i (fun e => kb (e ▸ hi)) (hrb i hi)
 have pk : pullR M k = recOf it 0 0 k b.root ([] ++ k :: b.list) := by
  refine pullR_of (xs := []) rfl htM.below (by rw [Mk, ek]; rfl) (by rw [Mk, ek]; rfl) (by rw [Mk]; rfl) (by rw [Mk, ek]; rfl) (fun i hi => hm i ?_) ?_
  ·exact List.mem_append_right _ hi
  ·simp only [List.nil_append, List.length_append, List.length_cons] at hl ⊢; omega
 have eM : pullN M k = upd M k (recOf it 0 0 k b.root ([] ++ k :: b.list)) := by unfold pullN; rw [pk]
 rw [eM]
 refine ⟨?_, ⟨k0, by rw [upd_same]; rfl, trivial, htM.congr fun i hi => upd_ne _ _ (fun e => kb (e ▸ hi))⟩, fun i hi => ?_⟩
 ·refine (hta.hung (N' := M) na (fun _ => Ma) (fun i hi hne => Mo i (fun e => hka (e ▸ hi)) hne)).congr fun i hi => upd_ne _ _ (fun e => hka (e ▸ hi))
 ·simp only [List.mem_append, List.mem_cons, not_or] at hi
  rw [upd_ne _ _ hi.2.1]
  exact Mo i hi.2.1 (fun e => hi.1 (e ▸ har))
theorem split_first {K : Value → Heap → Prop} {r : List Nat} (hF : FoAt H f p g A nb N S) (hx : k :: r ∈ S.rows)
  (fin : ∀ H' N', FoAt H' f p g A nb N' S → Fr (NB A nb) H H' → K (.int .i64 0) H') :
  CallsH Try.prog 36 #[.pointer (some ⟨f, 0, none⟩), .int .i64 k] H K := by
 have hU := hF.u hx (.head _)
 refine call36 (by simp) ?_
 simp only [Try.f36, Option.getD_some]
 repeat' (first|(with_reducible first|refine jA ?_|(refine hK _ _ ?_;clear hK K)|refine jJ fun K hK=>?_|refine jK ?_|refine jL ?_|refine jM ?_|refine jN ?_|refine jO ?_|refine jP ?_|refine jQ ?_|(refine jB ?_;clear hK K)|(refine jC ?_;clear hK K)|refine jD ?_|refine jE ?_|refine jG ?_|refine jH ?_|refine jI ?_)|((with_reducible refine jR ?hq ?_);case hq=>rfl)|((first|(with_reducible first|refine jS fun K hK=>?_|refine jT ?_|refine jU ?_)|((with_reducible refine jV ?hy fun K hK=>?_);case hy=>rfl));simp only [go_sem, Nat.reduceEqDiff, Nat.reduceAdd, Nat.reduceMul, Nat.reduceLeDiff, Nat.reduceLT, Int.reduceLT, Int.reduceLE, Int.reduceEq, Int.reduceNeg, Int.reduceToNat, Nat.reducePow, reduceIte, reduceCtorEq])|((with_reducible first|refine jW ?hy ?_|refine jY ?hy ?_);case hy=>rfl)|((with_reducible first|refine jX ?hy ?_|refine jZ ?hy ?_);case hy=>rfl)|((with_reducible refine jF ?hy ?_);case hy=>decide))
 refine node_ok hF.mem hU ?_
 repeat' (first|(with_reducible first|refine jA ?_|(refine hK _ _ ?_;clear hK K)|refine jJ fun K hK=>?_|refine jK ?_|refine jL ?_|refine jM ?_|refine jN ?_|refine jO ?_|refine jP ?_|refine jQ ?_|(refine jB ?_;clear hK K)|(refine jC ?_;clear hK K)|refine jD ?_|refine jE ?_|refine jG ?_|refine jH ?_|refine jI ?_)|((with_reducible refine jR ?hq ?_);case hq=>rfl)|((first|(with_reducible first|refine jS fun K hK=>?_|refine jT ?_|refine jU ?_)|((with_reducible refine jV ?hy fun K hK=>?_);case hy=>rfl));simp only [go_sem, Nat.reduceEqDiff, Nat.reduceAdd, Nat.reduceMul, Nat.reduceLeDiff, Nat.reduceLT, Int.reduceLT, Int.reduceLE, Int.reduceEq, Int.reduceNeg, Int.reduceToNat, Nat.reducePow, reduceIte, reduceCtorEq])|((with_reducible first|refine jW ?hy ?_|refine jY ?hy ?_);case hy=>rfl)|((with_reducible first|refine jX ?hy ?_|refine jZ ?hy ?_);case hy=>rfl)|((with_reducible refine jF ?hy ?_);case hy=>decide))
 refine splay_row hF hx (.head _) (hF.apart hx) ?_
 intro H2 N2 a b hF2 ht e hf hoff
 have hn := hF2.mem.nd k hU
 have c4 := hn.cellOf (i := 4) rfl
 obtain ⟨hla, _⟩ := split_unique (l := a.list) (l' := []) (by rw [e]; exact (hF.row hx).nd) e
 have ea : (N2 k).l = 0 := by
  obtain ⟨_, ek, _⟩ := ht
  rw [ek]
  cases a with
  | nil => rfl
  | node a1 h a2 => simp [Tr.list] at hla
 rw [ea] at c4
 have t1 : (((0 : Nat) : Int) != 0) = false := rfl
 repeat' (first|(with_reducible first|refine jA ?_|(refine hK _ _ ?_;clear hK K)|refine jJ fun K hK=>?_|refine jK ?_|refine jL ?_|refine jM ?_|refine jN ?_|refine jO ?_|refine jP ?_|refine jQ ?_|(refine jB ?_;clear hK K)|(refine jC ?_;clear hK K)|refine jD ?_|refine jE ?_|refine jG ?_|refine jH ?_|refine jI ?_)|((with_reducible refine jR ?hq ?_);case hq=>rfl)|((first|(with_reducible first|refine jS fun K hK=>?_|refine jT ?_|refine jU ?_)|((with_reducible refine jV ?hy fun K hK=>?_);case hy=>rfl));simp only [go_sem, Nat.reduceEqDiff, Nat.reduceAdd, Nat.reduceMul, Nat.reduceLeDiff, Nat.reduceLT, Int.reduceLT, Int.reduceLE, Int.reduceEq, Int.reduceNeg, Int.reduceToNat, Nat.reducePow, reduceIte, reduceCtorEq, c4, t1])|((with_reducible first|refine jW ?hy ?_|refine jY ?hy ?_);case hy=>rfl)|((with_reducible first|refine jX ?hy ?_|refine jZ ?hy ?_);case hy=>rfl)|((with_reducible refine jF ?hy ?_);case hy=>decide))
 exact fin _ N2 hF2 hf
theorem split_ok {K : Value → Heap → Prop} {l r : List Nat} (hF : FoAt H f p g A nb N S) (hr : S.rows.Perm ((l ++ k :: r) :: R)) (hl : l ≠ [])
  (fin : ∀ H' N', FoAt H' f p g A nb N' ⟨S.it, l :: (k :: r) :: R⟩ → Fr (NB A nb) H H' → K (.int .i64 0) H') :
  CallsH Try.prog 36 #[.pointer (some ⟨f, 0, none⟩), .int .i64 k] H K := by
 have hx : l ++ k :: r ∈ S.rows := hr.mem_iff.2 (.head _)
 have hk : k ∈ l ++ k :: r := by simp
 have hU := hF.u hx hk
 have row := hF.row hx
 refine call36 (by simp) ?_
 simp only [Try.f36, Option.getD_some]
 repeat' (first|(with_reducible first|refine jA ?_|(refine hK _ _ ?_;clear hK K)|refine jJ fun K hK=>?_|refine jK ?_|refine jL ?_|refine jM ?_|refine jN ?_|refine jO ?_|refine jP ?_|refine jQ ?_|(refine jB ?_;clear hK K)|(refine jC ?_;clear hK K)|refine jD ?_|refine jE ?_|refine jG ?_|refine jH ?_|refine jI ?_)|((with_reducible refine jR ?hq ?_);case hq=>rfl)|((first|(with_reducible first|refine jS fun K hK=>?_|refine jT ?_|refine jU ?_)|((with_reducible refine jV ?hy fun K hK=>?_);case hy=>rfl));simp only [go_sem, Nat.reduceEqDiff, Nat.reduceAdd, Nat.reduceMul, Nat.reduceLeDiff, Nat.reduceLT, Int.reduceLT, Int.reduceLE, Int.reduceEq, Int.reduceNeg, Int.reduceToNat, Nat.reducePow, reduceIte, reduceCtorEq])|((with_reducible first|refine jW ?hy ?_|refine jY ?hy ?_);case hy=>rfl)|((with_reducible first|refine jX ?hy ?_|refine jZ ?hy ?_);case hy=>rfl)|((with_reducible refine jF ?hy ?_);case hy=>decide))
 refine node_ok hF.mem hU ?_
 repeat' (first|(with_reducible first|refine jA ?_|(refine hK _ _ ?_;clear hK K)|refine jJ fun K hK=>?_|refine jK ?_|refine jL ?_|refine jM ?_|refine jN ?_|refine jO ?_|refine jP ?_|refine jQ ?_|(refine jB ?_;clear hK K)|(refine jC ?_;clear hK K)|refine jD ?_|refine jE ?_|refine jG ?_|refine jH ?_|refine jI ?_)|((with_reducible refine jR ?hq ?_);case hq=>rfl)|((first|(with_reducible first|refine jS fun K hK=>?_|refine jT ?_|refine jU ?_)|((with_reducible refine jV ?hy fun K hK=>?_);case hy=>rfl));simp only [go_sem, Nat.reduceEqDiff, Nat.reduceAdd, Nat.reduceMul, Nat.reduceLeDiff, Nat.reduceLT, Int.reduceLT, Int.reduceLE, Int.reduceEq, Int.reduceNeg, Int.reduceToNat, Nat.reducePow, reduceIte, reduceCtorEq])|((with_reducible first|refine jW ?hy ?_|refine jY ?hy ?_);case hy=>rfl)|((with_reducible first|refine jX ?hy ?_|refine jZ ?hy ?_);case hy=>rfl)|((with_reducible refine jF ?hy ?_);case hy=>decide))
 refine splay_row hF hx hk (hF.apart hx) ?_
 intro H2 N2 a b hF2 ht e hf hoff
 have hn := hF2.mem.nd k hU
 have c4 := hn.cellOf (i := 4) rfl
 obtain ⟨hla, hrb⟩ := split_unique (l := a.list) (by rw [e]; exact row.nd) e
 have ek : (N2 k).l = a.root := by
  obtain ⟨_, ek, _⟩ := ht
  rw [ek]; rfl
 have ha0 : a.root ≠ 0 := fun h0 => by
  cases a with
  | nil => exact hl hla.symm
  | node a1 h a2 =>
   obtain ⟨_, _, ⟨h1, _⟩, _⟩ := ht
   exact h1 h0
 have hUa : U A a.root := hF.u hx (by rw [← hla]; exact List.mem_append_left _ (Tr.root_mem ha0))
 have t1 : ((a.root : Int) != 0) = true := by simp [ha0]
 rw [ek] at c4
 obtain ⟨w1, hF3, hf3⟩ := hF2.mem.setUp hUa (.inl rfl) (x := 0)
 obtain ⟨w2, hF4, hf4⟩ := hF3.kid hU (.inl rfl) (.inl rfl) (s := 0) (x := 0)
 have cut := cut_tree ht ha0 (by rw [e]; exact row.nd) (fun i hi => row.may i (by rw [e] at hi; exact hi)) (by rw [e]; exact row.len)
 repeat' (first|(with_reducible first|refine jA ?_|(refine hK _ _ ?_;clear hK K)|refine jJ fun K hK=>?_|refine jK ?_|refine jL ?_|refine jM ?_|refine jN ?_|refine jO ?_|refine jP ?_|refine jQ ?_|(refine jB ?_;clear hK K)|(refine jC ?_;clear hK K)|refine jD ?_|refine jE ?_|refine jG ?_|refine jH ?_|refine jI ?_)|((with_reducible refine jR ?hq ?_);case hq=>rfl)|((first|(with_reducible first|refine jS fun K hK=>?_|refine jT ?_|refine jU ?_)|((with_reducible refine jV ?hy fun K hK=>?_);case hy=>rfl));simp only [go_sem, Nat.reduceEqDiff, Nat.reduceAdd, Nat.reduceMul, Nat.reduceLeDiff, Nat.reduceLT, Int.reduceLT, Int.reduceLE, Int.reduceEq, Int.reduceNeg, Int.reduceToNat, Nat.reducePow, reduceIte, reduceCtorEq, c4, t1])|((with_reducible first|refine jW ?hy ?_|refine jY ?hy ?_);case hy=>rfl)|((with_reducible first|refine jX ?hy ?_|refine jZ ?hy ?_);case hy=>rfl)|((with_reducible refine jF ?hy ?_);case hy=>decide))
 refine node_ok hF2.mem hUa ?_
 have w2' : okW (hset H2 ⟨nb a.root, 3, none⟩ (.int .i64 0)) ⟨nb k, 4, none⟩ := w2
 repeat' (first|(with_reducible first|refine jA ?_|(refine hK _ _ ?_;clear hK K)|refine jJ fun K hK=>?_|refine jK ?_|refine jL ?_|refine jM ?_|refine jN ?_|refine jO ?_|refine jP ?_|refine jQ ?_|(refine jB ?_;clear hK K)|(refine jC ?_;clear hK K)|refine jD ?_|refine jE ?_|refine jG ?_|refine jH ?_|refine jI ?_)|((with_reducible refine jR ?hq ?_);case hq=>rfl)|((first|(with_reducible first|refine jS fun K hK=>?_|refine jT ?_|refine jU ?_)|((with_reducible refine jV ?hy fun K hK=>?_);case hy=>rfl));simp only [go_sem, Nat.reduceEqDiff, Nat.reduceAdd, Nat.reduceMul, Nat.reduceLeDiff, Nat.reduceLT, Int.reduceLT, Int.reduceLE, Int.reduceEq, Int.reduceNeg, Int.reduceToNat, Nat.reducePow, reduceIte, reduceCtorEq, w1, w2'])|((with_reducible first|refine jW ?hy ?_|refine jY ?hy ?_);case hy=>rfl)|((with_reducible first|refine jX ?hy ?_|refine jZ ?hy ?_);case hy=>rfl)|((with_reducible refine jF ?hy ?_);case hy=>decide))
 refine pull_ok hF4 hU ?_
 intro H5 hF5 hf5
 repeat' (first|(with_reducible first|refine jA ?_|(refine hK _ _ ?_;clear hK K)|refine jJ fun K hK=>?_|refine jK ?_|refine jL ?_|refine jM ?_|refine jN ?_|refine jO ?_|refine jP ?_|refine jQ ?_|(refine jB ?_;clear hK K)|(refine jC ?_;clear hK K)|refine jD ?_|refine jE ?_|refine jG ?_|refine jH ?_|refine jI ?_)|((with_reducible refine jR ?hq ?_);case hq=>rfl)|((first|(with_reducible first|refine jS fun K hK=>?_|refine jT ?_|refine jU ?_)|((with_reducible refine jV ?hy fun K hK=>?_);case hy=>rfl));simp only [go_sem, Nat.reduceEqDiff, Nat.reduceAdd, Nat.reduceMul, Nat.reduceLeDiff, Nat.reduceLT, Int.reduceLT, Int.reduceLE, Int.reduceEq, Int.reduceNeg, Int.reduceToNat, Nat.reducePow, reduceIte, reduceCtorEq])|((with_reducible first|refine jW ?hy ?_|refine jY ?hy ?_);case hy=>rfl)|((with_reducible first|refine jX ?hy ?_|refine jZ ?hy ?_);case hy=>rfl)|((with_reducible refine jF ?hy ?_);case hy=>decide))
 refine fin _ _ ⟨hF5, ?_, ?_, ?_, hF.may⟩ (((hf.trans hf3).trans hf4).trans hf5)
 ·intro ys hy
  rcases List.mem_cons.1 hy with rfl | hy
  ·exact ⟨a, cut.1, hla⟩
  ·rcases List.mem_cons.1 hy with rfl | hy
   ·exact ⟨_, cut.2.1, by simp [Tr.list, hrb]⟩
   ·obtain ⟨t, h1, h2⟩ := hF2.trees ys (hr.mem_iff.2 (.tail _ hy))
    have hn2 : ((l ++ k :: r) :: R).flatten.Nodup := (hr.flatten.nodup_iff).1 hF.nodup
    rw [List.flatten_cons, List.nodup_append] at hn2
    refine ⟨t, h1.congr fun i hi => cut.2.2 i (fun hi' => ?_), h2⟩
    rw [e] at hi'
    exact hn2.2.2 i hi' i (List.mem_flatten.2 ⟨ys, hy, by rw [← h2]; exact hi⟩) rfl
 ·have hn2 : ((l ++ k :: r) :: R).flatten.Nodup := (hr.flatten.nodup_iff).1 hF.nodup
  simpa using hn2
 ·intro i
  rw [← hF.use i, hr.flatten.mem_iff]
  simp
end
end Go.Proofs.Ytnlafhnbakipmaa
