/-
  Linked trees in memory: slices.Index over two kids; rotate.
  Linked trees, plain: a path's tree with turns that are still to be handed on; its heaviest edge; pushes.
  Linked trees, plain: from a node up to its path's root; all pushes of a splay; where a node stands; what a rotation does by handle.
  Linked trees, plain: a rotation in a tree.
  Linked trees, plain: a step of a splay.
-/
import Derived.Test.YtafehbegoanajaaG0
namespace Go.Proofs.Ytafehbegoanajaa
open Go Go.Hp Go.Li
set_option linter.all false
set_option maxRecDepth 100000
set_option maxHeartbeats 1600000
section
variable {H H' : Heap} {t g c len : Nat} {N : Nodes} {K : Value → Heap → Prop}
def ix2 (a b x : Nat) : Int := if x = a then 0 else if x = b then 1 else -1
theorem index2 {b o x y z cap : Nat} (c0 : hcell H ⟨b, o, none⟩ = some (.int .i64 (x : Nat))) (c1 : hcell H ⟨b, o + 1, none⟩ = some (.int .i64 (y : Nat))) (fin : K (.int .i64 (ix2 x y z)) H) :
  CallsH Try.prog 97 #[.slice (some ⟨b, o, none⟩) 2 cap, .int .i64 (z : Nat)] H K := by
 unfold ix2 at fin
 refine call97 (by simp) ?_
 simp only [Try.f97, Option.getD_some]
 repeat' (first|(with_reducible first|refine jA ?_|(refine hK _ _ ?_;clear hK K)|refine jJ fun K hK=>?_|refine jK ?_|refine jL ?_|refine jM ?_|refine jN ?_|refine jO ?_|refine jP ?_|refine jQ ?_|(refine jB ?_;clear hK K)|(refine jC ?_;clear hK K)|refine jD ?_|refine jE ?_|refine jG ?_|refine jH ?_|refine jI ?_)|((with_reducible refine jR ?hq ?_);case hq=>rfl)|((first|(with_reducible first|refine jS fun K hK=>?_|refine jT ?_|refine jU ?_)|((with_reducible refine jV ?hy fun K hK=>?_);case hy=>rfl));simp only [go_sem, Nat.reduceEqDiff, Nat.reduceAdd, Nat.reduceMul, Nat.reduceLeDiff, Nat.reduceLT, Int.reduceLT, Int.reduceLE, Int.reduceEq, Int.reduceNeg, Int.reduceToNat, Nat.reducePow, reduceIte, reduceCtorEq])|((with_reducible first|refine jW ?hy ?_|refine jY ?hy ?_);case hy=>rfl)|((with_reducible first|refine jX ?hy ?_|refine jZ ?hy ?_);case hy=>rfl)|((with_reducible refine jF ?hy ?_);case hy=>decide))
 refine x_loop (fun m e' H' => ∃ i : Nat, i ≤ 2 ∧ e' 8 = .int .i64 (i : Nat) ∧ m = 2 - i ∧ H' = H ∧ (1 ≤ i → z ≠ x) ∧ (2 ≤ i → z ≠ y)) 2 ⟨0, by omega, rfl, rfl, rfl, fun h => (by omega), fun h => (by omega)⟩ ?_
 rintro m e1 H2 ⟨i, hi, i8, rfl, rfl, h1, h2⟩ hoff
 have i0 : e1 0 = .slice (some ⟨b, o, none⟩) 2 cap := (hoff 0 rfl).trans rfl
 have i1 : e1 1 = .int .i64 (z : Nat) := (hoff 1 rfl).trans rfl
 have i7 : e1 7 = .int .i64 2 := (hoff 7 rfl).trans rfl
 clear hoff
 rcases (show i = 0 ∨ i = 1 ∨ i = 2 by omega) with rfl | rfl | rfl
 ·have ew : IntKind.i64.wrap ((0 : Int) + 1) = ((1 : Nat) : Int) := by rw [wrap_i64] <;> omega
  by_cases hz : z = x
  ·have t1 : ((z : Int) == (x : Int)) = true := by simp [hz]
   rw [if_pos hz] at fin
   repeat' (first|(with_reducible first|refine jA ?_|(refine hK _ _ ?_;clear hK K)|refine jJ fun K hK=>?_|refine jK ?_|refine jL ?_|refine jM ?_|refine jN ?_|refine jO ?_|refine jP ?_|refine jQ ?_|(refine jB ?_;clear hK K)|(refine jC ?_;clear hK K)|refine jD ?_|refine jE ?_|refine jG ?_|refine jH ?_|refine jI ?_)|((with_reducible refine jR ?hq ?_);case hq=>rfl)|((first|(with_reducible first|refine jS fun K hK=>?_|refine jT ?_|refine jU ?_)|((with_reducible refine jV ?hy fun K hK=>?_);case hy=>rfl));simp only [go_sem, Nat.reduceEqDiff, Nat.reduceAdd, Nat.reduceMul, Nat.reduceLeDiff, Nat.reduceLT, Int.reduceLT, Int.reduceLE, Int.reduceEq, Int.reduceNeg, Int.reduceToNat, Nat.reducePow, reduceIte, reduceCtorEq, i0, i1, i7, i8, c0, t1])|((with_reducible first|refine jW ?hy ?_|refine jY ?hy ?_);case hy=>rfl)|((with_reducible first|refine jX ?hy ?_|refine jZ ?hy ?_);case hy=>rfl)|((with_reducible refine jF ?hy ?_);case hy=>decide))
   exact fin
  ·have t1 : ((z : Int) == (x : Int)) = false := by simp; omega
   repeat' (first|(with_reducible first|refine jA ?_|(refine hK _ _ ?_;clear hK K)|refine jJ fun K hK=>?_|refine jK ?_|refine jL ?_|refine jM ?_|refine jN ?_|refine jO ?_|refine jP ?_|refine jQ ?_|(refine jB ?_;clear hK K)|(refine jC ?_;clear hK K)|refine jD ?_|refine jE ?_|refine jG ?_|refine jH ?_|refine jI ?_)|((with_reducible refine jR ?hq ?_);case hq=>rfl)|((first|(with_reducible first|refine jS fun K hK=>?_|refine jT ?_|refine jU ?_)|((with_reducible refine jV ?hy fun K hK=>?_);case hy=>rfl));simp only [go_sem, Nat.reduceEqDiff, Nat.reduceAdd, Nat.reduceMul, Nat.reduceLeDiff, Nat.reduceLT, Int.reduceLT, Int.reduceLE, Int.reduceEq, Int.reduceNeg, Int.reduceToNat, Nat.reducePow, reduceIte, reduceCtorEq, i0, i1, i7, i8, c0, t1, ew])|((with_reducible first|refine jW ?hy ?_|refine jY ?hy ?_);case hy=>rfl)|((with_reducible first|refine jX ?hy ?_|refine jZ ?hy ?_);case hy=>rfl)|((with_reducible refine jF ?hy ?_);case hy=>decide))
   exact loop_normal (m' := 1) (by omega) ⟨1, by omega, rfl, rfl, rfl, fun _ => hz, fun h => (by omega)⟩
 ·have hz := h1 (by omega)
  have ew : IntKind.i64.wrap ((1 : Int) + 1) = ((2 : Nat) : Int) := by rw [wrap_i64] <;> omega
  rw [if_neg hz] at fin
  by_cases hz : z = y
  ·have t1 : ((z : Int) == (y : Int)) = true := by simp [hz]
   rw [if_pos hz] at fin
   repeat' (first|(with_reducible first|refine jA ?_|(refine hK _ _ ?_;clear hK K)|refine jJ fun K hK=>?_|refine jK ?_|refine jL ?_|refine jM ?_|refine jN ?_|refine jO ?_|refine jP ?_|refine jQ ?_|(refine jB ?_;clear hK K)|(refine jC ?_;clear hK K)|refine jD ?_|refine jE ?_|refine jG ?_|refine jH ?_|refine jI ?_)|((with_reducible refine jR ?hq ?_);case hq=>rfl)|((first|(with_reducible first|refine jS fun K hK=>?_|refine jT ?_|refine jU ?_)|((with_reducible refine jV ?hy fun K hK=>?_);case hy=>rfl));simp only [go_sem, Nat.reduceEqDiff, Nat.reduceAdd, Nat.reduceMul, Nat.reduceLeDiff, Nat.reduceLT, Int.reduceLT, Int.reduceLE, Int.reduceEq, Int.reduceNeg, Int.reduceToNat, Nat.reducePow, reduceIte, reduceCtorEq, i0, i1, i7, i8, c1, t1])|((with_reducible first|refine jW ?hy ?_|refine jY ?hy ?_);case hy=>rfl)|((with_reducible first|refine jX ?hy ?_|refine jZ ?hy ?_);case hy=>rfl)|((with_reducible refine jF ?hy ?_);case hy=>decide))
   exact fin
  ·have t1 : ((z : Int) == (y : Int)) = false := by simp; omega
   repeat' (first|(with_reducible first|refine jA ?_|(refine hK _ _ ?_;clear hK K)|refine jJ fun K hK=>?_|refine jK ?_|refine jL ?_|refine jM ?_|refine jN ?_|refine jO ?_|refine jP ?_|refine jQ ?_|(refine jB ?_;clear hK K)|(refine jC ?_;clear hK K)|refine jD ?_|refine jE ?_|refine jG ?_|refine jH ?_|refine jI ?_)|((with_reducible refine jR ?hq ?_);case hq=>rfl)|((first|(with_reducible first|refine jS fun K hK=>?_|refine jT ?_|refine jU ?_)|((with_reducible refine jV ?hy fun K hK=>?_);case hy=>rfl));simp only [go_sem, Nat.reduceEqDiff, Nat.reduceAdd, Nat.reduceMul, Nat.reduceLeDiff, Nat.reduceLT, Int.reduceLT, Int.reduceLE, Int.reduceEq, Int.reduceNeg, Int.reduceToNat, Nat.reducePow, reduceIte, reduceCtorEq, i0, i1, i7, i8, c1, t1, ew])|((with_reducible first|refine jW ?hy ?_|refine jY ?hy ?_);case hy=>rfl)|((with_reducible first|refine jX ?hy ?_|refine jZ ?hy ?_);case hy=>rfl)|((with_reducible refine jF ?hy ?_);case hy=>decide))
   exact loop_normal (m' := 0) (by omega) ⟨2, by omega, rfl, rfl, rfl, fun _ => h1 (by omega), fun _ => hz⟩
 ·rw [if_neg (h1 (by omega)), if_neg (h2 (by omega))] at fin
  repeat' (first|(with_reducible first|refine jA ?_|(refine hK _ _ ?_;clear hK K)|refine jJ fun K hK=>?_|refine jK ?_|refine jL ?_|refine jM ?_|refine jN ?_|refine jO ?_|refine jP ?_|refine jQ ?_|(refine jB ?_;clear hK K)|(refine jC ?_;clear hK K)|refine jD ?_|refine jE ?_|refine jG ?_|refine jH ?_|refine jI ?_)|((with_reducible refine jR ?hq ?_);case hq=>rfl)|((first|(with_reducible first|refine jS fun K hK=>?_|refine jT ?_|refine jU ?_)|((with_reducible refine jV ?hy fun K hK=>?_);case hy=>rfl));simp only [go_sem, Nat.reduceEqDiff, Nat.reduceAdd, Nat.reduceMul, Nat.reduceLeDiff, Nat.reduceLT, Int.reduceLT, Int.reduceLE, Int.reduceEq, Int.reduceNeg, Int.reduceToNat, Nat.reducePow, reduceIte, reduceCtorEq, i0, i1, i7, i8])|((with_reducible first|refine jW ?hy ?_|refine jY ?hy ?_);case hy=>rfl)|((with_reducible first|refine jX ?hy ?_|refine jZ ?hy ?_);case hy=>rfl)|((with_reducible refine jF ?hy ?_);case hy=>decide))
  exact fin
theorem setUpA (hN : NA H t g c len N) {h b : Nat} (hh : h < len) (hb : b < len) : NA (hset H ⟨g, h * 10, none⟩ (.int .i64 (b : Nat))) t g c len (upd N h { N h with up := b }) :=
 hN.set0 hh rfl (hN.cl.setUp hh hb)
theorem setL (hN : NA H t g c len N) {h b : Nat} (hh : h < len) (hb : b < len) : NA (hset H ⟨g, h * 10 + 1, none⟩ (.int .i64 (b : Nat))) t g c len (upd N h { N h with l := b }) :=
 hN.set (j := 1) hh (by omega) rfl (hN.cl.setKid (s := false) hh hb)
theorem setR (hN : NA H t g c len N) {h b : Nat} (hh : h < len) (hb : b < len) : NA (hset H ⟨g, h * 10 + 2, none⟩ (.int .i64 (b : Nat))) t g c len (upd N h { N h with r := b }) :=
 hN.set (j := 2) hh (by omega) rfl (hN.cl.setKid (s := true) hh hb)
theorem rotate_ok {L : Value → Heap → Prop} {h : Nat} (hN : NA H t g c len N) (hh : h < len) (fin : ∀ H', NA H' t g c len (rotN N h) → Fr (· = g) H H' → L (.tuple #[]) H') :
  CallsH Try.prog 87 #[.pointer (some ⟨t, 0, none⟩), .int .i64 (h : Nat)] H L := by
 have hd := hN.hd
 have hu := hN.cl.up h hh
 have c0 := hN.cell0 hh
 have u2 := hN.cell (j := 2) hu rfl
 unfold rotN at fin
 obtain ⟨u, eu⟩ : ∃ u, (N h).up = u := ⟨_, rfl⟩
 rw [eu] at fin hu c0 u2
 have u0 := hN.cell0 hu
 refine call87 (by simp) ?_
 simp only [Try.f87, Option.getD_some]
 cases hs : sideN N u h with
 | false =>
  have t1 : (((N u).r : Int) == (h : Int)) = false := by unfold sideN at hs; simp at hs ⊢; omega
  have ew : IntKind.i64.wrap ((1 : Int) - 0) = 1 := by rw [wrap_i64] <;> omega
  rw [hs] at fin
  repeat' (first|(with_reducible first|refine jA ?_|(refine hK _ _ ?_;clear hK K)|refine jJ fun K hK=>?_|refine jK ?_|refine jL ?_|refine jM ?_|refine jN ?_|refine jO ?_|refine jP ?_|refine jQ ?_|(refine jB ?_;clear hK K)|(refine jC ?_;clear hK K)|refine jD ?_|refine jE ?_|refine jG ?_|refine jH ?_|refine jI ?_)|((with_reducible refine jR ?hq ?_);case hq=>rfl)|((first|(with_reducible first|refine jS fun K hK=>?_|refine jT ?_|refine jU ?_)|((with_reducible refine jV ?hy fun K hK=>?_);case hy=>rfl));simp only [go_sem, Nat.reduceEqDiff, Nat.reduceAdd, Nat.reduceMul, Nat.reduceLeDiff, Nat.reduceLT, Int.reduceLT, Int.reduceLE, Int.reduceEq, Int.reduceNeg, Int.reduceToNat, Nat.reducePow, reduceIte, reduceCtorEq, hd, hh, hu, c0, u2, t1])|((with_reducible first|refine jW ?hy ?_|refine jY ?hy ?_);case hy=>rfl)|((with_reducible first|refine jX ?hy ?_|refine jZ ?hy ?_);case hy=>rfl)|((with_reducible refine jF ?hy ?_);case hy=>decide))
  rename_i KT hKT K1 hK1
  have tail : ∀ (e' : Env) (H1 : Heap), e' 0 = .pointer (some ⟨t, 0, none⟩) → e' 1 = .int .i64 (h : Nat) → e' 4 = .pointer (some ⟨g, h * 10, none⟩) → e' 5 = .int .i64 (u : Nat) → e' 6 = .pointer (some ⟨g, u * 10, none⟩) → e' 7 = .int .i64 0 →
    NA H1 t g c len (rot1 N u h) → Fr (· = g) H H1 → KT e' H1 := by
   clear hK K hK1 K1
   intro e' H1 i0 i1 i4 i5 i6 i7 hN1 hf1
   refine hKT _ _ ?_
   clear hKT KT
   have p0 := hN1.cell0 hu
   have w0 := hN1.okw0 hh
   have hN2 := setUpA hN1 hh (hN1.cl.up u hu)
   have e2 : upd (rot1 N u h) h { rot1 N u h h with up := (rot1 N u h u).up } = rot2 N u h := rfl
   rw [e2] at hN2
   have hf2 := hf1.trans (hset_fr H1 g (h * 10) (.int .i64 ((rot1 N u h u).up : Nat)))
   have p1 := hN2.cell (j := 2) hh rfl
   have wk := hN2.okw hu 1 (by omega)
   have hkl := hN2.cl.r h hh
   have hN3 := setL hN2 hu hkl
   have hf3 := hf2.trans (hset_fr _ g (u * 10 + 1) (.int .i64 ((rot2 N u h h).r : Nat)))
   have ek : (rot2 N u h h).kid (!false) = (rot2 N u h h).r := rfl
   rw [ek] at fin
   generalize hk : (rot2 N u h h).r = k at fin hN3 hf3 hkl p1
   have e3 : upd (rot2 N u h) u { rot2 N u h u with l := k } = rot3 N u h false k := rfl
   rw [e3] at hN3
   repeat' (first|(with_reducible first|refine jA ?_|(refine hK _ _ ?_;clear hK K)|refine jJ fun K hK=>?_|refine jK ?_|refine jL ?_|refine jM ?_|refine jN ?_|refine jO ?_|refine jP ?_|refine jQ ?_|(refine jB ?_;clear hK K)|(refine jC ?_;clear hK K)|refine jD ?_|refine jE ?_|refine jG ?_|refine jH ?_|refine jI ?_)|((with_reducible refine jR ?hq ?_);case hq=>rfl)|((first|(with_reducible first|refine jS fun K hK=>?_|refine jT ?_|refine jU ?_)|((with_reducible refine jV ?hy fun K hK=>?_);case hy=>rfl));simp only [go_sem, Nat.reduceEqDiff, Nat.reduceAdd, Nat.reduceMul, Nat.reduceLeDiff, Nat.reduceLT, Int.reduceLT, Int.reduceLE, Int.reduceEq, Int.reduceNeg, Int.reduceToNat, Nat.reducePow, reduceIte, reduceCtorEq, i0, i1, i4, i5, i6, i7, p0, w0, ew, p1, wk])|((with_reducible first|refine jW ?hy ?_|refine jY ?hy ?_);case hy=>rfl)|((with_reducible first|refine jX ?hy ?_|refine jZ ?hy ?_);case hy=>rfl)|((with_reducible refine jF ?hy ?_);case hy=>decide))
   have tail2 : ∀ (e' : Env) (H4 : Heap), e' 0 = .pointer (some ⟨t, 0, none⟩) → e' 1 = .int .i64 (h : Nat) → e' 4 = .pointer (some ⟨g, h * 10, none⟩) → e' 5 = .int .i64 (u : Nat) → e' 6 = .pointer (some ⟨g, u * 10, none⟩) → e' 7 = .int .i64 0 →
     NA H4 t g c len (rot4 N u h false k) → Fr (· = g) H H4 → K e' H4 := by
    intro e' H4 i0 i1 i4 i5 i6 i7 hN4 hf4
    refine hK _ _ ?_
    clear hK K
    have w1 := hN4.okw hh 2 (by omega)
    have hN5 := setR hN4 hh hu
    have e5 : upd (rot4 N u h false k) h { rot4 N u h false k h with r := u } = rot5 N u h false k := rfl
    rw [e5] at hN5
    have hf5 := hf4.trans (hset_fr _ g (h * 10 + 2) (.int .i64 (u : Nat)))
    have w2 := hN5.okw0 hu
    have hN6 := setUpA hN5 hu hh
    have e6 : upd (rot5 N u h false k) u { rot5 N u h false k u with up := h } = rot6 N u h false k := rfl
    rw [e6] at hN6
    have hf6 := hf5.trans (hset_fr _ g (u * 10) (.int .i64 (h : Nat)))
    repeat' (first|(with_reducible first|refine jA ?_|(refine hK _ _ ?_;clear hK K)|refine jJ fun K hK=>?_|refine jK ?_|refine jL ?_|refine jM ?_|refine jN ?_|refine jO ?_|refine jP ?_|refine jQ ?_|(refine jB ?_;clear hK K)|(refine jC ?_;clear hK K)|refine jD ?_|refine jE ?_|refine jG ?_|refine jH ?_|refine jI ?_)|((with_reducible refine jR ?hq ?_);case hq=>rfl)|((first|(with_reducible first|refine jS fun K hK=>?_|refine jT ?_|refine jU ?_)|((with_reducible refine jV ?hy fun K hK=>?_);case hy=>rfl));simp only [go_sem, Nat.reduceEqDiff, Nat.reduceAdd, Nat.reduceMul, Nat.reduceLeDiff, Nat.reduceLT, Int.reduceLT, Int.reduceLE, Int.reduceEq, Int.reduceNeg, Int.reduceToNat, Nat.reducePow, reduceIte, reduceCtorEq, i0, i1, i4, i5, i6, i7, ew, w1, w2])|((with_reducible first|refine jW ?hy ?_|refine jY ?hy ?_);case hy=>rfl)|((with_reducible first|refine jX ?hy ?_|refine jZ ?hy ?_);case hy=>rfl)|((with_reducible refine jF ?hy ?_);case hy=>decide))
    refine pull_ok hN6 hu fun H7 hN7 hf7 => ?_
    repeat' (first|(with_reducible first|refine jA ?_|(refine hK _ _ ?_;clear hK K)|refine jJ fun K hK=>?_|refine jK ?_|refine jL ?_|refine jM ?_|refine jN ?_|refine jO ?_|refine jP ?_|refine jQ ?_|(refine jB ?_;clear hK K)|(refine jC ?_;clear hK K)|refine jD ?_|refine jE ?_|refine jG ?_|refine jH ?_|refine jI ?_)|((with_reducible refine jR ?hq ?_);case hq=>rfl)|((first|(with_reducible first|refine jS fun K hK=>?_|refine jT ?_|refine jU ?_)|((with_reducible refine jV ?hy fun K hK=>?_);case hy=>rfl));simp only [go_sem, Nat.reduceEqDiff, Nat.reduceAdd, Nat.reduceMul, Nat.reduceLeDiff, Nat.reduceLT, Int.reduceLT, Int.reduceLE, Int.reduceEq, Int.reduceNeg, Int.reduceToNat, Nat.reducePow, reduceIte, reduceCtorEq, i0, i1, i5])|((with_reducible first|refine jW ?hy ?_|refine jY ?hy ?_);case hy=>rfl)|((with_reducible first|refine jX ?hy ?_|refine jZ ?hy ?_);case hy=>rfl)|((with_reducible refine jF ?hy ?_);case hy=>decide))
    refine pull_ok hN7 hh fun H8 hN8 hf8 => ?_
    repeat' (first|(with_reducible first|refine jA ?_|(refine hK _ _ ?_;clear hK K)|refine jJ fun K hK=>?_|refine jK ?_|refine jL ?_|refine jM ?_|refine jN ?_|refine jO ?_|refine jP ?_|refine jQ ?_|(refine jB ?_;clear hK K)|(refine jC ?_;clear hK K)|refine jD ?_|refine jE ?_|refine jG ?_|refine jH ?_|refine jI ?_)|((with_reducible refine jR ?hq ?_);case hq=>rfl)|((first|(with_reducible first|refine jS fun K hK=>?_|refine jT ?_|refine jU ?_)|((with_reducible refine jV ?hy fun K hK=>?_);case hy=>rfl));simp only [go_sem, Nat.reduceEqDiff, Nat.reduceAdd, Nat.reduceMul, Nat.reduceLeDiff, Nat.reduceLT, Int.reduceLT, Int.reduceLE, Int.reduceEq, Int.reduceNeg, Int.reduceToNat, Nat.reducePow, reduceIte, reduceCtorEq])|((with_reducible first|refine jW ?hy ?_|refine jY ?hy ?_);case hy=>rfl)|((with_reducible first|refine jX ?hy ?_|refine jZ ?hy ?_);case hy=>rfl)|((with_reducible refine jF ?hy ?_);case hy=>decide))
    exact fin _ hN8 ((hf6.trans hf7).trans hf8)
   clear hK
   have hd3 := hN3.hd
   have w4 := hN3.okw0 hkl
   by_cases hk0 : k = 0
   ·have t2 : ((k : Int) != 0) = false := by simp [hk0]
    have e4 : rot4 N u h false k = rot3 N u h false k := if_pos hk0
    rw [e4] at tail2
    simp only [t2]
    repeat' (first|(with_reducible first|refine jA ?_|(refine hK _ _ ?_;clear hK K)|refine jJ fun K hK=>?_|refine jK ?_|refine jL ?_|refine jM ?_|refine jN ?_|refine jO ?_|refine jP ?_|refine jQ ?_|(refine jB ?_;clear hK K)|(refine jC ?_;clear hK K)|refine jD ?_|refine jE ?_|refine jG ?_|refine jH ?_|refine jI ?_)|((with_reducible refine jR ?hq ?_);case hq=>rfl)|((first|(with_reducible first|refine jS fun K hK=>?_|refine jT ?_|refine jU ?_)|((with_reducible refine jV ?hy fun K hK=>?_);case hy=>rfl));simp only [go_sem, Nat.reduceEqDiff, Nat.reduceAdd, Nat.reduceMul, Nat.reduceLeDiff, Nat.reduceLT, Int.reduceLT, Int.reduceLE, Int.reduceEq, Int.reduceNeg, Int.reduceToNat, Nat.reducePow, reduceIte, reduceCtorEq])|((with_reducible first|refine jW ?hy ?_|refine jY ?hy ?_);case hy=>rfl)|((with_reducible first|refine jX ?hy ?_|refine jZ ?hy ?_);case hy=>rfl)|((with_reducible refine jF ?hy ?_);case hy=>decide))
    refine tail2 _ _ ?_ ?_ ?_ ?_ ?_ ?_ hN3 hf3 <;> first | exact i0 | exact i1 | exact i4 | exact i5 | exact i6 | exact i7
   ·have t2 : ((k : Int) != 0) = true := by simp [hk0]
    have hN4 := setUpA hN3 hkl hu
    have e4 : upd (rot3 N u h false k) k { rot3 N u h false k k with up := u } = rot4 N u h false k := by unfold rot4; rw [if_neg hk0]
    rw [e4] at hN4
    simp only [t2]
    repeat' (first|(with_reducible first|refine jA ?_|(refine hK _ _ ?_;clear hK K)|refine jJ fun K hK=>?_|refine jK ?_|refine jL ?_|refine jM ?_|refine jN ?_|refine jO ?_|refine jP ?_|refine jQ ?_|(refine jB ?_;clear hK K)|(refine jC ?_;clear hK K)|refine jD ?_|refine jE ?_|refine jG ?_|refine jH ?_|refine jI ?_)|((with_reducible refine jR ?hq ?_);case hq=>rfl)|((first|(with_reducible first|refine jS fun K hK=>?_|refine jT ?_|refine jU ?_)|((with_reducible refine jV ?hy fun K hK=>?_);case hy=>rfl));simp only [go_sem, Nat.reduceEqDiff, Nat.reduceAdd, Nat.reduceMul, Nat.reduceLeDiff, Nat.reduceLT, Int.reduceLT, Int.reduceLE, Int.reduceEq, Int.reduceNeg, Int.reduceToNat, Nat.reducePow, reduceIte, reduceCtorEq, i0, i5, hd3, hkl, w4])|((with_reducible first|refine jW ?hy ?_|refine jY ?hy ?_);case hy=>rfl)|((with_reducible first|refine jX ?hy ?_|refine jZ ?hy ?_);case hy=>rfl)|((with_reducible refine jF ?hy ?_);case hy=>decide))
    refine tail2 _ _ ?_ ?_ ?_ ?_ ?_ ?_ hN4 (hf3.trans (hset_fr _ _ _ _)) <;> first | exact i0 | exact i1 | exact i4 | exact i5 | exact i6 | exact i7
  clear hKT
  have hq := hN.cl.up u hu
  simp only [go_sem, Nat.reduceEqDiff, Nat.reduceAdd, Nat.reduceMul, Nat.reduceLeDiff, Nat.reduceLT, Int.reduceLT, Int.reduceLE, Int.reduceEq, Int.reduceNeg, Int.reduceToNat, Nat.reducePow, reduceIte, reduceCtorEq, u0]
  repeat' (first|(with_reducible first|refine jA ?_|(refine hK _ _ ?_;clear hK K)|refine jJ fun K hK=>?_|refine jK ?_|refine jL ?_|refine jM ?_|refine jN ?_|refine jO ?_|refine jP ?_|refine jQ ?_|(refine jB ?_;clear hK K)|(refine jC ?_;clear hK K)|refine jD ?_|refine jE ?_|refine jG ?_|refine jH ?_|refine jI ?_)|((with_reducible refine jR ?hq ?_);case hq=>rfl)|((first|(with_reducible first|refine jS fun K hK=>?_|refine jT ?_|refine jU ?_)|((with_reducible refine jV ?hy fun K hK=>?_);case hy=>rfl));simp only [go_sem, Nat.reduceEqDiff, Nat.reduceAdd, Nat.reduceMul, Nat.reduceLeDiff, Nat.reduceLT, Int.reduceLT, Int.reduceLE, Int.reduceEq, Int.reduceNeg, Int.reduceToNat, Nat.reducePow, reduceIte, reduceCtorEq])|((with_reducible first|refine jW ?hy ?_|refine jY ?hy ?_);case hy=>rfl)|((with_reducible first|refine jX ?hy ?_|refine jZ ?hy ?_);case hy=>rfl)|((with_reducible refine jF ?hy ?_);case hy=>decide))
  refine hK1 _ _ ?_
  clear hK1 K1
  repeat' (first|(with_reducible first|refine jA ?_|(refine hK _ _ ?_;clear hK K)|refine jJ fun K hK=>?_|refine jK ?_|refine jL ?_|refine jM ?_|refine jN ?_|refine jO ?_|refine jP ?_|refine jQ ?_|(refine jB ?_;clear hK K)|(refine jC ?_;clear hK K)|refine jD ?_|refine jE ?_|refine jG ?_|refine jH ?_|refine jI ?_)|((with_reducible refine jR ?hq ?_);case hq=>rfl)|((first|(with_reducible first|refine jS fun K hK=>?_|refine jT ?_|refine jU ?_)|((with_reducible refine jV ?hy fun K hK=>?_);case hy=>rfl));simp only [go_sem, Nat.reduceEqDiff, Nat.reduceAdd, Nat.reduceMul, Nat.reduceLeDiff, Nat.reduceLT, Int.reduceLT, Int.reduceLE, Int.reduceEq, Int.reduceNeg, Int.reduceToNat, Nat.reducePow, reduceIte, reduceCtorEq])|((with_reducible first|refine jW ?hy ?_|refine jY ?hy ?_);case hy=>rfl)|((with_reducible first|refine jX ?hy ?_|refine jZ ?hy ?_);case hy=>rfl)|((with_reducible refine jF ?hy ?_);case hy=>decide))
  refine top_ok hN hu ?_
  cases hT : topB N u with
  | true =>
   have e1 : rot1 N u h = N := if_pos hT
   rw [e1] at tail
   repeat' (first|(with_reducible first|refine jA ?_|(refine hK _ _ ?_;clear hK K)|refine jJ fun K hK=>?_|refine jK ?_|refine jL ?_|refine jM ?_|refine jN ?_|refine jO ?_|refine jP ?_|refine jQ ?_|(refine jB ?_;clear hK K)|(refine jC ?_;clear hK K)|refine jD ?_|refine jE ?_|refine jG ?_|refine jH ?_|refine jI ?_)|((with_reducible refine jR ?hq ?_);case hq=>rfl)|((first|(with_reducible first|refine jS fun K hK=>?_|refine jT ?_|refine jU ?_)|((with_reducible refine jV ?hy fun K hK=>?_);case hy=>rfl));simp only [go_sem, Nat.reduceEqDiff, Nat.reduceAdd, Nat.reduceMul, Nat.reduceLeDiff, Nat.reduceLT, Int.reduceLT, Int.reduceLE, Int.reduceEq, Int.reduceNeg, Int.reduceToNat, Nat.reducePow, reduceIte, reduceCtorEq])|((with_reducible first|refine jW ?hy ?_|refine jY ?hy ?_);case hy=>rfl)|((with_reducible first|refine jX ?hy ?_|refine jZ ?hy ?_);case hy=>rfl)|((with_reducible refine jF ?hy ?_);case hy=>decide))
   refine tail _ _ ?_ ?_ ?_ ?_ ?_ ?_ hN (.refl _ _) <;> rfl
  | false =>
   have e1 : rot1 N u h = upd N (N u).up ((N (N u).up).swap u h) := if_neg (by rw [hT]; simp)
   rw [e1] at tail
   have q1 := hN.cell (j := 1) hq rfl
   have q2 := hN.cell (j := 2) hq rfl
   have hswap : hasK (N (N u).up) u = true := by
    unfold topB at hT
    simp only [Bool.or_eq_false_iff, Bool.not_eq_false'] at hT
    exact hT.2
   repeat' (first|(with_reducible first|refine jA ?_|(refine hK _ _ ?_;clear hK K)|refine jJ fun K hK=>?_|refine jK ?_|refine jL ?_|refine jM ?_|refine jN ?_|refine jO ?_|refine jP ?_|refine jQ ?_|(refine jB ?_;clear hK K)|(refine jC ?_;clear hK K)|refine jD ?_|refine jE ?_|refine jG ?_|refine jH ?_|refine jI ?_)|((with_reducible refine jR ?hq ?_);case hq=>rfl)|((first|(with_reducible first|refine jS fun K hK=>?_|refine jT ?_|refine jU ?_)|((with_reducible refine jV ?hy fun K hK=>?_);case hy=>rfl));simp only [go_sem, Nat.reduceEqDiff, Nat.reduceAdd, Nat.reduceMul, Nat.reduceLeDiff, Nat.reduceLT, Int.reduceLT, Int.reduceLE, Int.reduceEq, Int.reduceNeg, Int.reduceToNat, Nat.reducePow, reduceIte, reduceCtorEq, hd, hq])|((with_reducible first|refine jW ?hy ?_|refine jY ?hy ?_);case hy=>rfl)|((with_reducible first|refine jX ?hy ?_|refine jZ ?hy ?_);case hy=>rfl)|((with_reducible refine jF ?hy ?_);case hy=>decide))
   refine x_drawS [] [0, 1, 2, 3, 4, 5, 6, 8, 9, 10, 11, 7, 12, 13] rfl (by kernel_rfl) (Cells []) trivial ?_
   repeat' (first|(with_reducible refine xs_nil ?_)|((first|((with_reducible apply xs_rd);case hi=>rfl)|((with_reducible apply xs_guard_yes);(case hi=>rfl);(case hy=>rfl)));(case hr=>rfl);(case h1=>intro H' hS'; (try simp only [Cells, and_true] at hS');simp only [go_sem, Nat.reduceEqDiff, Nat.reduceAdd, Nat.reduceMul, Nat.reduceLeDiff, Nat.reduceLT, Int.reduceLT, Int.reduceLE, Int.reduceEq, Int.reduceNeg, Int.reduceToNat, Nat.reducePow, reduceIte, reduceCtorEq, hS']; rfl))|((with_reducible refine xs_tail ?hz ?_);case hz=>rfl)|((with_reducible refine xs_keep ?hz ?_);case hz=>first|(with_reducible assumption)|(simp only [go_sem, Nat.reduceEqDiff, Nat.reduceAdd, Nat.reduceMul, Nat.reduceLeDiff, Nat.reduceLT, Int.reduceLT, Int.reduceLE, Int.reduceEq, Int.reduceNeg, Int.reduceToNat, Nat.reducePow, reduceIte, reduceCtorEq, Cells, and_true]; done)|assumption)|((with_reducible apply xs_guard_no);(case hi=>rfl);(case hy=>rfl);(case hS=>assumption))|((first|((with_reducible apply xs_op);(case hi=>rfl))|((with_reducible apply xs_op_yes);(case hi=>rfl);(case hy=>rfl)));(case hr=>rfl);intro K hK; simp only [go_sem, Nat.reduceEqDiff, Nat.reduceAdd, Nat.reduceMul, Nat.reduceLeDiff, Nat.reduceLT, Int.reduceLT, Int.reduceLE, Int.reduceEq, Int.reduceNeg, Int.reduceToNat, Nat.reducePow, reduceIte, reduceCtorEq])|(with_reducible first|refine jA ?_|(refine hK _ _ ?_;clear hK K)|refine jJ fun K hK=>?_|refine jK ?_|refine jL ?_|refine jM ?_|refine jN ?_|refine jO ?_|refine jP ?_|refine jQ ?_|(refine jB ?_;clear hK K)|(refine jC ?_;clear hK K)|refine jD ?_|refine jE ?_|refine jG ?_|refine jH ?_|refine jI ?_)|((with_reducible refine jR ?hq ?_);case hq=>rfl)|((first|(with_reducible first|refine jS fun K hK=>?_|refine jT ?_|refine jU ?_)|((with_reducible refine jV ?hy fun K hK=>?_);case hy=>rfl));simp only [go_sem, Nat.reduceEqDiff, Nat.reduceAdd, Nat.reduceMul, Nat.reduceLeDiff, Nat.reduceLT, Int.reduceLT, Int.reduceLE, Int.reduceEq, Int.reduceNeg, Int.reduceToNat, Nat.reducePow, reduceIte, reduceCtorEq])|((with_reducible first|refine jW ?hy ?_|refine jY ?hy ?_);case hy=>rfl)|((with_reducible first|refine jX ?hy ?_|refine jZ ?hy ?_);case hy=>rfl)|((with_reducible refine jF ?hy ?_);case hy=>decide))
   refine index2 q1 q2 ?_
   unfold hasK at hswap
   by_cases hl : (N (N u).up).l = u
   ·have ei : ix2 (N (N u).up).l (N (N u).up).r u = 0 := if_pos hl.symm
    have es : (N (N u).up).swap u h = { N (N u).up with l := h } := if_pos hl
    rw [ei]
    rw [es] at tail
    have w1 := hN.okw hq 1 (by omega)
    repeat' (first|(with_reducible refine xs_nil ?_)|((first|((with_reducible apply xs_rd);case hi=>rfl)|((with_reducible apply xs_guard_yes);(case hi=>rfl);(case hy=>rfl)));(case hr=>rfl);(case h1=>intro H' hS'; (try simp only [Cells, and_true] at hS');simp only [go_sem, Nat.reduceEqDiff, Nat.reduceAdd, Nat.reduceMul, Nat.reduceLeDiff, Nat.reduceLT, Int.reduceLT, Int.reduceLE, Int.reduceEq, Int.reduceNeg, Int.reduceToNat, Nat.reducePow, reduceIte, reduceCtorEq, w1, hS']; rfl))|((with_reducible refine xs_tail ?hz ?_);case hz=>rfl)|((with_reducible refine xs_keep ?hz ?_);case hz=>first|(with_reducible assumption)|(simp only [go_sem, Nat.reduceEqDiff, Nat.reduceAdd, Nat.reduceMul, Nat.reduceLeDiff, Nat.reduceLT, Int.reduceLT, Int.reduceLE, Int.reduceEq, Int.reduceNeg, Int.reduceToNat, Nat.reducePow, reduceIte, reduceCtorEq, Cells, and_true, w1]; done)|assumption)|((with_reducible apply xs_guard_no);(case hi=>rfl);(case hy=>rfl);(case hS=>assumption))|((first|((with_reducible apply xs_op);(case hi=>rfl))|((with_reducible apply xs_op_yes);(case hi=>rfl);(case hy=>rfl)));(case hr=>rfl);intro K hK; simp only [go_sem, Nat.reduceEqDiff, Nat.reduceAdd, Nat.reduceMul, Nat.reduceLeDiff, Nat.reduceLT, Int.reduceLT, Int.reduceLE, Int.reduceEq, Int.reduceNeg, Int.reduceToNat, Nat.reducePow, reduceIte, reduceCtorEq, w1])|(with_reducible first|refine jA ?_|(refine hK _ _ ?_;clear hK K)|refine jJ fun K hK=>?_|refine jK ?_|refine jL ?_|refine jM ?_|refine jN ?_|refine jO ?_|refine jP ?_|refine jQ ?_|(refine jB ?_;clear hK K)|(refine jC ?_;clear hK K)|refine jD ?_|refine jE ?_|refine jG ?_|refine jH ?_|refine jI ?_)|((with_reducible refine jR ?hq ?_);case hq=>rfl)|((first|(with_reducible first|refine jS fun K hK=>?_|refine jT ?_|refine jU ?_)|((with_reducible refine jV ?hy fun K hK=>?_);case hy=>rfl));simp only [go_sem, Nat.reduceEqDiff, Nat.reduceAdd, Nat.reduceMul, Nat.reduceLeDiff, Nat.reduceLT, Int.reduceLT, Int.reduceLE, Int.reduceEq, Int.reduceNeg, Int.reduceToNat, Nat.reducePow, reduceIte, reduceCtorEq, w1])|((with_reducible first|refine jW ?hy ?_|refine jY ?hy ?_);case hy=>rfl)|((with_reducible first|refine jX ?hy ?_|refine jZ ?hy ?_);case hy=>rfl)|((with_reducible refine jF ?hy ?_);case hy=>decide))
    refine tail _ _ ?_ ?_ ?_ ?_ ?_ ?_ (setL hN hq hh) (hset_fr _ _ _ _) <;> rfl
   ·have hr : (N (N u).up).r = u := by simpa [hl] using hswap
    have ei : ix2 (N (N u).up).l (N (N u).up).r u = 1 := by unfold ix2; rw [if_neg (Ne.symm hl), if_pos hr.symm]
    have es : (N (N u).up).swap u h = { N (N u).up with r := h } := if_neg hl
    rw [ei]
    rw [es] at tail
    have w1 := hN.okw hq 2 (by omega)
    repeat' (first|(with_reducible refine xs_nil ?_)|((first|((with_reducible apply xs_rd);case hi=>rfl)|((with_reducible apply xs_guard_yes);(case hi=>rfl);(case hy=>rfl)));(case hr=>rfl);(case h1=>intro H' hS'; (try simp only [Cells, and_true] at hS');simp only [go_sem, Nat.reduceEqDiff, Nat.reduceAdd, Nat.reduceMul, Nat.reduceLeDiff, Nat.reduceLT, Int.reduceLT, Int.reduceLE, Int.reduceEq, Int.reduceNeg, Int.reduceToNat, Nat.reducePow, reduceIte, reduceCtorEq, w1, hS']; rfl))|((with_reducible refine xs_tail ?hz ?_);case hz=>rfl)|((with_reducible refine xs_keep ?hz ?_);case hz=>first|(with_reducible assumption)|(simp only [go_sem, Nat.reduceEqDiff, Nat.reduceAdd, Nat.reduceMul, Nat.reduceLeDiff, Nat.reduceLT, Int.reduceLT, Int.reduceLE, Int.reduceEq, Int.reduceNeg, Int.reduceToNat, Nat.reducePow, reduceIte, reduceCtorEq, Cells, and_true, w1]; done)|assumption)|((with_reducible apply xs_guard_no);(case hi=>rfl);(case hy=>rfl);(case hS=>assumption))|((first|((with_reducible apply xs_op);(case hi=>rfl))|((with_reducible apply xs_op_yes);(case hi=>rfl);(case hy=>rfl)));(case hr=>rfl);intro K hK; simp only [go_sem, Nat.reduceEqDiff, Nat.reduceAdd, Nat.reduceMul, Nat.reduceLeDiff, Nat.reduceLT, Int.reduceLT, Int.reduceLE, Int.reduceEq, Int.reduceNeg, Int.reduceToNat, Nat.reducePow, reduceIte, reduceCtorEq, w1])|(with_reducible first|refine jA ?_|(refine hK _ _ ?_;clear hK K)|refine jJ fun K hK=>?_|refine jK ?_|refine jL ?_|refine jM ?_|refine jN ?_|refine jO ?_|refine jP ?_|refine jQ ?_|(refine jB ?_;clear hK K)|(refine jC ?_;clear hK K)|refine jD ?_|refine jE ?_|refine jG ?_|refine jH ?_|refine jI ?_)|((with_reducible refine jR ?hq ?_);case hq=>rfl)|((first|(with_reducible first|refine jS fun K hK=>?_|refine jT ?_|refine jU ?_)|((with_reducible refine jV ?hy fun K hK=>?_);case hy=>rfl));simp only [go_sem, Nat.reduceEqDiff, Nat.reduceAdd, Nat.reduceMul, Nat.reduceLeDiff, Nat.reduceLT, Int.reduceLT, Int.reduceLE, Int.reduceEq, Int.reduceNeg, Int.reduceToNat, Nat.reducePow, reduceIte, reduceCtorEq, w1])|((with_reducible first|refine jW ?hy ?_|refine jY ?hy ?_);case hy=>rfl)|((with_reducible first|refine jX ?hy ?_|refine jZ ?hy ?_);case hy=>rfl)|((with_reducible refine jF ?hy ?_);case hy=>decide))
    refine tail _ _ ?_ ?_ ?_ ?_ ?_ ?_ (setR hN hq hh) (hset_fr _ _ _ _) <;> rfl
 | true =>
  have t1 : (((N u).r : Int) == (h : Int)) = true := by unfold sideN at hs; simp at hs ⊢; omega
  have ew : IntKind.i64.wrap ((1 : Int) - 1) = 0 := by rw [wrap_i64] <;> omega
  rw [hs] at fin
  repeat' (first|(with_reducible first|refine jA ?_|(refine hK _ _ ?_;clear hK K)|refine jJ fun K hK=>?_|refine jK ?_|refine jL ?_|refine jM ?_|refine jN ?_|refine jO ?_|refine jP ?_|refine jQ ?_|(refine jB ?_;clear hK K)|(refine jC ?_;clear hK K)|refine jD ?_|refine jE ?_|refine jG ?_|refine jH ?_|refine jI ?_)|((with_reducible refine jR ?hq ?_);case hq=>rfl)|((first|(with_reducible first|refine jS fun K hK=>?_|refine jT ?_|refine jU ?_)|((with_reducible refine jV ?hy fun K hK=>?_);case hy=>rfl));simp only [go_sem, Nat.reduceEqDiff, Nat.reduceAdd, Nat.reduceMul, Nat.reduceLeDiff, Nat.reduceLT, Int.reduceLT, Int.reduceLE, Int.reduceEq, Int.reduceNeg, Int.reduceToNat, Nat.reducePow, reduceIte, reduceCtorEq, hd, hh, hu, c0, u2, t1])|((with_reducible first|refine jW ?hy ?_|refine jY ?hy ?_);case hy=>rfl)|((with_reducible first|refine jX ?hy ?_|refine jZ ?hy ?_);case hy=>rfl)|((with_reducible refine jF ?hy ?_);case hy=>decide))
  rename_i KT hKT K1 hK1
  have tail : ∀ (e' : Env) (H1 : Heap), e' 0 = .pointer (some ⟨t, 0, none⟩) → e' 1 = .int .i64 (h : Nat) → e' 4 = .pointer (some ⟨g, h * 10, none⟩) → e' 5 = .int .i64 (u : Nat) → e' 6 = .pointer (some ⟨g, u * 10, none⟩) → e' 7 = .int .i64 1 →
    NA H1 t g c len (rot1 N u h) → Fr (· = g) H H1 → KT e' H1 := by
   clear hK K hK1 K1
   intro e' H1 i0 i1 i4 i5 i6 i7 hN1 hf1
   refine hKT _ _ ?_
   clear hKT KT
   have p0 := hN1.cell0 hu
   have w0 := hN1.okw0 hh
   have hN2 := setUpA hN1 hh (hN1.cl.up u hu)
   have e2 : upd (rot1 N u h) h { rot1 N u h h with up := (rot1 N u h u).up } = rot2 N u h := rfl
   rw [e2] at hN2
   have hf2 := hf1.trans (hset_fr H1 g (h * 10) (.int .i64 ((rot1 N u h u).up : Nat)))
   have p1 := hN2.cell (j := 1) hh rfl
   have wk := hN2.okw hu 2 (by omega)
   have hkl := hN2.cl.l h hh
   have hN3 := setR hN2 hu hkl
   have hf3 := hf2.trans (hset_fr _ g (u * 10 + 2) (.int .i64 ((rot2 N u h h).l : Nat)))
   have ek : (rot2 N u h h).kid (!true) = (rot2 N u h h).l := rfl
   rw [ek] at fin
   generalize hk : (rot2 N u h h).l = k at fin hN3 hf3 hkl p1
   have e3 : upd (rot2 N u h) u { rot2 N u h u with r := k } = rot3 N u h true k := rfl
   rw [e3] at hN3
   repeat' (first|(with_reducible first|refine jA ?_|(refine hK _ _ ?_;clear hK K)|refine jJ fun K hK=>?_|refine jK ?_|refine jL ?_|refine jM ?_|refine jN ?_|refine jO ?_|refine jP ?_|refine jQ ?_|(refine jB ?_;clear hK K)|(refine jC ?_;clear hK K)|refine jD ?_|refine jE ?_|refine jG ?_|refine jH ?_|refine jI ?_)|((with_reducible refine jR ?hq ?_);case hq=>rfl)|((first|(with_reducible first|refine jS fun K hK=>?_|refine jT ?_|refine jU ?_)|((with_reducible refine jV ?hy fun K hK=>?_);case hy=>rfl));simp only [go_sem, Nat.reduceEqDiff, Nat.reduceAdd, Nat.reduceMul, Nat.reduceLeDiff, Nat.reduceLT, Int.reduceLT, Int.reduceLE, Int.reduceEq, Int.reduceNeg, Int.reduceToNat, Nat.reducePow, reduceIte, reduceCtorEq, i0, i1, i4, i5, i6, i7, p0, w0, ew, p1, wk])|((with_reducible first|refine jW ?hy ?_|refine jY ?hy ?_);case hy=>rfl)|((with_reducible first|refine jX ?hy ?_|refine jZ ?hy ?_);case hy=>rfl)|((with_reducible refine jF ?hy ?_);case hy=>decide))
   have tail2 : ∀ (e' : Env) (H4 : Heap), e' 0 = .pointer (some ⟨t, 0, none⟩) → e' 1 = .int .i64 (h : Nat) → e' 4 = .pointer (some ⟨g, h * 10, none⟩) → e' 5 = .int .i64 (u : Nat) → e' 6 = .pointer (some ⟨g, u * 10, none⟩) → e' 7 = .int .i64 1 →
     NA H4 t g c len (rot4 N u h true k) → Fr (· = g) H H4 → K e' H4 := by
    intro e' H4 i0 i1 i4 i5 i6 i7 hN4 hf4
    refine hK _ _ ?_
    clear hK K
    have w1 := hN4.okw hh 1 (by omega)
    have hN5 := setL hN4 hh hu
    have e5 : upd (rot4 N u h true k) h { rot4 N u h true k h with l := u } = rot5 N u h true k := rfl
    rw [e5] at hN5
    have hf5 := hf4.trans (hset_fr _ g (h * 10 + 1) (.int .i64 (u : Nat)))
    have w2 := hN5.okw0 hu
    have hN6 := setUpA hN5 hu hh
    have e6 : upd (rot5 N u h true k) u { rot5 N u h true k u with up := h } = rot6 N u h true k := rfl
    rw [e6] at hN6
    have hf6 := hf5.trans (hset_fr _ g (u * 10) (.int .i64 (h : Nat)))
    repeat' (first|(with_reducible first|refine jA ?_|(refine hK _ _ ?_;clear hK K)|refine jJ fun K hK=>?_|refine jK ?_|refine jL ?_|refine jM ?_|refine jN ?_|refine jO ?_|refine jP ?_|refine jQ ?_|(refine jB ?_;clear hK K)|(refine jC ?_;clear hK K)|refine jD ?_|refine jE ?_|refine jG ?_|refine jH ?_|refine jI ?_)|((with_reducible refine jR ?hq ?_);case hq=>rfl)|((first|(with_reducible first|refine jS fun K hK=>?_|refine jT ?_|refine jU ?_)|((with_reducible refine jV ?hy fun K hK=>?_);case hy=>rfl));simp only [go_sem, Nat.reduceEqDiff, Nat.reduceAdd, Nat.reduceMul, Nat.reduceLeDiff, Nat.reduceLT, Int.reduceLT, Int.reduceLE, Int.reduceEq, Int.reduceNeg, Int.reduceToNat, Nat.reducePow, reduceIte, reduceCtorEq, i0, i1, i4, i5, i6, i7, ew, w1, w2])|((with_reducible first|refine jW ?hy ?_|refine jY ?hy ?_);case hy=>rfl)|((with_reducible first|refine jX ?hy ?_|refine jZ ?hy ?_);case hy=>rfl)|((with_reducible refine jF ?hy ?_);case hy=>decide))
    refine pull_ok hN6 hu fun H7 hN7 hf7 => ?_
    repeat' (first|(with_reducible first|refine jA ?_|(refine hK _ _ ?_;clear hK K)|refine jJ fun K hK=>?_|refine jK ?_|refine jL ?_|refine jM ?_|refine jN ?_|refine jO ?_|refine jP ?_|refine jQ ?_|(refine jB ?_;clear hK K)|(refine jC ?_;clear hK K)|refine jD ?_|refine jE ?_|refine jG ?_|refine jH ?_|refine jI ?_)|((with_reducible refine jR ?hq ?_);case hq=>rfl)|((first|(with_reducible first|refine jS fun K hK=>?_|refine jT ?_|refine jU ?_)|((with_reducible refine jV ?hy fun K hK=>?_);case hy=>rfl));simp only [go_sem, Nat.reduceEqDiff, Nat.reduceAdd, Nat.reduceMul, Nat.reduceLeDiff, Nat.reduceLT, Int.reduceLT, Int.reduceLE, Int.reduceEq, Int.reduceNeg, Int.reduceToNat, Nat.reducePow, reduceIte, reduceCtorEq, i0, i1, i5])|((with_reducible first|refine jW ?hy ?_|refine jY ?hy ?_);case hy=>rfl)|((with_reducible first|refine jX ?hy ?_|refine jZ ?hy ?_);case hy=>rfl)|((with_reducible refine jF ?hy ?_);case hy=>decide))
    refine pull_ok hN7 hh fun H8 hN8 hf8 => ?_
    repeat' (first|(with_reducible first|refine jA ?_|(refine hK _ _ ?_;clear hK K)|refine jJ fun K hK=>?_|refine jK ?_|refine jL ?_|refine jM ?_|refine jN ?_|refine jO ?_|refine jP ?_|refine jQ ?_|(refine jB ?_;clear hK K)|(refine jC ?_;clear hK K)|refine jD ?_|refine jE ?_|refine jG ?_|refine jH ?_|refine jI ?_)|((with_reducible refine jR ?hq ?_);case hq=>rfl)|((first|(with_reducible first|refine jS fun K hK=>?_|refine jT ?_|refine jU ?_)|((with_reducible refine jV ?hy fun K hK=>?_);case hy=>rfl));simp only [go_sem, Nat.reduceEqDiff, Nat.reduceAdd, Nat.reduceMul, Nat.reduceLeDiff, Nat.reduceLT, Int.reduceLT, Int.reduceLE, Int.reduceEq, Int.reduceNeg, Int.reduceToNat, Nat.reducePow, reduceIte, reduceCtorEq])|((with_reducible first|refine jW ?hy ?_|refine jY ?hy ?_);case hy=>rfl)|((with_reducible first|refine jX ?hy ?_|refine jZ ?hy ?_);case hy=>rfl)|((with_reducible refine jF ?hy ?_);case hy=>decide))
    exact fin _ hN8 ((hf6.trans hf7).trans hf8)
   clear hK
   have hd3 := hN3.hd
   have w4 := hN3.okw0 hkl
   by_cases hk0 : k = 0
   ·have t2 : ((k : Int) != 0) = false := by simp [hk0]
    have e4 : rot4 N u h true k = rot3 N u h true k := if_pos hk0
    rw [e4] at tail2
    simp only [t2]
    repeat' (first|(with_reducible first|refine jA ?_|(refine hK _ _ ?_;clear hK K)|refine jJ fun K hK=>?_|refine jK ?_|refine jL ?_|refine jM ?_|refine jN ?_|refine jO ?_|refine jP ?_|refine jQ ?_|(refine jB ?_;clear hK K)|(refine jC ?_;clear hK K)|refine jD ?_|refine jE ?_|refine jG ?_|refine jH ?_|refine jI ?_)|((with_reducible refine jR ?hq ?_);case hq=>rfl)|((first|(with_reducible first|refine jS fun K hK=>?_|refine jT ?_|refine jU ?_)|((with_reducible refine jV ?hy fun K hK=>?_);case hy=>rfl));simp only [go_sem, Nat.reduceEqDiff, Nat.reduceAdd, Nat.reduceMul, Nat.reduceLeDiff, Nat.reduceLT, Int.reduceLT, Int.reduceLE, Int.reduceEq, Int.reduceNeg, Int.reduceToNat, Nat.reducePow, reduceIte, reduceCtorEq])|((with_reducible first|refine jW ?hy ?_|refine jY ?hy ?_);case hy=>rfl)|((with_reducible first|refine jX ?hy ?_|refine jZ ?hy ?_);case hy=>rfl)|((with_reducible refine jF ?hy ?_);case hy=>decide))
    refine tail2 _ _ ?_ ?_ ?_ ?_ ?_ ?_ hN3 hf3 <;> first | exact i0 | exact i1 | exact i4 | exact i5 | exact i6 | exact i7
   ·have t2 : ((k : Int) != 0) = true := by simp [hk0]
    have hN4 := setUpA hN3 hkl hu
    have e4 : upd (rot3 N u h true k) k { rot3 N u h true k k with up := u } = rot4 N u h true k := by unfold rot4; rw [if_neg hk0]
    rw [e4] at hN4
    simp only [t2]
    repeat' (first|(with_reducible first|refine jA ?_|(refine hK _ _ ?_;clear hK K)|refine jJ fun K hK=>?_|refine jK ?_|refine jL ?_|refine jM ?_|refine jN ?_|refine jO ?_|refine jP ?_|refine jQ ?_|(refine jB ?_;clear hK K)|(refine jC ?_;clear hK K)|refine jD ?_|refine jE ?_|refine jG ?_|refine jH ?_|refine jI ?_)|((with_reducible refine jR ?hq ?_);case hq=>rfl)|((first|(with_reducible first|refine jS fun K hK=>?_|refine jT ?_|refine jU ?_)|((with_reducible refine jV ?hy fun K hK=>?_);case hy=>rfl));simp only [go_sem, Nat.reduceEqDiff, Nat.reduceAdd, Nat.reduceMul, Nat.reduceLeDiff, Nat.reduceLT, Int.reduceLT, Int.reduceLE, Int.reduceEq, Int.reduceNeg, Int.reduceToNat, Nat.reducePow, reduceIte, reduceCtorEq, i0, i5, hd3, hkl, w4])|((with_reducible first|refine jW ?hy ?_|refine jY ?hy ?_);case hy=>rfl)|((with_reducible first|refine jX ?hy ?_|refine jZ ?hy ?_);case hy=>rfl)|((with_reducible refine jF ?hy ?_);case hy=>decide))
    refine tail2 _ _ ?_ ?_ ?_ ?_ ?_ ?_ hN4 (hf3.trans (hset_fr _ _ _ _)) <;> first | exact i0 | exact i1 | exact i4 | exact i5 | exact i6 | exact i7
  clear hKT
  have hq := hN.cl.up u hu
  simp only [go_sem, Nat.reduceEqDiff, Nat.reduceAdd, Nat.reduceMul, Nat.reduceLeDiff, Nat.reduceLT, Int.reduceLT, Int.reduceLE, Int.reduceEq, Int.reduceNeg, Int.reduceToNat, Nat.reducePow, reduceIte, reduceCtorEq, u0]
  repeat' (first|(with_reducible first|refine jA ?_|(refine hK _ _ ?_;clear hK K)|refine jJ fun K hK=>?_|refine jK ?_|refine jL ?_|refine jM ?_|refine jN ?_|refine jO ?_|refine jP ?_|refine jQ ?_|(refine jB ?_;clear hK K)|(refine jC ?_;clear hK K)|refine jD ?_|refine jE ?_|refine jG ?_|refine jH ?_|refine jI ?_)|((with_reducible refine jR ?hq ?_);case hq=>rfl)|((first|(with_reducible first|refine jS fun K hK=>?_|refine jT ?_|refine jU ?_)|((with_reducible refine jV ?hy fun K hK=>?_);case hy=>rfl));simp only [go_sem, Nat.reduceEqDiff, Nat.reduceAdd, Nat.reduceMul, Nat.reduceLeDiff, Nat.reduceLT, Int.reduceLT, Int.reduceLE, Int.reduceEq, Int.reduceNeg, Int.reduceToNat, Nat.reducePow, reduceIte, reduceCtorEq])|((with_reducible first|refine jW ?hy ?_|refine jY ?hy ?_);case hy=>rfl)|((with_reducible first|refine jX ?hy ?_|refine jZ ?hy ?_);case hy=>rfl)|((with_reducible refine jF ?hy ?_);case hy=>decide))
  refine hK1 _ _ ?_
  clear hK1 K1
  repeat' (first|(with_reducible first|refine jA ?_|(refine hK _ _ ?_;clear hK K)|refine jJ fun K hK=>?_|refine jK ?_|refine jL ?_|refine jM ?_|refine jN ?_|refine jO ?_|refine jP ?_|refine jQ ?_|(refine jB ?_;clear hK K)|(refine jC ?_;clear hK K)|refine jD ?_|refine jE ?_|refine jG ?_|refine jH ?_|refine jI ?_)|((with_reducible refine jR ?hq ?_);case hq=>rfl)|((first|(with_reducible first|refine jS fun K hK=>?_|refine jT ?_|refine jU ?_)|((with_reducible refine jV ?hy fun K hK=>?_);case hy=>rfl));simp only [go_sem, Nat.reduceEqDiff, Nat.reduceAdd, Nat.reduceMul, Nat.reduceLeDiff, Nat.reduceLT, Int.reduceLT, Int.reduceLE, Int.reduceEq, Int.reduceNeg, Int.reduceToNat, Nat.reducePow, reduceIte, reduceCtorEq])|((with_reducible first|refine jW ?hy ?_|refine jY ?hy ?_);case hy=>rfl)|((with_reducible first|refine jX ?hy ?_|refine jZ ?hy ?_);case hy=>rfl)|((with_reducible refine jF ?hy ?_);case hy=>decide))
  refine top_ok hN hu ?_
  cases hT : topB N u with
  | true =>
   have e1 : rot1 N u h = N := if_pos hT
   rw [e1] at tail
   repeat' (first|(with_reducible first|refine jA ?_|(refine hK _ _ ?_;clear hK K)|refine jJ fun K hK=>?_|refine jK ?_|refine jL ?_|refine jM ?_|refine jN ?_|refine jO ?_|refine jP ?_|refine jQ ?_|(refine jB ?_;clear hK K)|(refine jC ?_;clear hK K)|refine jD ?_|refine jE ?_|refine jG ?_|refine jH ?_|refine jI ?_)|((with_reducible refine jR ?hq ?_);case hq=>rfl)|((first|(with_reducible first|refine jS fun K hK=>?_|refine jT ?_|refine jU ?_)|((with_reducible refine jV ?hy fun K hK=>?_);case hy=>rfl));simp only [go_sem, Nat.reduceEqDiff, Nat.reduceAdd, Nat.reduceMul, Nat.reduceLeDiff, Nat.reduceLT, Int.reduceLT, Int.reduceLE, Int.reduceEq, Int.reduceNeg, Int.reduceToNat, Nat.reducePow, reduceIte, reduceCtorEq])|((with_reducible first|refine jW ?hy ?_|refine jY ?hy ?_);case hy=>rfl)|((with_reducible first|refine jX ?hy ?_|refine jZ ?hy ?_);case hy=>rfl)|((with_reducible refine jF ?hy ?_);case hy=>decide))
   refine tail _ _ ?_ ?_ ?_ ?_ ?_ ?_ hN (.refl _ _) <;> rfl
  | false =>
   have e1 : rot1 N u h = upd N (N u).up ((N (N u).up).swap u h) := if_neg (by rw [hT]; simp)
   rw [e1] at tail
   have q1 := hN.cell (j := 1) hq rfl
   have q2 := hN.cell (j := 2) hq rfl
   have hswap : hasK (N (N u).up) u = true := by
    unfold topB at hT
    simp only [Bool.or_eq_false_iff, Bool.not_eq_false'] at hT
    exact hT.2
   repeat' (first|(with_reducible first|refine jA ?_|(refine hK _ _ ?_;clear hK K)|refine jJ fun K hK=>?_|refine jK ?_|refine jL ?_|refine jM ?_|refine jN ?_|refine jO ?_|refine jP ?_|refine jQ ?_|(refine jB ?_;clear hK K)|(refine jC ?_;clear hK K)|refine jD ?_|refine jE ?_|refine jG ?_|refine jH ?_|refine jI ?_)|((with_reducible refine jR ?hq ?_);case hq=>rfl)|((first|(with_reducible first|refine jS fun K hK=>?_|refine jT ?_|refine jU ?_)|((with_reducible refine jV ?hy fun K hK=>?_);case hy=>rfl));simp only [go_sem, Nat.reduceEqDiff, Nat.reduceAdd, Nat.reduceMul, Nat.reduceLeDiff, Nat.reduceLT, Int.reduceLT, Int.reduceLE, Int.reduceEq, Int.reduceNeg, Int.reduceToNat, Nat.reducePow, reduceIte, reduceCtorEq, hd, hq])|((with_reducible first|refine jW ?hy ?_|refine jY ?hy ?_);case hy=>rfl)|((with_reducible first|refine jX ?hy ?_|refine jZ ?hy ?_);case hy=>rfl)|((with_reducible refine jF ?hy ?_);case hy=>decide))
   refine x_drawS [] [0, 1, 2, 3, 4, 5, 6, 8, 9, 10, 11, 7, 12, 13] rfl (by kernel_rfl) (Cells []) trivial ?_
   repeat' (first|(with_reducible refine xs_nil ?_)|((first|((with_reducible apply xs_rd);case hi=>rfl)|((with_reducible apply xs_guard_yes);(case hi=>rfl);(case hy=>rfl)));(case hr=>rfl);(case h1=>intro H' hS'; (try simp only [Cells, and_true] at hS');simp only [go_sem, Nat.reduceEqDiff, Nat.reduceAdd, Nat.reduceMul, Nat.reduceLeDiff, Nat.reduceLT, Int.reduceLT, Int.reduceLE, Int.reduceEq, Int.reduceNeg, Int.reduceToNat, Nat.reducePow, reduceIte, reduceCtorEq, hS']; rfl))|((with_reducible refine xs_tail ?hz ?_);case hz=>rfl)|((with_reducible refine xs_keep ?hz ?_);case hz=>first|(with_reducible assumption)|(simp only [go_sem, Nat.reduceEqDiff, Nat.reduceAdd, Nat.reduceMul, Nat.reduceLeDiff, Nat.reduceLT, Int.reduceLT, Int.reduceLE, Int.reduceEq, Int.reduceNeg, Int.reduceToNat, Nat.reducePow, reduceIte, reduceCtorEq, Cells, and_true]; done)|assumption)|((with_reducible apply xs_guard_no);(case hi=>rfl);(case hy=>rfl);(case hS=>assumption))|((first|((with_reducible apply xs_op);(case hi=>rfl))|((with_reducible apply xs_op_yes);(case hi=>rfl);(case hy=>rfl)));(case hr=>rfl);intro K hK; simp only [go_sem, Nat.reduceEqDiff, Nat.reduceAdd, Nat.reduceMul, Nat.reduceLeDiff, Nat.reduceLT, Int.reduceLT, Int.reduceLE, Int.reduceEq, Int.reduceNeg, Int.reduceToNat, Nat.reducePow, reduceIte, reduceCtorEq])|(with_reducible first|refine jA ?_|(refine hK _ _ ?_;clear hK K)|refine jJ fun K hK=>?_|refine jK ?_|refine jL ?_|refine jM ?_|refine jN ?_|refine jO ?_|refine jP ?_|refine jQ ?_|(refine jB ?_;clear hK K)|(refine jC ?_;clear hK K)|refine jD ?_|refine jE ?_|refine jG ?_|refine jH ?_|refine jI ?_)|((with_reducible refine jR ?hq ?_);case hq=>rfl)|((first|(with_reducible first|refine jS fun K hK=>?_|refine jT ?_|refine jU ?_)|((with_reducible refine jV ?hy fun K hK=>?_);case hy=>rfl));simp only [go_sem, Nat.reduceEqDiff, Nat.reduceAdd, Nat.reduceMul, Nat.reduceLeDiff, Nat.reduceLT, Int.reduceLT, Int.reduceLE, Int.reduceEq, Int.reduceNeg, Int.reduceToNat, Nat.reducePow, reduceIte, reduceCtorEq])|((with_reducible first|refine jW ?hy ?_|refine jY ?hy ?_);case hy=>rfl)|((with_reducible first|refine jX ?hy ?_|refine jZ ?hy ?_);case hy=>rfl)|((with_reducible refine jF ?hy ?_);case hy=>decide))
   refine index2 q1 q2 ?_
   unfold hasK at hswap
   by_cases hl : (N (N u).up).l = u
   ·have ei : ix2 (N (N u).up).l (N (N u).up).r u = 0 := if_pos hl.symm
    have es : (N (N u).up).swap u h = { N (N u).up with l := h } := if_pos hl
    rw [ei]
    rw [es] at tail
    have w1 := hN.okw hq 1 (by omega)
    repeat' (first|(with_reducible refine xs_nil ?_)|((first|((with_reducible apply xs_rd);case hi=>rfl)|((with_reducible apply xs_guard_yes);(case hi=>rfl);(case hy=>rfl)));(case hr=>rfl);(case h1=>intro H' hS'; (try simp only [Cells, and_true] at hS');simp only [go_sem, Nat.reduceEqDiff, Nat.reduceAdd, Nat.reduceMul, Nat.reduceLeDiff, Nat.reduceLT, Int.reduceLT, Int.reduceLE, Int.reduceEq, Int.reduceNeg, Int.reduceToNat, Nat.reducePow, reduceIte, reduceCtorEq, w1, hS']; rfl))|((with_reducible refine xs_tail ?hz ?_);case hz=>rfl)|((with_reducible refine xs_keep ?hz ?_);case hz=>first|(with_reducible assumption)|(simp only [go_sem, Nat.reduceEqDiff, Nat.reduceAdd, Nat.reduceMul, Nat.reduceLeDiff, Nat.reduceLT, Int.reduceLT, Int.reduceLE, Int.reduceEq, Int.reduceNeg, Int.reduceToNat, Nat.reducePow, reduceIte, reduceCtorEq, Cells, and_true, w1]; done)|assumption)|((with_reducible apply xs_guard_no);(case hi=>rfl);(case hy=>rfl);(case hS=>assumption))|((first|((with_reducible apply xs_op);(case hi=>rfl))|((with_reducible apply xs_op_yes);(case hi=>rfl);(case hy=>rfl)));(case hr=>rfl);intro K hK; simp only [go_sem, Nat.reduceEqDiff, Nat.reduceAdd, Nat.reduceMul, Nat.reduceLeDiff, Nat.reduceLT, Int.reduceLT, Int.reduceLE, Int.reduceEq, Int.reduceNeg, Int.reduceToNat, Nat.reducePow, reduceIte, reduceCtorEq, w1])|(with_reducible first|refine jA ?_|(refine hK _ _ ?_;clear hK K)|refine jJ fun K hK=>?_|refine jK ?_|refine jL ?_|refine jM ?_|refine jN ?_|refine jO ?_|refine jP ?_|refine jQ ?_|(refine jB ?_;clear hK K)|(refine jC ?_;clear hK K)|refine jD ?_|refine jE ?_|refine jG ?_|refine jH ?_|refine jI ?_)|((with_reducible refine jR ?hq ?_);case hq=>rfl)|((first|(with_reducible first|refine jS fun K hK=>?_|refine jT ?_|refine jU ?_)|((with_reducible refine jV ?hy fun K hK=>?_);case hy=>rfl));simp only [go_sem, Nat.reduceEqDiff, Nat.reduceAdd, Nat.reduceMul, Nat.reduceLeDiff, Nat.reduceLT, Int.reduceLT, Int.reduceLE, Int.reduceEq, Int.reduceNeg, Int.reduceToNat, Nat.reducePow, reduceIte, reduceCtorEq, w1])|((with_reducible first|refine jW ?hy ?_|refine jY ?hy ?_);case hy=>rfl)|((with_reducible first|refine jX ?hy ?_|refine jZ ?hy ?_);case hy=>rfl)|((with_reducible refine jF ?hy ?_);case hy=>decide))
    refine tail _ _ ?_ ?_ ?_ ?_ ?_ ?_ (setL hN hq hh) (hset_fr _ _ _ _) <;> rfl
   ·have hr : (N (N u).up).r = u := by simpa [hl] using hswap
    have ei : ix2 (N (N u).up).l (N (N u).up).r u = 1 := by unfold ix2; rw [if_neg (Ne.symm hl), if_pos hr.symm]
    have es : (N (N u).up).swap u h = { N (N u).up with r := h } := if_neg hl
    rw [ei]
    rw [es] at tail
    have w1 := hN.okw hq 2 (by omega)
    repeat' (first|(with_reducible refine xs_nil ?_)|((first|((with_reducible apply xs_rd);case hi=>rfl)|((with_reducible apply xs_guard_yes);(case hi=>rfl);(case hy=>rfl)));(case hr=>rfl);(case h1=>intro H' hS'; (try simp only [Cells, and_true] at hS');simp only [go_sem, Nat.reduceEqDiff, Nat.reduceAdd, Nat.reduceMul, Nat.reduceLeDiff, Nat.reduceLT, Int.reduceLT, Int.reduceLE, Int.reduceEq, Int.reduceNeg, Int.reduceToNat, Nat.reducePow, reduceIte, reduceCtorEq, w1, hS']; rfl))|((with_reducible refine xs_tail ?hz ?_);case hz=>rfl)|((with_reducible refine xs_keep ?hz ?_);case hz=>first|(with_reducible assumption)|(simp only [go_sem, Nat.reduceEqDiff, Nat.reduceAdd, Nat.reduceMul, Nat.reduceLeDiff, Nat.reduceLT, Int.reduceLT, Int.reduceLE, Int.reduceEq, Int.reduceNeg, Int.reduceToNat, Nat.reducePow, reduceIte, reduceCtorEq, Cells, and_true, w1]; done)|assumption)|((with_reducible apply xs_guard_no);(case hi=>rfl);(case hy=>rfl);(case hS=>assumption))|((first|((with_reducible apply xs_op);(case hi=>rfl))|((with_reducible apply xs_op_yes);(case hi=>rfl);(case hy=>rfl)));(case hr=>rfl);intro K hK; simp only [go_sem, Nat.reduceEqDiff, Nat.reduceAdd, Nat.reduceMul, Nat.reduceLeDiff, Nat.reduceLT, Int.reduceLT, Int.reduceLE, Int.reduceEq, Int.reduceNeg, Int.reduceToNat, Nat.reducePow, reduceIte, reduceCtorEq, w1])|(with_reducible first|refine jA ?_|(refine hK _ _ ?_;clear hK K)|refine jJ fun K hK=>?_|refine jK ?_|refine jL ?_|refine jM ?_|refine jN ?_|refine jO ?_|refine jP ?_|refine jQ ?_|(refine jB ?_;clear hK K)|(refine jC ?_;clear hK K)|refine jD ?_|refine jE ?_|refine jG ?_|refine jH ?_|refine jI ?_)|((with_reducible refine jR ?hq ?_);case hq=>rfl)|((first|(with_reducible first|refine jS fun K hK=>?_|refine jT ?_|refine jU ?_)|((with_reducible refine jV ?hy fun K hK=>?_);case hy=>rfl));simp only [go_sem, Nat.reduceEqDiff, Nat.reduceAdd, Nat.reduceMul, Nat.reduceLeDiff, Nat.reduceLT, Int.reduceLT, Int.reduceLE, Int.reduceEq, Int.reduceNeg, Int.reduceToNat, Nat.reducePow, reduceIte, reduceCtorEq, w1])|((with_reducible first|refine jW ?hy ?_|refine jY ?hy ?_);case hy=>rfl)|((with_reducible first|refine jX ?hy ?_|refine jZ ?hy ?_);case hy=>rfl)|((with_reducible refine jF ?hy ?_);case hy=>decide))
    refine tail _ _ ?_ ?_ ?_ ?_ ?_ ?_ (setR hN hq hh) (hset_fr _ _ _ _) <;> rfl
end
end Go.Proofs.Ytafehbegoanajaa
namespace Go.Li
open Go Go.Hp
set_option linter.unusedVariables false
set_option linter.unusedSimpArgs false

theorem heavy_iff {a b : Ed} : heavy a b = true ↔ a.w > b.w ∨ (a.w = b.w ∧ a.id > b.id) := by
 unfold heavy
 simp only [Bool.or_eq_true, Bool.and_eq_true, decide_eq_true_eq]
theorem heavy_trans {a b c : Ed} (h : heavy a b = true) (k : heavy b c = true) : heavy a c = true := by
 rw [heavy_iff] at *; omega
theorem heavy_total {a b : Ed} (h : a.id ≠ b.id) (k : ¬ heavy a b = true) : heavy b a = true := by
 rw [heavy_iff] at *; omega
theorem heavy_irrefl (a : Ed) : heavy a a = false := by
 rw [Bool.eq_false_iff, Ne, heavy_iff]; omega
abbrev Es := Nat → Option Ed
def Uniq (E : Es) : Prop := ∀ x y e e', E x = some e → E y = some e' → e.id = e'.id → x = y
def Best (E : Es) (b : Nat) (xs : List Nat) : Prop := (b = 0 ∧ ∀ x ∈ xs, E x = none) ∨ (b ∈ xs ∧ ∃ e, E b = some e ∧ ∀ x ∈ xs, ∀ e', E x = some e' → x = b ∨ heavy e e' = true)
theorem Best.congr {E : Es} {b : Nat} {xs ys : List Nat} (h : Best E b xs) (hm : ∀ x, x ∈ ys ↔ x ∈ xs) : Best E b ys := by
 rcases h with ⟨h1, h2⟩ | ⟨h1, e, h2, h3⟩
 ·exact .inl ⟨h1, fun x hx => h2 x ((hm x).1 hx)⟩
 ·exact .inr ⟨(hm b).2 h1, e, h2, fun x hx => h3 x ((hm x).1 hx)⟩
theorem Best.nil (E : Es) : Best E 0 [] := .inl ⟨rfl, fun x h => by cases h⟩
structure EOk (N : Nodes) (E : Es) : Prop where
 is : ∀ h, (N h).isEdge = (E h).isSome
 e : ∀ h x, E h = some x → (N h).e = x
 uq : Uniq E
theorem EOk.congr {N N' : Nodes} {E : Es} (h : EOk N E) (hN : ∀ i, (N' i).isEdge = (N i).isEdge ∧ (N' i).e = (N i).e) : EOk N' E :=
 ⟨fun i => by rw [(hN i).1]; exact h.is i, fun i x hx => by rw [(hN i).2]; exact h.e i x hx, h.uq⟩
theorem heavN_best {N : Nodes} {E : Es} {a b : Nat} {xs ys : List Nat} (hE : EOk N E) (ha : Best E a xs) (hb : Best E b ys) (hd : ∀ x ∈ xs, x ∉ ys) (hx : 0 ∉ xs) (hy : 0 ∉ ys) : Best E (heavN N a b) (xs ++ ys) := by
 unfold heavN
 rcases ha with ⟨ha0, ha⟩ | ⟨ha0, ea, ha1, ha⟩
 ·rw [if_pos ha0]
  rcases hb with ⟨hb0, hb⟩ | ⟨hb0, eb, hb1, hb⟩
  ·refine .inl ⟨hb0, fun x hx => ?_⟩
   rcases List.mem_append.1 hx with h | h
   ·exact ha x h
   ·exact hb x h
  ·refine .inr ⟨List.mem_append_right _ hb0, eb, hb1, fun x hx e' he => ?_⟩
   rcases List.mem_append.1 hx with h | h
   ·rw [ha x h] at he; cases he
   ·exact hb x h e' he
 ·rw [if_neg (fun h : a = 0 => hx (h ▸ ha0))]
  rcases hb with ⟨hb0, hb⟩ | ⟨hb0, eb, hb1, hb⟩
  ·rw [if_pos hb0]
   refine .inr ⟨List.mem_append_left _ ha0, ea, ha1, fun x hx e' he => ?_⟩
   rcases List.mem_append.1 hx with h | h
   ·exact ha x h e' he
   ·rw [hb x h] at he; cases he
  ·rw [if_neg (fun h : b = 0 => hy (h ▸ hb0)), hE.e a ea ha1, hE.e b eb hb1]
   by_cases hh : heavy ea eb = true
   ·rw [if_pos hh]
    refine .inr ⟨List.mem_append_left _ ha0, ea, ha1, fun x hx e' he => ?_⟩
    rcases List.mem_append.1 hx with h | h
    ·exact ha x h e' he
    ·rcases hb x h e' he with rfl | h'
     ·rw [hb1] at he
      obtain rfl := Option.some.inj he
      exact .inr hh
     ·exact .inr (heavy_trans hh h')
   ·rw [if_neg hh]
    have hne : ea.id ≠ eb.id := fun e => hd a ha0 ((hE.uq a b ea eb ha1 hb1 e) ▸ hb0)
    have hba := heavy_total hne hh
    refine .inr ⟨List.mem_append_right _ hb0, eb, hb1, fun x hx e' he => ?_⟩
    rcases List.mem_append.1 hx with h | h
    ·rcases ha x h e' he with rfl | h'
     ·rw [ha1] at he
      obtain rfl := Option.some.inj he
      exact .inr hba
     ·exact .inr (heavy_trans hba h')
    ·exact hb x h e' he
theorem Best.one {N : Nodes} {E : Es} {h : Nat} (hE : EOk N E) : Best E (if (N h).isEdge then h else 0) [h] := by
 rw [hE.is h]
 cases he : E h with
 | none => exact .inl ⟨by simp, fun x hx => by rw [List.mem_singleton.1 hx]; exact he⟩
 | some e => exact .inr ⟨by simp, e, by simpa using he, fun x hx e' he' => .inl (by simpa using hx)⟩
theorem pull_best {N : Nodes} {E : Es} {h : Nat} {xs ys : List Nat} (hE : EOk N E) (hl : Best E (N (N h).l).best xs) (hr : Best E (N (N h).r).best ys) (hd : (xs ++ h :: ys).Nodup) (h0 : 0 ∉ xs ++ h :: ys) :
  ∃ b, pullN N h = upd N h { N h with best := b } ∧ Best E b (xs ++ h :: ys) := by
 simp only [List.mem_append, List.mem_cons, not_or] at h0
 rw [List.nodup_append] at hd
 obtain ⟨d1, d2, d3⟩ := hd
 rw [List.nodup_cons] at d2
 have h1 := heavN_best hE hl hr (fun x hx hy => d3 x hx x (.tail _ hy) rfl) h0.1 h0.2.2
 have hE1 : EOk (pull1 N h) E := hE.congr fun i => by unfold pull1 upd; split; rename_i e; subst e; exact ⟨rfl, rfl⟩; exact ⟨rfl, rfl⟩
 have hm : ∀ x, x ∈ xs ++ h :: ys ↔ x ∈ (xs ++ ys) ++ [h] := fun x => by
  simp only [List.mem_append, List.mem_cons, List.mem_nil_iff, or_false, List.not_mem_nil]
  constructor
  ·rintro (a | a | a) <;> simp [a]
  ·rintro ((a | a) | a) <;> simp [a]
 unfold pullN
 cases hi : (N h).isEdge with
 | false =>
  refine ⟨_, by rw [if_neg (by simp)]; rfl, ?_⟩
  have h2 := Best.one (h := h) hE
  rw [hi, if_neg (by simp)] at h2
  have hnone : E h = none := by
   have := hE.is h
   rw [hi] at this
   cases he : E h with
   | none => rfl
   | some e => rw [he] at this; cases this
  rcases h1 with ⟨a, b⟩ | ⟨a, e, b, c⟩
  ·refine .inl ⟨a, fun x hx => ?_⟩
   rcases List.mem_append.1 ((hm x).1 hx) with h | h
   ·exact b x h
   ·rw [List.mem_singleton.1 h]; exact hnone
  ·refine .inr ⟨(hm _).2 (List.mem_append_left _ a), e, b, fun x hx e' he => ?_⟩
   rcases List.mem_append.1 ((hm x).1 hx) with h | h
   ·exact c x h e' he
   ·rw [List.mem_singleton.1 h, hnone] at he; cases he
 | true =>
  refine ⟨heavN (pull1 N h) (pull1 N h h).best h, ?_, ?_⟩
  ·rw [if_pos rfl]
   funext i
   unfold pull1 upd
   by_cases e : i = h <;> simp [e]
  ·have h2 := Best.one (h := h) hE1
   have hi1 : (pull1 N h h).isEdge = true := by unfold pull1; rw [upd_same]; exact hi
   rw [hi1, if_pos rfl] at h2
   have h3 : (pull1 N h h).best = heavN N (N (N h).l).best (N (N h).r).best := by unfold pull1; rw [upd_same]
   rw [h3]
   refine (heavN_best hE1 h1 h2 (fun x hx hy => ?_) ?_ ?_).congr hm
   ·rw [List.mem_singleton.1 hy] at hx
    rcases List.mem_append.1 hx with h' | h'
    ·exact d3 h h' h (.head _) rfl
    ·exact d2.1 h'
   ·simp only [List.mem_append, not_or]; exact ⟨h0.1, h0.2.2⟩
   ·simp only [List.mem_singleton]; exact h0.2.1
inductive Tr where
 | nil
 | node (l : Tr) (h : Nat) (r : Tr)
namespace Tr
def root : Tr → Nat
 | nil => 0
 | node _ h _ => h
def list : Tr → List Nat
 | nil => []
 | node l h r => l.list ++ h :: r.list
def mir : Tr → Tr
 | nil => nil
 | node l h r => node r.mir h l.mir
theorem mir_root : ∀ t : Tr, t.mir.root = t.root
 | nil => rfl
 | node _ _ _ => rfl
theorem mir_list : ∀ t : Tr, t.mir.list = t.list.reverse
 | nil => rfl
 | node l h r => by simp [mir, list, mir_list l, mir_list r]
theorem root_mem {t : Tr} (h : t.root ≠ 0) : t.root ∈ t.list := by
 cases t with
 | nil => exact absurd rfl h
 | node l k r => simp [root, list]
end Tr
def TrAt (N : Nodes) (E : Es) : Bool → Nat → Tr → Prop
 | _, _, .nil => True
 | rev, up, .node l h r => h ≠ 0 ∧ (N h).up = up ∧ (N h).kid rev = l.root ∧ (N h).kid (!rev) = r.root ∧ Best E (N h).best (l.list ++ h :: r.list) ∧ TrAt N E (rev != (N h).turned) h l ∧ TrAt N E (rev != (N h).turned) h r
theorem TrAt.congr {N N' : Nodes} {E : Es} : ∀ {t : Tr} {rev : Bool} {up : Nat}, TrAt N E rev up t → (∀ h ∈ t.list, N' h = N h) → TrAt N' E rev up t
 | .nil, _, _, _, _ => trivial
 | .node l h r, rev, up, ⟨a, b, c, d, e, f, g⟩, hN => by
  simp only [Tr.list, List.mem_append, List.mem_cons] at hN
  have hh := hN h (.inr (.inl rfl))
  exact ⟨a, by rw [hh]; exact b, by rw [hh]; exact c, by rw [hh]; exact d, by rw [hh]; exact e, by rw [hh]; exact f.congr fun k hk => hN k (.inl hk), by rw [hh]; exact g.congr fun k hk => hN k (.inr (.inr hk))⟩
theorem TrAt.ne_zero {N : Nodes} {E : Es} : ∀ {t : Tr} {rev : Bool} {up : Nat}, TrAt N E rev up t → 0 ∉ t.list
 | .nil, _, _, _ => by simp [Tr.list]
 | .node l h r, rev, up, ⟨a, b, c, d, e, f, g⟩ => by
  simp only [Tr.list, List.mem_append, List.mem_cons, not_or]
  exact ⟨f.ne_zero, Ne.symm a, g.ne_zero⟩
theorem TrAt.root_up {N : Nodes} {E : Es} {t : Tr} {rev : Bool} {up : Nat} (h : TrAt N E rev up t) (h0 : t.root ≠ 0) : (N t.root).up = up := by
 cases t with
 | nil => exact absurd rfl h0
 | node l k r => exact h.2.1
theorem TrAt.best {N : Nodes} {E : Es} {t : Tr} {rev : Bool} {up : Nat} (hz : (N 0).best = 0) (h : TrAt N E rev up t) : Best E (N t.root).best t.list := by
 cases t with
 | nil => rw [show Tr.nil.root = 0 from rfl, hz]; exact Best.nil E
 | node l k r => exact h.2.2.2.2.1
theorem TrAt.mir {N : Nodes} {E : Es} : ∀ {t : Tr} {rev : Bool} {up : Nat}, TrAt N E rev up t → TrAt N E (!rev) up t.mir
 | .nil, _, _, _ => trivial
 | .node l h r, rev, up, ⟨a, b, c, d, e, f, g⟩ => by
  refine ⟨a, b, by rw [Tr.mir_root]; exact d, by rw [Tr.mir_root, Bool.not_not]; exact c, e.congr fun x => ?_, ?_, ?_⟩
  ·simp only [Tr.mir_list, List.mem_append, List.mem_reverse, List.mem_cons]
   constructor
   ·rintro (h | h | h) <;> simp [h]
   ·rintro (h | h | h) <;> simp [h]
  ·have := g.mir
   rw [show ((!rev) != (N h).turned) = !(rev != (N h).turned) from by cases rev <;> cases (N h).turned <;> rfl]
   exact this
  ·have := f.mir
   rw [show ((!rev) != (N h).turned) = !(rev != (N h).turned) from by cases rev <;> cases (N h).turned <;> rfl]
   exact this
theorem TrAt.hung {N N' : Nodes} {E : Es} {t : Tr} {rev : Bool} {up up' : Nat} (h : TrAt N E rev up t) (hd : t.list.Nodup) (h1 : t.root ≠ 0 → N' t.root = { N t.root with up := up' }) (h2 : ∀ k ∈ t.list, k ≠ t.root → N' k = N k) : TrAt N' E rev up' t := by
 cases t with
 | nil => trivial
 | node l k r =>
  obtain ⟨a, b, c, d, e, f, g⟩ := h
  simp only [Tr.list, Tr.root, List.mem_append, List.mem_cons] at hd h1 h2
  rw [List.nodup_append] at hd
  obtain ⟨n1, n2, n3⟩ := hd
  rw [List.nodup_cons] at n2
  have hk := h1 a
  refine ⟨a, by rw [hk], by rw [hk]; exact c, by rw [hk]; exact d, by rw [hk]; exact e, ?_, ?_⟩
  ·rw [hk]; exact f.congr fun i hi => h2 i (.inl hi) (fun e => n3 i hi k (.head _) e)
  ·rw [hk]; exact g.congr fun i hi => h2 i (.inr (.inr hi)) (fun e => n2.1 (e ▸ hi))
theorem TrAt.flip {N N' : Nodes} {E : Es} {t : Tr} {rev : Bool} {up : Nat} (h : TrAt N E rev up t) (hd : t.list.Nodup) (h1 : t.root ≠ 0 → N' t.root = (N t.root).flip) (h2 : ∀ k ∈ t.list, k ≠ t.root → N' k = N k) : TrAt N' E (!rev) up t := by
 cases t with
 | nil => trivial
 | node l k r =>
  obtain ⟨a, b, c, d, e, f, g⟩ := h
  simp only [Tr.list, Tr.root, List.mem_append, List.mem_cons] at hd h1 h2
  rw [List.nodup_append] at hd
  obtain ⟨n1, n2, n3⟩ := hd
  rw [List.nodup_cons] at n2
  have hk := h1 a
  have e1 : ∀ s, (N' k).kid s = (N k).kid (!s) := fun s => by rw [hk]; cases s <;> rfl
  have e2 : ((!rev) != (N' k).turned) = (rev != (N k).turned) := by rw [hk]; show ((!rev) != (!(N k).turned)) = _; cases rev <;> cases (N k).turned <;> rfl
  refine ⟨a, by rw [hk]; exact b, by rw [e1, Bool.not_not]; exact c, by rw [e1, Bool.not_not]; exact d, by rw [hk]; exact e, ?_, ?_⟩
  ·rw [e2]; exact f.congr fun i hi => h2 i (.inl hi) (fun e => n3 i hi k (.head _) e)
  ·rw [e2]; exact g.congr fun i hi => h2 i (.inr (.inr hi)) (fun e => n2.1 (e ▸ hi))
theorem flipK_same {N : Nodes} {k : Nat} (h : k ≠ 0) : flipK N k k = (N k).flip := by unfold flipK; rw [if_neg h, upd_same]
theorem flipK_ne {N : Nodes} {k i : Nat} (h : i ≠ k) : flipK N k i = N i := by unfold flipK; split; rfl; rw [upd_ne _ _ h]
theorem pushN_ne {N : Nodes} {h i : Nat} (h1 : i ≠ h) (h2 : i ≠ (N h).l) (h3 : i ≠ (N h).r) : pushN N h i = N i := by
 unfold pushN
 split
 ·rw [flipK_ne h3, flipK_ne h2, upd_ne _ _ h1]
 ·rfl
theorem pushN_up {N : Nodes} {h : Nat} (i : Nat) : (pushN N h i).up = (N i).up ∧ (pushN N h i).isEdge = (N i).isEdge ∧ (pushN N h i).e = (N i).e ∧ (pushN N h i).best = (N i).best := by
 have f : ∀ (M : Nodes) (k : Nat), (flipK M k i).up = (M i).up ∧ (flipK M k i).isEdge = (M i).isEdge ∧ (flipK M k i).e = (M i).e ∧ (flipK M k i).best = (M i).best := fun M k => by
  unfold flipK upd
  split
  ·exact ⟨rfl, rfl, rfl, rfl⟩
  ·by_cases e : i = k
   ·subst e; simp [Nd.flip]
   ·simp [e]
 unfold pushN
 split
 ·have u1 : ∀ M : Nodes, (upd M h { M h with turned := false } i).up = (M i).up ∧ (upd M h { M h with turned := false } i).isEdge = (M i).isEdge ∧ (upd M h { M h with turned := false } i).e = (M i).e ∧ (upd M h { M h with turned := false } i).best = (M i).best := fun M => by
   unfold upd
   by_cases e : i = h
   ·subst e; simp
   ·simp [e]
  obtain ⟨a1, a2, a3, a4⟩ := f (flipK (upd N h { N h with turned := false }) (N h).l) (N h).r
  obtain ⟨b1, b2, b3, b4⟩ := f (upd N h { N h with turned := false }) (N h).l
  obtain ⟨c1, c2, c3, c4⟩ := u1 N
  exact ⟨by rw [a1, b1, c1], by rw [a2, b2, c2], by rw [a3, b3, c3], by rw [a4, b4, c4]⟩
 ·exact ⟨rfl, rfl, rfl, rfl⟩
theorem pushN_self {N : Nodes} {h : Nat} (h1 : (N h).l ≠ h) (h2 : (N h).r ≠ h) : pushN N h h = { N h with turned := false } := by
 unfold pushN
 split
 ·rw [flipK_ne (Ne.symm h2), flipK_ne (Ne.symm h1), upd_same]
 ·rename_i ht
  have : (N h).turned = false := by simpa using ht
  generalize N h = r at this
  cases r; simp at this; subst this; rfl
theorem push_tr {N : Nodes} {E : Es} {l r : Tr} {h up : Nat} (hT : TrAt N E false up (.node l h r)) (hd : (Tr.node l h r).list.Nodup) :
  TrAt (pushN N h) E false up (.node l h r) ∧ (pushN N h h).turned = false ∧ (∀ i, i ∉ (Tr.node l h r).list → pushN N h i = N i) := by
 obtain ⟨h0, b, c, d, e, f, g⟩ := hT
 have z1 := f.ne_zero
 have z2 := g.ne_zero
 simp only [Tr.list] at hd
 rw [List.nodup_append] at hd
 obtain ⟨n1, n2, n3⟩ := hd
 rw [List.nodup_cons] at n2
 have kl : (N h).l = l.root := c
 have kr : (N h).r = r.root := d
 have hl : l.root ≠ h := fun e => by
  have := Tr.root_mem (t := l) (by rw [e]; exact h0)
  rw [e] at this
  exact n3 h this h (.head _) rfl
 have hr : r.root ≠ h := fun e => by
  have := Tr.root_mem (t := r) (by rw [e]; exact h0)
  rw [e] at this
  exact n2.1 this
 have hs := pushN_self (N := N) (h := h) (by rw [kl]; exact hl) (by rw [kr]; exact hr)
 have off : ∀ i, i ∉ (Tr.node l h r).list → pushN N h i = N i := fun i hi => by
  simp only [Tr.list, List.mem_append, List.mem_cons, not_or] at hi
  by_cases h1 : (N h).turned = true
  ·unfold pushN
   rw [if_pos h1]
   by_cases hi0 : i = 0
   ·subst hi0
    have f0 : ∀ (M : Nodes) (k : Nat), flipK M k 0 = M 0 := fun M k => by
     unfold flipK
     split
     ·rfl
     ·rename_i hk; rw [upd_ne _ _ (Ne.symm hk)]
    rw [f0, f0, upd_ne _ _ hi.2.1]
   ·rw [flipK_ne, flipK_ne, upd_ne _ _ hi.2.1]
    ·rw [kl]; intro e; exact hi.1 (e ▸ Tr.root_mem (t := l) (by rw [← e]; exact hi0))
    ·rw [kr]; intro e; exact hi.2.2 (e ▸ Tr.root_mem (t := r) (by rw [← e]; exact hi0))
  ·unfold pushN
   rw [if_neg h1]
 refine ⟨⟨h0, by rw [hs]; exact b, by rw [hs]; exact c, by rw [hs]; exact d, by rw [hs]; exact e, ?_, ?_⟩, by rw [hs], off⟩
 ·rw [hs]
  show TrAt _ _ (false != false) h l
  by_cases ht : (N h).turned = true
  ·rw [ht] at f
   have hlr : ∀ k ∈ l.list, k ≠ r.root ∨ r.root = 0 := fun k hk => by
    by_cases hr0 : r.root = 0
    ·exact .inr hr0
    ·exact .inl fun e => n3 k hk r.root (.tail _ (Tr.root_mem hr0)) e
   have fr : ∀ (M : Nodes) k, k ∈ l.list → flipK M r.root k = M k := fun M k hk => by
    rcases hlr k hk with h | h
    ·exact flipK_ne h
    ·unfold flipK; rw [if_pos h]
   have := f.flip (N' := pushN N h) n1 (fun hz => ?_) (fun k hk hne => ?_)
   ·exact this
   ·unfold pushN
    rw [if_pos ht, kr, kl, fr _ _ (Tr.root_mem hz), flipK_same hz, upd_ne _ _ hl]
   ·unfold pushN
    rw [if_pos ht, kr, kl, fr _ _ hk, flipK_ne hne, upd_ne _ _ (fun e => n3 k hk h (.head _) e)]
  ·simp only [Bool.not_eq_true] at ht
   rw [ht] at f
   refine f.congr fun k hk => ?_
   unfold pushN
   rw [ht, if_neg (by simp)]
 ·rw [hs]
  show TrAt _ _ (false != false) h r
  by_cases ht : (N h).turned = true
  ·rw [ht] at g
   have hlr : ∀ k ∈ r.list, k ≠ l.root ∨ l.root = 0 := fun k hk => by
    by_cases hr0 : l.root = 0
    ·exact .inr hr0
    ·exact .inl fun e => n3 l.root (Tr.root_mem hr0) k (.tail _ hk) e.symm
   have fr : ∀ (M : Nodes) k, k ∈ r.list → flipK M l.root k = M k := fun M k hk => by
    rcases hlr k hk with h | h
    ·exact flipK_ne h
    ·unfold flipK; rw [if_pos h]
   have := g.flip (N' := pushN N h) n2.2 (fun hz => ?_) (fun k hk hne => ?_)
   ·exact this
   ·unfold pushN
    rw [if_pos ht, kr, kl, flipK_same hz, fr _ _ (Tr.root_mem hz), upd_ne _ _ hr]
   ·unfold pushN
    rw [if_pos ht, kr, kl, flipK_ne hne, fr _ _ hk, upd_ne _ _ (fun (e : k = h) => n2.1 (e ▸ hk))]
  ·simp only [Bool.not_eq_true] at ht
   rw [ht] at g
   refine g.congr fun k hk => ?_
   unfold pushN
   rw [ht, if_neg (by simp)]
end Go.Li
namespace Go.Li
open Go Go.Hp
set_option linter.unusedVariables false
set_option linter.unusedSimpArgs false

def IsWay (N : Nodes) : Nat → List Nat → Prop
 | _, [] => False
 | x, [y] => y = x ∧ topB N x = true
 | x, y :: z :: r => y = x ∧ topB N x = false ∧ IsWay N (N x).up (z :: r)
theorem IsWay.at {N : Nodes} : ∀ {ws : List Nat} {x : Nat}, IsWay N x ws → ws[0]? = some x ∧ (∀ k y z, ws[k]? = some y → ws[k + 1]? = some z → topB N y = false ∧ z = (N y).up) ∧ (∀ k y, ws[k]? = some y → ws.length = k + 1 → topB N y = true)
 | [], _, h => h.elim
 | [y], x, h => by
  obtain ⟨rfl, h⟩ := h
  refine ⟨rfl, fun k y z h1 h2 => ?_, fun k y h1 h2 => ?_⟩
  ·cases k <;> simp at h2
  ·simp at h2; subst h2; simp at h1; subst h1; exact h
 | y :: z :: r, x, h => by
  obtain ⟨rfl, h1, h2⟩ := h
  obtain ⟨i1, i2, i3⟩ := IsWay.at h2
  refine ⟨rfl, fun k a b ha hb => ?_, fun k a ha hk => ?_⟩
  ·cases k with
   | zero => simp at ha hb i1; subst ha hb; exact ⟨h1, i1⟩
   | succ k => exact i2 k a b (by simpa using ha) (by simpa using hb)
  ·cases k with
   | zero => simp at hk
   | succ k => exact i3 k a (by simpa using ha) (by simpa using hk)
theorem IsWay.ne {N : Nodes} {ws : List Nat} {x : Nat} (h : IsWay N x ws) : ws ≠ [] := by rintro rfl; exact h
def pushAll (N : Nodes) (ws : List Nat) : Nodes := ws.foldr (fun x M => pushN M x) N
theorem pushAll_up {N : Nodes} : ∀ (ws : List Nat) (i : Nat), (pushAll N ws i).up = (N i).up ∧ (pushAll N ws i).isEdge = (N i).isEdge ∧ (pushAll N ws i).e = (N i).e ∧ (pushAll N ws i).best = (N i).best
 | [], i => ⟨rfl, rfl, rfl, rfl⟩
 | x :: ws, i => by
  obtain ⟨a, b, c, d⟩ := pushAll_up (N := N) ws i
  obtain ⟨a', b', c', d'⟩ := pushN_up (N := pushAll N ws) (h := x) i
  exact ⟨a'.trans a, b'.trans b, c'.trans c, d'.trans d⟩
theorem pushAll_snoc (N : Nodes) (ws : List Nat) (x : Nat) : pushAll N (ws ++ [x]) = pushAll (pushN N x) ws := by
 unfold pushAll; rw [List.foldr_append]; rfl
def wayT : Tr → Nat → List Nat
 | .nil, _ => []
 | .node l x r, h => if h = x then [x] else if h ∈ l.list then wayT l h ++ [x] else wayT r h ++ [x]
theorem pushAll_tr {E : Es} : ∀ {t : Tr} {N : Nodes} {up h : Nat}, TrAt N E false up t → t.list.Nodup → h ∈ t.list →
  TrAt (pushAll N (wayT t h)) E false up t ∧ (∀ x ∈ wayT t h, (pushAll N (wayT t h) x).turned = false) ∧ (∀ i, i ∉ t.list → pushAll N (wayT t h) i = N i)
 | .nil, _, _, _, _, _, hm => by simp [Tr.list] at hm
 | .node l x r, N, up, h, hT, hd, hm => by
  obtain ⟨p1, p2, p3⟩ := push_tr hT hd
  obtain ⟨a1, a2, a3, a4, a5, a6, a7⟩ := p1
  rw [p2] at a6 a7
  have hd0 := hd
  simp only [Tr.list, List.nodup_append, List.nodup_cons] at hd
  obtain ⟨n1, ⟨n2, n3⟩, n4⟩ := hd
  simp only [Tr.list, List.mem_append, List.mem_cons] at hm
  unfold wayT
  by_cases hx : h = x
  ·rw [if_pos hx]
   exact ⟨⟨a1, a2, a3, a4, a5, by show TrAt _ _ (false != (pushN N x x).turned) x l; rw [p2]; exact a6, by show TrAt _ _ (false != (pushN N x x).turned) x r; rw [p2]; exact a7⟩, fun y hy => by rw [List.mem_singleton.1 hy]; exact p2, p3⟩
  ·rw [if_neg hx]
   by_cases hl : h ∈ l.list
   ·rw [if_pos hl, pushAll_snoc]
    obtain ⟨b1, b2, b3⟩ := pushAll_tr (N := pushN N x) a6 n1 hl
    have hxx : pushAll (pushN N x) (wayT l h) x = pushN N x x := b3 x fun hi => n4 x hi x (.head _) rfl
    refine ⟨⟨a1, by rw [hxx]; exact a2, by rw [hxx]; exact a3, by rw [hxx]; exact a4, by rw [hxx]; exact a5, by rw [hxx, p2]; exact b1, by rw [hxx, p2]; exact a7.congr fun i hi => b3 i fun hil => n4 i hil i (.tail _ hi) rfl⟩, fun y hy => ?_, fun i hi => ?_⟩
    ·rcases List.mem_append.1 hy with hy | hy
     ·exact b2 y hy
     ·rw [List.mem_singleton.1 hy, hxx]; exact p2
    ·rw [b3 i fun hil => hi (by simp [Tr.list, hil])]; exact p3 i hi
   ·rw [if_neg hl, pushAll_snoc]
    have hr : h ∈ r.list := by
     rcases hm with hm | hm | hm
     ·exact absurd hm hl
     ·exact absurd hm hx
     ·exact hm
    obtain ⟨b1, b2, b3⟩ := pushAll_tr (N := pushN N x) a7 n3 hr
    have hxx : pushAll (pushN N x) (wayT r h) x = pushN N x x := b3 x n2
    refine ⟨⟨a1, by rw [hxx]; exact a2, by rw [hxx]; exact a3, by rw [hxx]; exact a4, by rw [hxx]; exact a5, by rw [hxx, p2]; exact a6.congr fun i hi => b3 i fun hir => n4 i hi i (.tail _ hir) rfl, by rw [hxx, p2]; exact b1⟩, fun y hy => ?_, fun i hi => ?_⟩
    ·rcases List.mem_append.1 hy with hy | hy
     ·exact b2 y hy
     ·rw [List.mem_singleton.1 hy, hxx]; exact p2
    ·rw [b3 i fun hir => hi (by simp [Tr.list, hir])]; exact p3 i hi
def UpCh (N : Nodes) : Nat → List Nat → Prop
 | _, [] => False
 | x, [y] => y = x
 | x, y :: z :: r => y = x ∧ topB N x = false ∧ UpCh N (N x).up (z :: r)
theorem UpCh.snoc {N : Nodes} : ∀ {ws : List Nat} {x y z : Nat}, UpCh N x ws → ws.getLast? = some z → topB N z = false → (N z).up = y → UpCh N x (ws ++ [y])
 | [], _, _, _, h, _, _, _ => h.elim
 | [a], x, y, z, h, hl, ht, hu => by
  simp at hl
  subst hl
  obtain rfl : a = x := h
  exact ⟨rfl, ht, hu.symm⟩
 | a :: b :: r, x, y, z, ⟨h1, h2, h3⟩, hl, ht, hu => ⟨h1, h2, UpCh.snoc (ws := b :: r) h3 (by simpa using hl) ht hu⟩
theorem UpCh.isWay {N : Nodes} : ∀ {ws : List Nat} {x z : Nat}, UpCh N x ws → ws.getLast? = some z → topB N z = true → IsWay N x ws
 | [], _, _, h, _, _ => h.elim
 | [a], x, z, h, hl, ht => by
  simp at hl
  subst hl
  obtain rfl : a = x := h
  exact ⟨rfl, ht⟩
 | a :: b :: r, x, z, ⟨h1, h2, h3⟩, hl, ht => ⟨h1, h2, UpCh.isWay (ws := b :: r) h3 (by simpa using hl) ht⟩
theorem topB_kid {N : Nodes} {x y : Nat} {s : Bool} (hx : x ≠ 0) (hu : (N y).up = x) (hk : (N x).kid s = y) : topB N y = false := by
 unfold topB hasK
 rw [hu]
 cases s
 ·have : (N x).l = y := hk
  simp [hx, this]
 ·have : (N x).r = y := hk
  simp [hx, this]
theorem wayT_up {E : Es} {N : Nodes} : ∀ {t : Tr} {rev : Bool} {up h : Nat}, TrAt N E rev up t → h ∈ t.list → UpCh N h (wayT t h) ∧ (wayT t h).getLast? = some t.root ∧ ∀ x ∈ wayT t h, x ∈ t.list
 | .nil, _, _, _, _, hm => by simp [Tr.list] at hm
 | .node l x r, rev, up, h, ⟨a1, a2, a3, a4, a5, a6, a7⟩, hm => by
  simp only [Tr.list, List.mem_append, List.mem_cons] at hm
  unfold wayT
  by_cases hx : h = x
  ·rw [if_pos hx]
   exact ⟨hx.symm, rfl, fun y hy => by rw [List.mem_singleton.1 hy]; simp [Tr.list]⟩
  ·rw [if_neg hx]
   by_cases hl : h ∈ l.list
   ·rw [if_pos hl]
    obtain ⟨b1, b2, b3⟩ := wayT_up a6 hl
    have h0 : l.root ≠ 0 := by
     cases l with
     | nil => simp [Tr.list] at hl
     | node _ _ _ => exact a6.1
    have hu := a6.root_up h0
    refine ⟨b1.snoc b2 (topB_kid a1 hu a3) hu, by simp [Tr.root], fun y hy => ?_⟩
    rcases List.mem_append.1 hy with hy | hy
    ·simp [Tr.list, b3 y hy]
    ·rw [List.mem_singleton.1 hy]; simp [Tr.list]
   ·rw [if_neg hl]
    have hr : h ∈ r.list := by
     rcases hm with hm | hm | hm
     ·exact absurd hm hl
     ·exact absurd hm hx
     ·exact hm
    obtain ⟨b1, b2, b3⟩ := wayT_up a7 hr
    have h0 : r.root ≠ 0 := by
     cases r with
     | nil => simp [Tr.list] at hr
     | node _ _ _ => exact a7.1
    have hu := a7.root_up h0
    refine ⟨b1.snoc b2 (topB_kid a1 hu a4) hu, by simp [Tr.root], fun y hy => ?_⟩
    rcases List.mem_append.1 hy with hy | hy
    ·simp [Tr.list, b3 y hy]
    ·rw [List.mem_singleton.1 hy]; simp [Tr.list]
theorem wayT_len : ∀ (t : Tr) (h : Nat), (wayT t h).length ≤ t.list.length
 | .nil, _ => by simp [wayT, Tr.list]
 | .node l x r, h => by
  have h1 := wayT_len l h
  have h2 := wayT_len r h
  unfold wayT
  split
  ·simp [Tr.list]; omega
  ·split
   ·simp [Tr.list]; omega
   ·simp [Tr.list]; omega
structure Fm where
 side : Bool
 h : Nat
 sib : Tr
def sn (s : Bool) (x : Tr) (u : Nat) (c : Tr) : Tr := if s then .node c u x else .node x u c
def sl (s : Bool) (xs : List Nat) (u : Nat) (c : List Nat) : List Nat := if s then c ++ u :: xs else xs ++ u :: c
theorem sn_list (s : Bool) (x : Tr) (u : Nat) (c : Tr) : (sn s x u c).list = sl s x.list u c.list := by cases s <;> rfl
theorem sn_root (s : Bool) (x : Tr) (u : Nat) (c : Tr) : (sn s x u c).root = u := by cases s <;> rfl
theorem mem_sl {s : Bool} {xs c : List Nat} {u i : Nat} : i ∈ sl s xs u c ↔ i ∈ xs ∨ i = u ∨ i ∈ c := by
 cases s
 ·simp [sl]
 ·simp only [sl, if_true, List.mem_append, List.mem_cons]
  constructor
  ·rintro (h | h | h) <;> simp [h]
  ·rintro (h | h | h) <;> simp [h]
def plug : Tr → List Fm → Tr
 | t, [] => t
 | t, f :: ps => plug (sn f.side t f.h f.sib) ps
def upOf (up0 : Nat) : List Fm → Nat
 | [] => up0
 | f :: _ => f.h
theorem trAt_sn {N : Nodes} {E : Es} {s : Bool} {up u : Nat} {t c : Tr} : TrAt N E false up (sn s t u c) ↔ u ≠ 0 ∧ (N u).up = up ∧ (N u).kid s = t.root ∧ (N u).kid (!s) = c.root ∧ Best E (N u).best (sl s t.list u c.list) ∧ TrAt N E (N u).turned u t ∧ TrAt N E (N u).turned u c := by
 have e : (false != (N u).turned) = (N u).turned := by cases (N u).turned <;> rfl
 cases s
 ·show (u ≠ 0 ∧ (N u).up = up ∧ (N u).kid false = t.root ∧ (N u).kid (!false) = c.root ∧ Best E (N u).best (t.list ++ u :: c.list) ∧ TrAt N E (false != (N u).turned) u t ∧ TrAt N E (false != (N u).turned) u c) ↔ _
  rw [e]
  exact Iff.rfl
 ·show (u ≠ 0 ∧ (N u).up = up ∧ (N u).kid false = c.root ∧ (N u).kid (!false) = t.root ∧ Best E (N u).best (c.list ++ u :: t.list) ∧ TrAt N E (false != (N u).turned) u c ∧ TrAt N E (false != (N u).turned) u t) ↔ _
  rw [e]
  constructor
  ·rintro ⟨a, b, c, d, e, f, g⟩; exact ⟨a, b, d, c, e, g, f⟩
  ·rintro ⟨a, b, c, d, e, f, g⟩; exact ⟨a, b, d, c, e, g, f⟩
def PathAt (N : Nodes) (E : Es) (up0 : Nat) : Nat → List Nat → List Fm → Prop
 | _, _, [] => True
 | x, xs, f :: ps => f.h ≠ 0 ∧ (N f.h).up = upOf up0 ps ∧ (N f.h).kid f.side = x ∧ (N f.h).kid (!f.side) = f.sib.root ∧ (N f.h).turned = false ∧ Best E (N f.h).best (sl f.side xs f.h f.sib.list) ∧ TrAt N E false f.h f.sib ∧ PathAt N E up0 f.h (sl f.side xs f.h f.sib.list) ps
theorem trAt_plug {N : Nodes} {E : Es} {up0 : Nat} : ∀ (ps : List Fm) (t : Tr), (TrAt N E false up0 (plug t ps) ∧ ∀ f ∈ ps, (N f.h).turned = false) ↔ TrAt N E false (upOf up0 ps) t ∧ PathAt N E up0 t.root t.list ps
 | [], t => by simp [plug, upOf, PathAt]
 | f :: ps, t => by
  have := trAt_plug (N := N) (E := E) (up0 := up0) ps (sn f.side t f.h f.sib)
  simp only [plug, upOf, PathAt, List.mem_cons, forall_eq_or_imp]
  rw [sn_root, sn_list] at this
  constructor
  ·rintro ⟨h1, h2, h3⟩
   obtain ⟨k1, k2⟩ := this.1 ⟨h1, h3⟩
   obtain ⟨a, b, c, d, e, g, i⟩ := trAt_sn.1 k1
   rw [h2] at g i
   exact ⟨g, a, b, c, d, h2, e, i, k2⟩
  ·rintro ⟨g, a, b, c, d, h2, e, i, k2⟩
   obtain ⟨k1, k3⟩ := this.2 ⟨trAt_sn.2 ⟨a, b, c, d, e, by rw [h2]; exact g, by rw [h2]; exact i⟩, k2⟩
   exact ⟨k1, h2, k3⟩
def ctx : List Fm → List Nat
 | [] => []
 | f :: ps => f.h :: (f.sib.list ++ ctx ps)
theorem plug_perm : ∀ (ps : List Fm) (t : Tr), (plug t ps).list.Perm (t.list ++ ctx ps)
 | [], t => by simp [plug, ctx]
 | f :: ps, t => by
  have h1 := plug_perm ps (sn f.side t f.h f.sib)
  simp only [plug, ctx]
  refine h1.trans ?_
  rw [sn_list]
  unfold sl
  cases f.side
  ·simp
  ·simp only [if_true, List.append_assoc, List.cons_append]
   have e1 : (f.sib.list ++ f.h :: (t.list ++ ctx ps)).Perm (f.h :: f.sib.list ++ (t.list ++ ctx ps)) := List.perm_middle
   refine e1.trans ?_
   rw [← List.append_assoc]
   have e2 : (f.h :: f.sib.list ++ t.list).Perm (t.list ++ (f.h :: f.sib.list)) := List.perm_append_comm
   have := e2.append_right (ctx ps)
   simpa using this
theorem plug_list : ∀ (ps : List Fm) {t t' : Tr}, t.list = t'.list → (plug t ps).list = (plug t' ps).list
 | [], _, _, h => h
 | f :: ps, t, t', h => plug_list ps (by rw [sn_list, sn_list, h])
theorem plug_app : ∀ (ps qs : List Fm) (t : Tr), plug t (ps ++ qs) = plug (plug t ps) qs
 | [], qs, t => rfl
 | f :: ps, qs, t => plug_app ps qs _
theorem find_path {k : Nat} : ∀ {t : Tr}, k ∈ t.list → ∃ (a b : Tr) (ps : List Fm), plug (.node a k b) ps = t ∧ wayT t k = k :: ps.map (·.h)
 | .nil, h => by simp [Tr.list] at h
 | .node l x r, hk => by
  simp only [Tr.list, List.mem_append, List.mem_cons] at hk
  unfold wayT
  by_cases hx : k = x
  ·subst hx
   exact ⟨l, r, [], rfl, by simp⟩
  ·rw [if_neg hx]
   by_cases hl : k ∈ l.list
   ·obtain ⟨a, b, ps, e, ew⟩ := find_path hl
    exact ⟨a, b, ps ++ [⟨false, x, r⟩], by rw [plug_app, e]; rfl, by rw [if_pos hl, ew]; simp⟩
   ·have hr : k ∈ r.list := by
     rcases hk with h | h | h
     ·exact absurd h hl
     ·exact absurd h hx
     ·exact h
    obtain ⟨a, b, ps, e, ew⟩ := find_path hr
    exact ⟨a, b, ps ++ [⟨true, x, l⟩], by rw [plug_app, e]; rfl, by rw [if_neg hl, ew]; simp⟩
theorem upOf_mem {up0 : Nat} {ps : List Fm} (h : ps ≠ []) : upOf up0 ps ∈ ctx ps := by
 cases ps with
 | nil => exact absurd rfl h
 | cons f ps => simp [upOf, ctx]
theorem PathAt.congr {N N' : Nodes} {E : Es} {up0 : Nat} : ∀ {ps : List Fm} {x : Nat} {xs : List Nat}, PathAt N E up0 x xs ps → (∀ i ∈ ctx ps, N' i = N i) → PathAt N' E up0 x xs ps
 | [], _, _, _, _ => trivial
 | f :: ps, x, xs, ⟨a, b, c, d, e, g, i, j⟩, hN => by
  simp only [ctx, List.mem_cons, List.mem_append] at hN
  have hh := hN f.h (.inl rfl)
  exact ⟨a, by rw [hh]; exact b, by rw [hh]; exact c, by rw [hh]; exact d, by rw [hh]; exact e, by rw [hh]; exact g, i.congr fun k hk => hN k (.inr (.inl hk)), j.congr fun k hk => hN k (.inr (.inr hk))⟩
theorem PathAt.ne_zero {N : Nodes} {E : Es} {up0 : Nat} : ∀ {ps : List Fm} {x : Nat} {xs : List Nat}, PathAt N E up0 x xs ps → 0 ∉ ctx ps
 | [], _, _, _ => by simp [ctx]
 | f :: ps, x, xs, ⟨a, b, c, d, e, g, i, j⟩ => by
  simp only [ctx, List.mem_cons, List.mem_append, not_or]
  exact ⟨Ne.symm a, i.ne_zero, j.ne_zero⟩
theorem PathAt.perm {N : Nodes} {E : Es} {up0 : Nat} : ∀ {ps : List Fm} {x : Nat} {xs ys : List Nat}, PathAt N E up0 x xs ps → (∀ i, i ∈ ys ↔ i ∈ xs) → PathAt N E up0 x ys ps
 | [], _, _, _, _, _ => trivial
 | f :: ps, x, xs, ys, ⟨a, b, c, d, e, g, i, j⟩, hm => ⟨a, b, c, d, e, g.congr fun k => by rw [mem_sl, mem_sl, hm k], i, j.perm fun k => by rw [mem_sl, mem_sl, hm k]⟩
theorem setKid_kid (r : Nd) (s : Bool) (x : Nat) : (r.setKid s x).kid s = x ∧ (r.setKid s x).kid (!s) = r.kid (!s) ∧ (r.setKid s x).up = r.up ∧ (r.setKid s x).turned = r.turned ∧ (r.setKid s x).best = r.best ∧ (r.setKid s x).isEdge = r.isEdge ∧ (r.setKid s x).e = r.e := by
 cases s <;> exact ⟨rfl, rfl, rfl, rfl, rfl, rfl, rfl⟩
theorem setKid_kid' (r : Nd) (s : Bool) (x : Nat) : (r.setKid (!s) x).kid s = r.kid s := by cases s <;> rfl
section
variable {N : Nodes} {k u x : Nat} {s : Bool}
theorem rot1_ne {i : Nat} (h : i ≠ (N u).up) : rot1 N u k i = N i := by
 unfold rot1; split; rfl; rw [upd_ne _ _ h]
theorem rot6_k (h1 : k ≠ u) (h2 : k ≠ x) (h3 : k ≠ (N u).up) (h4 : u ≠ (N u).up) : rot6 N u k s x k = Nd.setKid { N k with up := (N u).up } (!s) u := by
 unfold rot6 rot5 rot4 rot3 rot2
 rw [upd_ne _ _ h1, upd_same, rot1_ne h4]
 by_cases hx : x = 0
 ·rw [if_pos hx, upd_ne _ _ h1, upd_same, rot1_ne h3]
 ·rw [if_neg hx, upd_ne _ _ h2, upd_ne _ _ h1, upd_same, rot1_ne h3]
theorem rot6_u (h1 : k ≠ u) (h2 : u ≠ x) (h4 : u ≠ (N u).up) : rot6 N u k s x u = { (N u).setKid s x with up := k } := by
 unfold rot6 rot5 rot4 rot3 rot2
 rw [upd_same, upd_ne _ _ (Ne.symm h1)]
 by_cases hx : x = 0
 ·rw [if_pos hx, upd_same, upd_ne _ _ (Ne.symm h1), rot1_ne h4]
 ·rw [if_neg hx, upd_ne _ _ h2, upd_same, upd_ne _ _ (Ne.symm h1), rot1_ne h4]
theorem rot6_x (h1 : k ≠ x) (h2 : u ≠ x) (h3 : x ≠ (N u).up) (hx : x ≠ 0) : rot6 N u k s x x = { N x with up := u } := by
 unfold rot6 rot5 rot4 rot3 rot2
 rw [upd_ne _ _ (Ne.symm h2), upd_ne _ _ (Ne.symm h1), if_neg hx, upd_same, upd_ne _ _ (Ne.symm h2), upd_ne _ _ (Ne.symm h1), rot1_ne h3]
theorem rot6_ne {i : Nat} (h1 : i ≠ k) (h2 : i ≠ u) (h3 : i ≠ x ∨ x = 0) : rot6 N u k s x i = rot1 N u k i := by
 unfold rot6 rot5 rot4 rot3 rot2
 rw [upd_ne _ _ h2, upd_ne _ _ h1]
 by_cases hx : x = 0
 ·rw [if_pos hx, upd_ne _ _ h2, upd_ne _ _ h1]
 ·rw [if_neg hx, upd_ne _ _ (h3.resolve_right hx), upd_ne _ _ h2, upd_ne _ _ h1]
theorem rot2_kid (h3 : k ≠ (N u).up) : (rot2 N u k k).kid (!s) = (N k).kid (!s) := by
 unfold rot2
 rw [upd_same, rot1_ne h3]
 cases s <;> rfl
end
end Go.Li
namespace Go.Li
open Go Go.Hp
set_option linter.unusedVariables false
set_option linter.unusedSimpArgs false

theorem PathAt.swap {N N' : Nodes} {E : Es} {up0 u k : Nat} : ∀ {ps : List Fm} {xs : List Nat}, PathAt N E up0 u xs ps → (ctx ps).Nodup →
  (∀ f r, ps = f :: r → N' f.h = (N f.h).setKid f.side k) → (∀ i ∈ ctx ps, (∀ f r, ps = f :: r → i ≠ f.h) → N' i = N i) → PathAt N' E up0 k xs ps
 | [], xs, _, _, _, _ => trivial
 | f :: ps, xs, ⟨a, b, c, d, e, g, i, j⟩, hd, h1, h2 => by
  have hf := h1 f ps rfl
  obtain ⟨s1, s2, s3, s4, s5, s6, s7⟩ := setKid_kid (N f.h) f.side k
  simp only [ctx, List.nodup_cons, List.mem_append, not_or, List.mem_cons] at hd h2
  refine ⟨a, by rw [hf, s3]; exact b, by rw [hf, s1], by rw [hf, s2]; exact d, by rw [hf, s4]; exact e, by rw [hf, s5]; exact g, i.congr fun x hx => ?_, j.congr fun x hx => ?_⟩
  ·refine h2 x (.inr (.inl hx)) fun f' r' he => ?_
   obtain ⟨rfl, rfl⟩ := List.cons.inj he
   exact fun e => hd.1.1 (e ▸ hx)
  ·refine h2 x (.inr (.inr hx)) fun f' r' he => ?_
   obtain ⟨rfl, rfl⟩ := List.cons.inj he
   exact fun e => hd.1.2 (e ▸ hx)
theorem rot1_other (N : Nodes) (u k i : Nat) : (rot1 N u k i).turned = (N i).turned ∧ (rot1 N u k i).isEdge = (N i).isEdge ∧ (rot1 N u k i).e = (N i).e := by
 unfold rot1
 split
 ·exact ⟨rfl, rfl, rfl⟩
 ·unfold upd Nd.swap
  by_cases e : i = (N u).up
  ·subst e
   simp only [if_true]
   split <;> exact ⟨rfl, rfl, rfl⟩
  ·simp [e]
theorem upd_other {N : Nodes} {h : Nat} {r : Nd} (h1 : r.turned = (N h).turned) (h2 : r.isEdge = (N h).isEdge) (h3 : r.e = (N h).e) (i : Nat) : (upd N h r i).turned = (N i).turned ∧ (upd N h r i).isEdge = (N i).isEdge ∧ (upd N h r i).e = (N i).e := by
 unfold upd
 by_cases e : i = h
 ·subst e; simp [h1, h2, h3]
 ·simp [e]
theorem tri {a b c a' b' c' a'' b'' c'' : Prop} {α β γ : Type} {x y z : α} {p q r : β} {u v w : γ} (h : x = y ∧ p = q ∧ u = v) (k : y = z ∧ q = r ∧ v = w) : x = z ∧ p = r ∧ u = w := ⟨h.1.trans k.1, h.2.1.trans k.2.1, h.2.2.trans k.2.2⟩
theorem rot6_other (N : Nodes) (u k x : Nat) (s : Bool) (i : Nat) : (rot6 N u k s x i).turned = (N i).turned ∧ (rot6 N u k s x i).isEdge = (N i).isEdge ∧ (rot6 N u k s x i).e = (N i).e := by
 have sk : ∀ (r : Nd) (s : Bool) (y : Nat), (r.setKid s y).turned = r.turned ∧ (r.setKid s y).isEdge = r.isEdge ∧ (r.setKid s y).e = r.e := fun r s y => by cases s <;> exact ⟨rfl, rfl, rfl⟩
 have h2 : ∀ i, (rot2 N u k i).turned = (N i).turned ∧ (rot2 N u k i).isEdge = (N i).isEdge ∧ (rot2 N u k i).e = (N i).e := fun i => by
  obtain ⟨a, b, c⟩ := upd_other (N := rot1 N u k) (h := k) (r := { rot1 N u k k with up := (rot1 N u k u).up }) rfl rfl rfl i
  obtain ⟨a', b', c'⟩ := rot1_other N u k i
  exact ⟨a.trans a', b.trans b', c.trans c'⟩
 have h3 : ∀ i, (rot3 N u k s x i).turned = (N i).turned ∧ (rot3 N u k s x i).isEdge = (N i).isEdge ∧ (rot3 N u k s x i).e = (N i).e := fun i => by
  obtain ⟨p, q, r⟩ := sk (rot2 N u k u) s x
  obtain ⟨a, b, c⟩ := upd_other (N := rot2 N u k) (h := u) p q r i
  obtain ⟨a', b', c'⟩ := h2 i
  exact ⟨a.trans a', b.trans b', c.trans c'⟩
 have h4 : ∀ i, (rot4 N u k s x i).turned = (N i).turned ∧ (rot4 N u k s x i).isEdge = (N i).isEdge ∧ (rot4 N u k s x i).e = (N i).e := fun i => by
  unfold rot4
  split
  ·exact h3 i
  ·obtain ⟨a, b, c⟩ := upd_other (N := rot3 N u k s x) (h := x) (r := { rot3 N u k s x x with up := u }) rfl rfl rfl i
   obtain ⟨a', b', c'⟩ := h3 i
   exact ⟨a.trans a', b.trans b', c.trans c'⟩
 have h5 : ∀ i, (rot5 N u k s x i).turned = (N i).turned ∧ (rot5 N u k s x i).isEdge = (N i).isEdge ∧ (rot5 N u k s x i).e = (N i).e := fun i => by
  obtain ⟨p, q, r⟩ := sk (rot4 N u k s x k) (!s) u
  obtain ⟨a, b, c⟩ := upd_other (N := rot4 N u k s x) (h := k) p q r i
  obtain ⟨a', b', c'⟩ := h4 i
  exact ⟨a.trans a', b.trans b', c.trans c'⟩
 obtain ⟨a, b, c⟩ := upd_other (N := rot5 N u k s x) (h := u) (r := { rot5 N u k s x u with up := k }) rfl rfl rfl i
 obtain ⟨a', b', c'⟩ := h5 i
 exact ⟨a.trans a', b.trans b', c.trans c'⟩
theorem pullN_other (N : Nodes) (h i : Nat) : (pullN N h i).turned = (N i).turned ∧ (pullN N h i).isEdge = (N i).isEdge ∧ (pullN N h i).e = (N i).e := by
 have h1 : ∀ i, (pull1 N h i).turned = (N i).turned ∧ (pull1 N h i).isEdge = (N i).isEdge ∧ (pull1 N h i).e = (N i).e := fun i => upd_other (N := N) (h := h) (r := { N h with best := heavN N (N (N h).l).best (N (N h).r).best }) rfl rfl rfl i
 unfold pullN
 split
 ·obtain ⟨a, b, c⟩ := upd_other (N := pull1 N h) (h := h) (r := { pull1 N h h with best := heavN (pull1 N h) (pull1 N h h).best h }) rfl rfl rfl i
  obtain ⟨a', b', c'⟩ := h1 i
  exact ⟨a.trans a', b.trans b', c.trans c'⟩
 ·exact h1 i
theorem rotN_other (N : Nodes) (k i : Nat) : (rotN N k i).turned = (N i).turned ∧ (rotN N k i).isEdge = (N i).isEdge ∧ (rotN N k i).e = (N i).e := by
 unfold rotN
 obtain ⟨a, b, c⟩ := pullN_other (pullN (rot6 N (N k).up k (sideN N (N k).up k) ((rot2 N (N k).up k k).kid (!sideN N (N k).up k))) (N k).up) k i
 obtain ⟨a1, b1, c1⟩ := pullN_other (rot6 N (N k).up k (sideN N (N k).up k) ((rot2 N (N k).up k k).kid (!sideN N (N k).up k))) (N k).up i
 obtain ⟨a2, b2, c2⟩ := rot6_other N (N k).up k ((rot2 N (N k).up k k).kid (!sideN N (N k).up k)) (sideN N (N k).up k) i
 exact ⟨(a.trans a1).trans a2, (b.trans b1).trans b2, (c.trans c1).trans c2⟩
theorem EOk.rot {N : Nodes} {E : Es} (h : EOk N E) (k : Nat) : EOk (rotN N k) E := h.congr fun i => (rotN_other N k i).2
theorem pull_side {M : Nodes} {E : Es} {h : Nat} {s : Bool} {p q : Tr} (hE : EOk M E) (hz : (M 0).best = 0) (hp : (M h).kid s = p.root) (hq : (M h).kid (!s) = q.root) (bp : Best E (M p.root).best p.list) (bq : Best E (M q.root).best q.list)
  (hd : (sl s p.list h q.list).Nodup) (h0 : 0 ∉ sl s p.list h q.list) : ∃ b, pullN M h = upd M h { M h with best := b } ∧ Best E b (sl s p.list h q.list) := by
 cases s with
 | false =>
  have hl : (M h).l = p.root := hp
  have hr : (M h).r = q.root := hq
  exact pull_best hE (by rw [hl]; exact bp) (by rw [hr]; exact bq) hd h0
 | true =>
  have hr : (M h).r = p.root := hp
  have hl : (M h).l = q.root := hq
  exact pull_best hE (by rw [hl]; exact bq) (by rw [hr]; exact bp) hd h0
theorem sl_nodup {s : Bool} {xs c : List Nat} {u : Nat} : (sl s xs u c).Nodup ↔ (xs ++ u :: c).Nodup := by
 cases s
 ·exact Iff.rfl
 ·refine List.Perm.nodup_iff ?_
  show (c ++ u :: xs).Perm (xs ++ u :: c)
  have h1 : (c ++ u :: xs).Perm (u :: (c ++ xs)) := List.perm_middle
  have h2 : (xs ++ u :: c).Perm (u :: (xs ++ c)) := List.perm_middle
  exact h1.trans (((List.perm_append_comm (l₁ := c) (l₂ := xs)).cons u).trans h2.symm)
theorem rot_tr {N : Nodes} {E : Es} {a b c : Tr} {k u up0 : Nat} {s : Bool} {ps : List Fm} (hT : TrAt N E false up0 (plug (sn s a k b) (⟨s, u, c⟩ :: ps))) (hf : ∀ f ∈ (⟨s, u, c⟩ : Fm) :: ps, (N f.h).turned = false) (hk : (N k).turned = false)
  (hd : ((plug (sn s a k b) (⟨s, u, c⟩ :: ps)).list).Nodup) (hE : EOk N E) (hz : (N 0).best = 0) (htop : ps = [] → topB N u = true) (hu0 : up0 ∉ (plug (sn s a k b) (⟨s, u, c⟩ :: ps)).list) :
  TrAt (rotN N k) E false up0 (plug (sn s a k (sn s b u c)) ps) ∧ (∀ i, i ∉ (plug (sn s a k b) (⟨s, u, c⟩ :: ps)).list → rotN N k i = N i) := by
 have hperm := plug_perm (⟨s, u, c⟩ :: ps) (sn s a k b)
 obtain ⟨hK, hP⟩ := (trAt_plug _ _).1 ⟨hT, hf⟩
 obtain ⟨k0, ku, ka, kb, kbest, ha, hb⟩ := trAt_sn.1 hK
 rw [hk] at ha hb
 obtain ⟨u0, uu, uk, uc, ut, ubest, hc, hps⟩ := hP
 have ku : (N k).up = u := ku
 have u0 : u ≠ 0 := u0
 have uu : (N u).up = upOf up0 ps := uu
 have uk : (N u).kid s = (sn s a k b).root := uk
 have uc : (N u).kid (!s) = c.root := uc
 have ut : (N u).turned = false := ut
 have hc : TrAt N E false u c := hc
 have hps : PathAt N E up0 u (sl s (sn s a k b).list u c.list) ps := hps
 simp only [sn_root] at uk
 have za := ha.ne_zero
 have zb := hb.ne_zero
 have zc := hc.ne_zero
 have zp := hps.ne_zero
 have hd1 := hperm.nodup_iff.1 hd
 rw [sn_list] at hd1
 simp only [ctx] at hd1
 have hmem : ∀ i, i ∈ (plug (sn s a k b) (⟨s, u, c⟩ :: ps)).list ↔ (i ∈ a.list ∨ i = k ∨ i ∈ b.list) ∨ i = u ∨ i ∈ c.list ∨ i ∈ ctx ps := fun i => by
  rw [hperm.mem_iff, sn_list, List.mem_append, mem_sl]
  simp only [ctx, List.mem_cons, List.mem_append]
 rw [List.nodup_append] at hd1
 obtain ⟨nK, nU, dX⟩ := hd1
 have nK' := sl_nodup.1 nK
 rw [List.nodup_append, List.nodup_cons] at nK'
 obtain ⟨na, ⟨kb', nb⟩, dab⟩ := nK'
 simp only [List.nodup_cons, List.nodup_append, List.mem_append, not_or] at nU
 obtain ⟨⟨uc', up'⟩, nc, np, dcp⟩ := nU
 have dX' : ∀ i j, (i ∈ a.list ∨ i = k ∨ i ∈ b.list) → (j = u ∨ j ∈ c.list ∨ j ∈ ctx ps) → i ≠ j := fun i j hi hj => dX i (mem_sl.2 hi) j (by simpa using hj)
 have hku : k ≠ u := dX' k u (.inr (.inl rfl)) (.inl rfl)
 have hkc : k ∉ c.list := fun e => dX' k k (.inr (.inl rfl)) (.inr (.inl e)) rfl
 have hkp : k ∉ ctx ps := fun e => dX' k k (.inr (.inl rfl)) (.inr (.inr e)) rfl
 have hua : u ∉ a.list := fun e => dX' u u (.inl e) (.inl rfl) rfl
 have hub : u ∉ b.list := fun e => dX' u u (.inr (.inr e)) (.inl rfl) rfl
 have hka : k ∉ a.list := fun e => dab k e k (.head _) rfl
 obtain ⟨top, et⟩ : ∃ top, upOf up0 ps = top := ⟨_, rfl⟩
 rw [et] at uu
 have top_off : ∀ i, (i ∈ a.list ∨ i = k ∨ i ∈ b.list) ∨ i = u ∨ i ∈ c.list → i ≠ top := fun i hi e => by
  by_cases hp : ps = []
  ·subst hp
   have : top = up0 := et.symm
   rw [this] at e
   subst e
   refine hu0 ((hmem i).2 ?_)
   rcases hi with h | h | h
   ·exact .inl h
   ·exact .inr (.inl h)
   ·exact .inr (.inr (.inl h))
  ·have := upOf_mem (up0 := up0) hp
   rw [et] at this
   subst e
   rcases hi with h | h | h
   ·exact dX' i i h (.inr (.inr this)) rfl
   ·exact up' (h ▸ this)
   ·exact dcp i h i this rfl
 have hkt : k ≠ top := top_off k (.inl (.inr (.inl rfl)))
 have hut : u ≠ top := top_off u (.inr (.inl rfl))
 obtain ⟨x, ex⟩ : ∃ x, b.root = x := ⟨_, rfl⟩
 have hxm : x ≠ 0 → x ∈ b.list := fun h => by rw [← ex]; exact Tr.root_mem (by rw [ex]; exact h)
 have hkx : k ≠ x := fun e => kb' (by rw [e]; exact hxm (e ▸ k0))
 have hux : u ≠ x := fun e => hub (by rw [e]; exact hxm (e ▸ u0))
 have es : sideN N u k = s := by
  unfold sideN
  cases s with
  | true => have : (N u).r = k := uk; simp [this]
  | false =>
   have : (N u).r = c.root := uc
   rw [this]
   simp only [decide_eq_false_iff_not]
   intro e
   have := Tr.root_mem (t := c) (by rw [e]; exact k0)
   rw [e] at this
   exact hkc this
 have htN : (N u).up = top := uu
 have ek2 : (rot2 N u k k).kid (!s) = x := by rw [rot2_kid (by rw [htN]; exact hkt), kb, ex]
 have eR : rotN N k = pullN (pullN (rot6 N u k s x) u) k := by unfold rotN; rw [ku, es, ek2]
 generalize hM : rot6 N u k s x = M at eR
 have Mk : M k = Nd.setKid { N k with up := top } (!s) u := by rw [← hM, rot6_k hku hkx (by rw [htN]; exact hkt) (by rw [htN]; exact hut), htN]
 have Mu : M u = { (N u).setKid s x with up := k } := by rw [← hM]; exact rot6_u hku hux (by rw [htN]; exact hut)
 have Mx : b.root ≠ 0 → M b.root = { N b.root with up := u } := fun h0 => by
  rw [← hM]
  rw [ex] at h0 ⊢
  exact rot6_x hkx hux (by rw [htN]; exact top_off x (.inl (.inr (.inr (hxm h0))))) h0
 have Mo : ∀ i, i ≠ k → i ≠ u → (i ≠ x ∨ x = 0) → M i = rot1 N u k i := fun i h1 h2 h3 => by rw [← hM]; exact rot6_ne h1 h2 h3
 have r1 : ∀ i, i ≠ top ∨ ps = [] → rot1 N u k i = N i := fun i hi => by
  by_cases h : i = top
  ·have hp := hi.resolve_left (fun h' => h' h)
   unfold rot1
   rw [if_pos (htop hp)]
  ·exact rot1_ne (by rw [htN]; exact h)
 have inX : ∀ i, (i ∈ a.list ∨ i ∈ c.list) → (i ≠ x ∨ x = 0) ∧ i ≠ k ∧ i ≠ u ∧ i ≠ top := fun i hi => by
  refine ⟨?_, ?_, ?_, ?_⟩
  ·by_cases hx : x = 0
   ·exact .inr hx
   ·refine .inl fun e => ?_
    subst e
    rcases hi with h | h
    ·exact dab i h i (.tail _ (hxm hx)) rfl
    ·exact dX' i i (.inr (.inr (hxm hx))) (.inr (.inl h)) rfl
  ·rintro rfl
   rcases hi with h | h
   ·exact hka h
   ·exact hkc h
  ·rintro rfl
   rcases hi with h | h
   ·exact hua h
   ·exact uc' h
  ·exact top_off i (hi.elim (fun h => .inl (.inl h)) fun h => .inr (.inr h))
 have MA : ∀ i, (i ∈ a.list ∨ i ∈ c.list) → M i = N i := fun i hi => by
  obtain ⟨h1, h2, h3, h4⟩ := inX i hi
  rw [Mo i h2 h3 h1, r1 i (.inl h4)]
 have MB : ∀ i ∈ b.list, i ≠ b.root → M i = N i := fun i hi hne => by
  rw [Mo i (fun e => kb' (e ▸ hi)) (fun e => hub (e ▸ hi)) (.inl (by rw [← ex]; exact hne)), r1 i (.inl (top_off i (.inl (.inr (.inr hi)))))]
 have M0 : M 0 = N 0 := by
  rw [Mo 0 (Ne.symm k0) (Ne.symm u0) (by by_cases hx : x = 0; exact .inr hx; exact .inl (Ne.symm hx))]
  by_cases hp : ps = []
  ·exact r1 0 (.inr hp)
  ·refine r1 0 (.inl fun e => ?_)
   have := upOf_mem (up0 := up0) hp
   rw [et, ← e] at this
   exact zp this
 have hzM : (M 0).best = 0 := by rw [M0]; exact hz
 have hEM : EOk M E := hE.congr fun i => by rw [← hM]; exact (rot6_other N u k x s i).2
 have hbM : TrAt M E false u b := hb.hung nb Mx MB
 have hcM : TrAt M E false u c := hc.congr fun i hi => MA i (.inr hi)
 have haM : TrAt M E false k a := ha.congr fun i hi => MA i (.inl hi)
 have ks := setKid_kid (N u) s x
 have d2 : (sl s b.list u c.list).Nodup := by
  rw [sl_nodup, List.nodup_append, List.nodup_cons]
  refine ⟨nb, ⟨uc', nc⟩, fun i hi j hj => ?_⟩
  rcases List.mem_cons.1 hj with rfl | hj
  ·exact fun e => hub (e ▸ hi)
  ·exact dX' i j (.inr (.inr hi)) (.inr (.inl hj))
 have z2 : 0 ∉ sl s b.list u c.list := by rw [mem_sl]; simp only [not_or]; exact ⟨zb, Ne.symm u0, zc⟩
 obtain ⟨B1, p1, b1⟩ := pull_side (s := s) (p := b) (q := c) hEM hzM (h := u) (by rw [Mu]; show ((N u).setKid s x).kid s = _; rw [ks.1, ex]) (by rw [Mu]; show ((N u).setKid s x).kid (!s) = _; rw [ks.2.1]; exact uc) (hbM.best hzM) (hcM.best hzM) d2 z2
 rw [p1] at eR
 obtain ⟨M2, hM2⟩ : ∃ M2, upd M u { M u with best := B1 } = M2 := ⟨_, rfl⟩
 rw [hM2] at eR
 have M2u : M2 u = { (N u).setKid s x with up := k, best := B1 } := by rw [← hM2, upd_same, Mu]
 have M2n : ∀ i, i ≠ u → M2 i = M i := fun i h => by rw [← hM2, upd_ne _ _ h]
 have hEM2 : EOk M2 E := hEM.congr fun i => by
  rw [← hM2]; exact (upd_other (N := M) (h := u) (r := { M u with best := B1 }) rfl rfl rfl i).2
 have hzM2 : (M2 0).best = 0 := by rw [M2n 0 (Ne.symm u0)]; exact hzM
 have haM2 : TrAt M2 E false k a := haM.congr fun i hi => M2n i fun e => hua (e ▸ hi)
 have hbM2 : TrAt M2 E false u b := hbM.congr fun i hi => M2n i fun e => hub (e ▸ hi)
 have hcM2 : TrAt M2 E false u c := hcM.congr fun i hi => M2n i fun e => uc' (e ▸ hi)
 have Uk : ∀ N' : Nodes, N' u = M2 u → (N' u).turned = false ∧ (N' u).kid s = b.root ∧ (N' u).kid (!s) = c.root ∧ (N' u).up = k ∧ (N' u).best = B1 := fun N' e => by
  rw [e, M2u]
  refine ⟨?_, ?_, ?_, rfl, rfl⟩
  ·show ((N u).setKid s x).turned = false
   rw [ks.2.2.2.1]; exact ut
  ·show ((N u).setKid s x).kid s = _
   rw [ks.1, ex]
  ·show ((N u).setKid s x).kid (!s) = _
   rw [ks.2.1]; exact uc
 have hUT : TrAt M2 E false k (sn s b u c) := by
  obtain ⟨q1, q2, q3, q4, q5⟩ := Uk M2 rfl
  exact trAt_sn.2 ⟨u0, q4, q2, q3, by rw [q5]; exact b1, by rw [q1]; exact hbM2, by rw [q1]; exact hcM2⟩
 have M2k : M2 k = Nd.setKid { N k with up := top } (!s) u := by rw [M2n k hku]; exact Mk
 have d3 : (sl s a.list k (sn s b u c).list).Nodup := by
  rw [sl_nodup, List.nodup_append, List.nodup_cons, sn_list]
  refine ⟨na, ⟨?_, d2⟩, fun i hi j hj => ?_⟩
  ·rw [mem_sl]; simp only [not_or]; exact ⟨kb', hku, hkc⟩
  ·rcases List.mem_cons.1 hj with rfl | hj
   ·exact fun e => hka (e ▸ hi)
   ·rcases mem_sl.1 hj with h | h | h
    ·exact dab i hi j (.tail _ h)
    ·exact fun e => hua (by rw [← h, ← e]; exact hi)
    ·exact dX' i j (.inl hi) (.inr (.inl h))
 have z3 : 0 ∉ sl s a.list k (sn s b u c).list := by rw [mem_sl, sn_list]; simp only [not_or]; exact ⟨za, Ne.symm k0, z2⟩
 have kk := setKid_kid { N k with up := top } (!s) u
 have kk2 : (M2 k).kid s = a.root := by rw [M2k, setKid_kid']; exact ka
 have kk3 : (M2 k).kid (!s) = (sn s b u c).root := by rw [M2k, kk.1, sn_root]
 obtain ⟨B2, p2, b2⟩ := pull_side (s := s) (p := a) (q := sn s b u c) hEM2 hzM2 (h := k) kk2 kk3 (haM2.best hzM2) (hUT.best hzM2) d3 z3
 rw [p2] at eR
 have Rk : rotN N k k = { M2 k with best := B2 } := by rw [eR, upd_same]
 have Rn : ∀ i, i ≠ k → rotN N k i = M2 i := fun i h => by rw [eR, upd_ne _ _ h]
 have Rold : ∀ i, i ≠ k → i ≠ u → rotN N k i = M i := fun i h1 h2 => by rw [Rn i h1, M2n i h2]
 constructor
 ·refine ((trAt_plug _ _).2 ⟨trAt_sn.2 ⟨k0, ?_, ?_, ?_, ?_, ?_, ?_⟩, ?_⟩).1
  ·rw [Rk, M2k]
   show (Nd.setKid { N k with up := top } (!s) u).up = _
   rw [kk.2.2.1, et]
  ·rw [Rk]; exact kk2
  ·rw [Rk]; exact kk3
  ·rw [Rk]; exact b2
  ·have e1 : (rotN N k k).turned = false := by rw [(rotN_other N k k).1]; exact hk
   rw [e1]
   exact haM2.congr fun i hi => Rn i fun e => hka (e ▸ hi)
  ·have e1 : (rotN N k k).turned = false := by rw [(rotN_other N k k).1]; exact hk
   rw [e1]
   refine hUT.congr fun i hi => Rn i fun e => ?_
   rw [sn_list, mem_sl] at hi
   subst e
   rcases hi with h | h | h
   ·exact kb' h
   ·exact hku h
   ·exact hkc h
  ·rw [sn_root, sn_list, sn_list]
   refine (hps.swap np (N' := rotN N k) (k := k) ?_ ?_).perm fun i => ?_
   ·rintro f r rfl
    have ef : f.h = top := et
    have hft : f.h ∈ ctx (f :: r) := by simp [ctx]
    have f1 : f.h ≠ k := fun e => hkp (e ▸ hft)
    have f2 : f.h ≠ u := fun e => up' (e ▸ hft)
    have f3 : f.h ≠ x ∨ x = 0 := by
     by_cases hx : x = 0
     ·exact .inr hx
     ·exact .inl fun e => dX' x x (.inr (.inr (hxm hx))) (.inr (.inr (e ▸ hft))) rfl
    rw [Rold f.h f1 f2, Mo f.h f1 f2 f3]
    obtain ⟨f0, fu, fk, fc, ft, fb, fs, fp⟩ := hps
    have hT : topB N u = false := topB_kid f0 (by rw [htN, ← ef]) fk
    unfold rot1
    rw [if_neg (by rw [hT]; simp), htN, ← ef, upd_same]
    unfold Nd.swap Nd.setKid
    cases hs : f.side with
    | false =>
     rw [hs] at fk
     have : (N f.h).l = u := fk
     rw [if_pos this]; rfl
    | true =>
     rw [hs] at fc
     have : (N f.h).l = f.sib.root := fc
     rw [if_neg, if_pos rfl]
     rw [this]
     intro e
     have hm := Tr.root_mem (t := f.sib) (by rw [e]; exact u0)
     rw [e] at hm
     exact up' (by simp [ctx, hm])
   ·intro i hi hne
    have f1 : i ≠ k := fun e => hkp (e ▸ hi)
    have f2 : i ≠ u := fun e => up' (e ▸ hi)
    have f3 : i ≠ x ∨ x = 0 := by
     by_cases hx : x = 0
     ·exact .inr hx
     ·exact .inl fun e => dX' x x (.inr (.inr (hxm hx))) (.inr (.inr (e ▸ hi))) rfl
    rw [Rold i f1 f2, Mo i f1 f2 f3]
    refine r1 i ?_
    cases ps with
    | nil => exact .inr rfl
    | cons f r => exact .inl (by rw [← et]; exact hne f r rfl)
   ·simp only [mem_sl]
    rw [sn_list]
    simp only [mem_sl]
    constructor
    ·rintro (h | h | h | h | h) <;> simp [h]
    ·rintro ((h | h | h) | h | h) <;> simp [h]
 ·intro i hi
  rw [hmem] at hi
  simp only [not_or] at hi
  obtain ⟨⟨i1, i2, i3⟩, i4, i5, i6⟩ := hi
  rw [Rold i i2 i4]
  have f3 : i ≠ x ∨ x = 0 := by
   by_cases hx : x = 0
   ·exact .inr hx
   ·exact .inl fun e => i3 (e ▸ hxm hx)
  rw [Mo i i2 i4 f3]
  refine r1 i ?_
  by_cases hp : ps = []
  ·exact .inr hp
  ·refine .inl fun e => i6 ?_
   rw [e, ← et]
   exact upOf_mem hp
end Go.Li
namespace Go.Li
open Go Go.Hp
set_option linter.unusedVariables false
set_option linter.unusedSimpArgs false

def firstN (N : Nodes) (h : Nat) : Nodes := if decide ((N (N (N h).up).up).l = (N h).up) == decide ((N (N h).up).l = h) then rotN N (N h).up else rotN N h
def stepN (N : Nodes) (h : Nat) : Nodes := if topB N (N h).up then rotN N h else rotN (firstN N h) h
structure Row (N0 : Nodes) (E : Es) (up0 : Nat) (xs : List Nat) : Prop where
 nd : xs.Nodup
 z : (N0 0).best = 0
 up : up0 ∉ xs
 top : up0 = 0 ∨ ∀ i ∈ xs, hasK (N0 up0) i = false
structure Std (N : Nodes) (E : Es) (N0 : Nodes) (up0 : Nat) (xs : List Nat) (T : Tr) (k : Nat) (ps : List Fm) : Prop where
 tree : TrAt N E false up0 T
 list : T.list = xs
 off : ∀ i, i ∉ xs → N i = N0 i
 eok : EOk N E
 k : (N k).turned = false
 ps : ∀ f ∈ ps, (N f.h).turned = false
section
variable {N N0 : Nodes} {E : Es} {up0 k : Nat} {xs : List Nat} {a b : Tr} {ps : List Fm} {f : Fm}
theorem Std.zero (h : Std N E N0 up0 xs (plug (.node a k b) ps) k ps) (r : Row N0 E up0 xs) : (N 0).best = 0 := by
 rw [h.off 0 (by rw [← h.list]; exact h.tree.ne_zero)]; exact r.z
theorem Std.top (h : Std N E N0 up0 xs (plug (.node a k b) ps) k ps) (r : Row N0 E up0 xs) {i : Nat} (hi : i ∈ xs) (hu : (N i).up = up0) : topB N i = true := by
 unfold topB
 rw [hu]
 rcases r.top with h0 | h0
 ·simp [h0]
 ·rw [h.off up0 r.up, h0 i hi]; simp
theorem node_sn (a b : Tr) (k : Nat) (s : Bool) : ∃ a' b', Tr.node a k b = sn s a' k b' := by
 cases s
 ·exact ⟨a, b, rfl⟩
 ·exact ⟨b, a, rfl⟩
theorem sn_node (s : Bool) (a b : Tr) (k : Nat) : ∃ a' b', sn s a k b = Tr.node a' k b' := by
 cases s
 ·exact ⟨a, b, rfl⟩
 ·exact ⟨b, a, rfl⟩
theorem sn_assoc (s : Bool) (a b c : Tr) (k u : Nat) : (sn s a k (sn s b u c)).list = (sn s (sn s a k b) u c).list := by
 cases s <;> simp [sn, Tr.list]
theorem Std.turn (h : Std N E N0 up0 xs (plug (.node a k b) (f :: ps)) k (f :: ps)) (r : Row N0 E up0 xs) : ∃ A B, Std (rotN N k) E N0 up0 xs (plug (.node A k B) ps) k ps := by
 obtain ⟨a', b', e⟩ := node_sn a b k f.side
 have hT := h.tree
 have hl := h.list
 rw [e] at hT hl
 have h' := h
 rw [e] at h'
 have hp := plug_perm (f :: ps) (sn f.side a' k b')
 have hfm : f.h ∈ xs := by rw [← hl]; exact hp.mem_iff.2 (by simp [ctx])
 have htop : ps = [] → topB N f.h = true := by
  rintro rfl
  obtain ⟨_, _, hu, _⟩ := (trAt_plug _ _).1 ⟨hT, h.ps⟩
  exact h.top r hfm hu
 obtain ⟨h1, h2⟩ := rot_tr (s := f.side) (u := f.h) (c := f.sib) (ps := ps) hT h.ps h.k (by rw [hl]; exact r.nd) h.eok (h.zero r) htop (by rw [hl]; exact r.up)
 obtain ⟨A, B, e2⟩ := sn_node f.side a' (sn f.side b' f.h f.sib) k
 have hl2 : (plug (sn f.side a' k (sn f.side b' f.h f.sib)) ps).list = xs := by
  rw [← hl]
  exact plug_list ps (sn_assoc _ _ _ _ _ _)
 rw [e2] at h1 hl2
 refine ⟨A, B, h1, hl2, fun i hi => ?_, h.eok.rot k, by rw [(rotN_other N k k).1]; exact h.k, fun g hg => by rw [(rotN_other N k g.h).1]; exact h.ps g (.tail _ hg)⟩
 rw [h2 i (by rw [hl]; exact hi)]
 exact h.off i hi
theorem Std.turn2 {f2 : Fm} (h : Std N E N0 up0 xs (plug (.node a k b) (f :: f2 :: ps)) k (f :: f2 :: ps)) (r : Row N0 E up0 xs) (hs : f.side = f2.side) :
  ∃ c, Std (rotN N f.h) E N0 up0 xs (plug (.node a k b) (⟨f.side, f.h, c⟩ :: ps)) k (⟨f.side, f.h, c⟩ :: ps) := by
 obtain ⟨s, u, d⟩ := f
 obtain ⟨s2, w, e⟩ := f2
 obtain rfl : s = s2 := hs
 have hT : TrAt N E false up0 (plug (sn s (.node a k b) u d) (⟨s, w, e⟩ :: ps)) := h.tree
 have hl : (plug (sn s (.node a k b) u d) (⟨s, w, e⟩ :: ps)).list = xs := h.list
 have hp := plug_perm (⟨s, u, d⟩ :: ⟨s, w, e⟩ :: ps) (.node a k b)
 have hfm : w ∈ xs := by rw [← h.list]; exact hp.mem_iff.2 (by simp [ctx])
 have htop : ps = [] → topB N w = true := by
  rintro rfl
  obtain ⟨_, _, _, _, _, _, _, _, _, hu, _⟩ := (trAt_plug _ _).1 ⟨h.tree, h.ps⟩
  exact h.top r hfm hu
 obtain ⟨h1, h2⟩ := rot_tr (s := s) (u := w) (c := e) (ps := ps) hT (fun g hg => h.ps g (.tail _ hg)) (h.ps ⟨s, u, d⟩ (.head _)) (by rw [hl]; exact r.nd) h.eok (h.zero r) htop (by rw [hl]; exact r.up)
 refine ⟨sn s d w e, h1, ?_, fun i hi => ?_, h.eok.rot u, by rw [(rotN_other N u k).1]; exact h.k, fun g hg => ?_⟩
 ·rw [← hl]
  exact plug_list ps (sn_assoc _ _ _ _ _ _)
 ·rw [h2 i (by rw [hl]; exact hi)]
  exact h.off i hi
 ·rw [(rotN_other N u g.h).1]
  rcases List.mem_cons.1 hg with rfl | hg
  ·exact h.ps ⟨s, u, d⟩ (.head _)
  ·exact h.ps g (.tail _ (.tail _ hg))
end
def Below (E : Es) (N0 : Nodes) (up0 k : Nat) (xs : List Nat) (m : Nat) (N : Nodes) : Prop :=
 ∃ (a b : Tr) (ps : List Fm), ps.length = m ∧ Std N E N0 up0 xs (plug (.node a k b) ps) k ps
theorem below_step {E : Es} {N0 : Nodes} {up0 k : Nat} {xs : List Nat} (r : Row N0 E up0 xs) (m : Nat) (N : Nodes) (h : Below E N0 up0 k xs m N) :
  topB N k = true ∨ (topB N k = false ∧ ∃ m', m' < m ∧ Below E N0 up0 k xs m' (stepN N k)) := by
 obtain ⟨a, b, ps, rfl, h⟩ := h
 have hp := plug_perm ps (.node a k b)
 have hkm : k ∈ xs := by rw [← h.list]; exact hp.mem_iff.2 (by simp [Tr.list])
 obtain ⟨⟨k0, ku, _⟩, hpath⟩ := (trAt_plug _ _).1 ⟨h.tree, h.ps⟩
 cases ps with
 | nil => exact .inl (h.top r hkm ku)
 | cons f ps =>
  obtain ⟨f0, fu, fk, fc, ft, _, _, hpath⟩ := hpath
  have ku' : (N k).up = f.h := ku
  have fk' : (N f.h).kid f.side = k := fk
  have hfm : f.h ∈ xs := by rw [← h.list]; exact hp.mem_iff.2 (by simp [ctx])
  refine .inr ⟨topB_kid f0 ku' fk', ?_⟩
  cases ps with
  | nil =>
   have ht := h.top r hfm fu
   obtain ⟨A, B, h1⟩ := h.turn r
   refine ⟨0, by simp, A, B, [], rfl, ?_⟩
   unfold stepN
   rw [ku', if_pos ht]
   exact h1
  | cons g ps =>
   obtain ⟨g0, gu, gk, gc, gt, _, _, _⟩ := hpath
   have fu' : (N f.h).up = g.h := fu
   have gk' : (N g.h).kid g.side = f.h := gk
   have ht : topB N f.h = false := topB_kid g0 fu' gk'
   have hnd := r.nd
   rw [← h.list] at hnd
   have hnd := hp.nodup_iff.1 hnd
   have zc : 0 ∉ (plug (.node a k b) (f :: g :: ps)).list := h.tree.ne_zero
   have s1 : decide ((N f.h).l = k) = !f.side := by
    cases hs : f.side with
    | false =>
     rw [hs] at fk'
     have : (N f.h).l = k := fk'
     simp [this]
    | true =>
     rw [hs] at fc
     have e : (N f.h).l = f.sib.root := fc
     rw [e]
     simp only [Bool.not_true, decide_eq_false_iff_not]
     intro e
     have := Tr.root_mem (t := f.sib) (by rw [e]; exact k0)
     rw [e] at this
     rw [List.nodup_append] at hnd
     exact hnd.2.2 k (by simp [Tr.list]) k (by simp [ctx, this]) rfl
   have s2 : decide ((N g.h).l = f.h) = !g.side := by
    cases hs : g.side with
    | false =>
     rw [hs] at gk'
     have : (N g.h).l = f.h := gk'
     simp [this]
    | true =>
     rw [hs] at gc
     have e : (N g.h).l = g.sib.root := gc
     rw [e]
     simp only [Bool.not_true, decide_eq_false_iff_not]
     intro e
     have := Tr.root_mem (t := g.sib) (by rw [e]; exact f0)
     rw [e] at this
     rw [List.nodup_append] at hnd
     have h2 := hnd.2.1
     simp only [ctx, List.nodup_cons, List.mem_append, List.mem_cons, not_or] at h2
     exact h2.1.2.2.1 this
   have hfirst : firstN N k = if f.side = g.side then rotN N f.h else rotN N k := by
    unfold firstN
    rw [ku', fu', s1, s2]
    cases f.side <;> cases g.side <;> rfl
   have hstep : stepN N k = rotN (firstN N k) k := by
    unfold stepN
    rw [ku', if_neg (by rw [ht]; simp)]
   rw [hstep, hfirst]
   by_cases hs : f.side = g.side
   ·rw [if_pos hs]
    obtain ⟨c, h1⟩ := h.turn2 r hs
    obtain ⟨A, B, h2⟩ := h1.turn r
    exact ⟨ps.length, by simp; omega, A, B, ps, rfl, h2⟩
   ·rw [if_neg hs]
    obtain ⟨A, B, h1⟩ := h.turn r
    obtain ⟨A2, B2, h2⟩ := h1.turn r
    exact ⟨ps.length, by simp; omega, A2, B2, ps, rfl, h2⟩
theorem splay_start {E : Es} {N : Nodes} {up0 k : Nat} {xs : List Nat} {T : Tr} (hE : EOk N E) (r : Row N E up0 xs) (hT : TrAt N E false up0 T) (hl : T.list = xs) (hk : k ∈ xs) :
  IsWay N k (wayT T k) ∧ (∀ x ∈ wayT T k, x ∈ xs) ∧ ∃ m, Below E N up0 k xs m (pushAll N (wayT T k)) := by
 obtain ⟨w1, w2, w3⟩ := wayT_up hT (by rw [hl]; exact hk)
 have hr0 : T.root ≠ 0 := by
  cases T with
  | nil => rw [← hl] at hk; simp [Tr.list] at hk
  | node _ _ _ => exact hT.1
 have hrm : T.root ∈ xs := by rw [← hl]; exact Tr.root_mem hr0
 have htop : topB N T.root = true := by
  unfold topB
  rw [hT.root_up hr0]
  rcases r.top with h0 | h0
  ·simp [h0]
  ·rw [h0 _ hrm]; simp
 refine ⟨w1.isWay w2 htop, fun x hx => by rw [← hl]; exact w3 x hx, ?_⟩
 obtain ⟨p1, p2, p3⟩ := pushAll_tr hT (by rw [hl]; exact r.nd) (by rw [hl]; exact hk)
 obtain ⟨a, b, ps, e, ew⟩ := find_path (t := T) (k := k) (by rw [hl]; exact hk)
 rw [ew] at p2
 refine ⟨ps.length, a, b, ps, rfl, by rw [e]; exact p1, by rw [e]; exact hl, fun i hi => p3 i (by rw [hl]; exact hi), hE.congr fun i => ⟨(pushAll_up _ i).2.1, (pushAll_up _ i).2.2.1⟩, ?_, fun f hf => ?_⟩
 ·rw [ew]; exact p2 k (.head _)
 ·rw [ew]; exact p2 f.h (.tail _ (List.mem_map.2 ⟨f, hf, rfl⟩))
theorem splay_end {E : Es} {N N0 : Nodes} {up0 k : Nat} {xs : List Nat} {m : Nat} (h : Below E N0 up0 k xs m N) (ht : topB N k = true) :
  ∃ a b, TrAt N E false up0 (.node a k b) ∧ a.list ++ k :: b.list = xs ∧ (N k).turned = false ∧ (∀ i, i ∉ xs → N i = N0 i) ∧ EOk N E := by
 obtain ⟨a, b, ps, rfl, h⟩ := h
 cases ps with
 | nil => exact ⟨a, b, h.tree, h.list, h.k, h.off, h.eok⟩
 | cons f ps =>
  obtain ⟨⟨k0, ku, _⟩, f0, fu, fk, _⟩ := (trAt_plug _ _).1 ⟨h.tree, h.ps⟩
  have := topB_kid (N := N) (x := f.h) (y := k) f0 ku fk
  rw [ht] at this; cases this
end Go.Li
