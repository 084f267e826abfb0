/-
  Linked trees in memory: evert, root, same, apart.
  Linked trees: a node more, a tree hung below another one, a node less; simple ways, and that there is one of them.
  Linked trees as vertices and edges: what may be; rooted anew, linked, cut.
  Linked trees in memory, as whoever uses them sees them: what lies where; has; Evert, Root, Same.
  Linked trees in memory: a node more; Link.
-/
import Derived.Test.YtoplhfhjokjbiaaG1
namespace Go.Proofs.Ytoplhfhjokjbiaa
open Go Go.Hp Go.Li
set_option linter.all false
set_option maxRecDepth 100000
set_option maxHeartbeats 1600000
section
variable {H H' : Heap} {t g c len : Nat} {N : Nodes} {E : Es} {par : Par} {rows R : List (List Nat)} {V : Nat → Prop} {xs : List Nat} {K : Value → Heap → Prop}
theorem evert_ok {h : Nat} {l : List Nat} (hN : NA H t g c len N) (hL : LC N E par rows V) (hV : ∀ h, V h → h < len) (hh : V h) (hl : Ch par h l)
  (fin : ∀ H' N' R b, NA H' t g c len N' → LC N' E (ev par 0 l) (l :: R) V → TrAt N' E false 0 (.node .nil h b) → (Tr.node .nil h b).list = l → Fr (· = g) H H' → K (.tuple #[]) H') :
  CallsH Try.prog 27 #[.pointer (some ⟨t, 0, none⟩), .int .i64 (h : Nat)] H K := by
 have hlt := hV h hh
 refine call27 (by simp) ?_
 simp only [Try.f27, Option.getD_some]
 repeat' (first|(with_reducible first|refine jA ?_|(refine hK _ _ ?_;clear hK K)|refine jJ fun K hK=>?_|refine jK ?_|refine jL ?_|refine jM ?_|refine jN ?_|refine jO ?_|refine jP ?_|refine jQ ?_|(refine jB ?_;clear hK K)|(refine jC ?_;clear hK K)|refine jD ?_|refine jE ?_|refine jG ?_|refine jH ?_|refine jI ?_)|((with_reducible refine jR ?hq ?_);case hq=>rfl)|((first|(with_reducible first|refine jS fun K hK=>?_|refine jT ?_|refine jU ?_)|((with_reducible refine jV ?hy fun K hK=>?_);case hy=>rfl));simp only [go_sem, Nat.reduceEqDiff, Nat.reduceAdd, Nat.reduceMul, Nat.reduceLeDiff, Nat.reduceLT, Int.reduceLT, Int.reduceLE, Int.reduceEq, Int.reduceNeg, Int.reduceToNat, Nat.reducePow, reduceIte, reduceCtorEq])|((with_reducible first|refine jW ?hy ?_|refine jY ?hy ?_);case hy=>rfl)|((with_reducible first|refine jX ?hy ?_|refine jZ ?hy ?_);case hy=>rfl)|((with_reducible refine jF ?hy ?_);case hy=>decide))
 refine access_ok hN hL hV hh fun H1 N1 a R hN1 hA hf1 => ?_
 have hd1 := hN1.hd
 obtain rfl := hl.uniq hA.ch
 repeat' (first|(with_reducible first|refine jA ?_|(refine hK _ _ ?_;clear hK K)|refine jJ fun K hK=>?_|refine jK ?_|refine jL ?_|refine jM ?_|refine jN ?_|refine jO ?_|refine jP ?_|refine jQ ?_|(refine jB ?_;clear hK K)|(refine jC ?_;clear hK K)|refine jD ?_|refine jE ?_|refine jG ?_|refine jH ?_|refine jI ?_)|((with_reducible refine jR ?hq ?_);case hq=>rfl)|((first|(with_reducible first|refine jS fun K hK=>?_|refine jT ?_|refine jU ?_)|((with_reducible refine jV ?hy fun K hK=>?_);case hy=>rfl));simp only [go_sem, Nat.reduceEqDiff, Nat.reduceAdd, Nat.reduceMul, Nat.reduceLeDiff, Nat.reduceLT, Int.reduceLT, Int.reduceLE, Int.reduceEq, Int.reduceNeg, Int.reduceToNat, Nat.reducePow, reduceIte, reduceCtorEq, hd1, hlt])|((with_reducible first|refine jW ?hy ?_|refine jY ?hy ?_);case hy=>rfl)|((with_reducible first|refine jX ?hy ?_|refine jZ ?hy ?_);case hy=>rfl)|((with_reducible refine jF ?hy ?_);case hy=>decide))
 refine turn_link hN1 hlt fun H2 hN2 hf2 => ?_
 repeat' (first|(with_reducible first|refine jA ?_|(refine hK _ _ ?_;clear hK K)|refine jJ fun K hK=>?_|refine jK ?_|refine jL ?_|refine jM ?_|refine jN ?_|refine jO ?_|refine jP ?_|refine jQ ?_|(refine jB ?_;clear hK K)|(refine jC ?_;clear hK K)|refine jD ?_|refine jE ?_|refine jG ?_|refine jH ?_|refine jI ?_)|((with_reducible refine jR ?hq ?_);case hq=>rfl)|((first|(with_reducible first|refine jS fun K hK=>?_|refine jT ?_|refine jU ?_)|((with_reducible refine jV ?hy fun K hK=>?_);case hy=>rfl));simp only [go_sem, Nat.reduceEqDiff, Nat.reduceAdd, Nat.reduceMul, Nat.reduceLeDiff, Nat.reduceLT, Int.reduceLT, Int.reduceLE, Int.reduceEq, Int.reduceNeg, Int.reduceToNat, Nat.reducePow, reduceIte, reduceCtorEq])|((with_reducible first|refine jW ?hy ?_|refine jY ?hy ?_);case hy=>rfl)|((with_reducible first|refine jX ?hy ?_|refine jZ ?hy ?_);case hy=>rfl)|((with_reducible refine jF ?hy ?_);case hy=>decide))
 refine push_ok hN2 hlt fun H3 hN3 hf3 => ?_
 repeat' (first|(with_reducible first|refine jA ?_|(refine hK _ _ ?_;clear hK K)|refine jJ fun K hK=>?_|refine jK ?_|refine jL ?_|refine jM ?_|refine jN ?_|refine jO ?_|refine jP ?_|refine jQ ?_|(refine jB ?_;clear hK K)|(refine jC ?_;clear hK K)|refine jD ?_|refine jE ?_|refine jG ?_|refine jH ?_|refine jI ?_)|((with_reducible refine jR ?hq ?_);case hq=>rfl)|((first|(with_reducible first|refine jS fun K hK=>?_|refine jT ?_|refine jU ?_)|((with_reducible refine jV ?hy fun K hK=>?_);case hy=>rfl));simp only [go_sem, Nat.reduceEqDiff, Nat.reduceAdd, Nat.reduceMul, Nat.reduceLeDiff, Nat.reduceLT, Int.reduceLT, Int.reduceLE, Int.reduceEq, Int.reduceNeg, Int.reduceToNat, Nat.reducePow, reduceIte, reduceCtorEq])|((with_reducible first|refine jW ?hy ?_|refine jY ?hy ?_);case hy=>rfl)|((with_reducible first|refine jX ?hy ?_|refine jZ ?hy ?_);case hy=>rfl)|((with_reducible refine jF ?hy ?_);case hy=>decide))
 exact fin _ _ _ _ hN3 hA.evert hA.evert_tree.1 hA.evert_tree.2 ((hf1.trans hf2).trans hf3)
theorem root_ok {h r : Nat} (hN : NA H t g c len N) (hL : LC N E par rows V) (hV : ∀ h, V h → h < len) (hh : V h) (hr : RootOf par h r)
  (fin : ∀ H' N' rows', NA H' t g c len N' → LC N' E par rows' V → Fr (· = g) H H' → K (.int .i64 (r : Nat)) H') :
  CallsH Try.prog 32 #[.pointer (some ⟨t, 0, none⟩), .int .i64 (h : Nat)] H K := by
 refine call32 (by simp) ?_
 simp only [Try.f32, Option.getD_some]
 repeat' (first|(with_reducible first|refine jA ?_|(refine hK _ _ ?_;clear hK K)|refine jJ fun K hK=>?_|refine jK ?_|refine jL ?_|refine jM ?_|refine jN ?_|refine jO ?_|refine jP ?_|refine jQ ?_|(refine jB ?_;clear hK K)|(refine jC ?_;clear hK K)|refine jD ?_|refine jE ?_|refine jG ?_|refine jH ?_|refine jI ?_)|((with_reducible refine jR ?hq ?_);case hq=>rfl)|((first|(with_reducible first|refine jS fun K hK=>?_|refine jT ?_|refine jU ?_)|((with_reducible refine jV ?hy fun K hK=>?_);case hy=>rfl));simp only [go_sem, Nat.reduceEqDiff, Nat.reduceAdd, Nat.reduceMul, Nat.reduceLeDiff, Nat.reduceLT, Int.reduceLT, Int.reduceLE, Int.reduceEq, Int.reduceNeg, Int.reduceToNat, Nat.reducePow, reduceIte, reduceCtorEq])|((with_reducible first|refine jW ?hy ?_|refine jY ?hy ?_);case hy=>rfl)|((with_reducible first|refine jX ?hy ?_|refine jZ ?hy ?_);case hy=>rfl)|((with_reducible refine jF ?hy ?_);case hy=>decide))
 refine access_ok hN hL hV hh fun H1 N1 a0 R hN1 hA hf1 => ?_
 have hrow := hA.lc.row
 have hhead : (a0.list ++ [h]).headD 0 = r := by
  refine RootOf.uniq ?_ hr
  refine ⟨_, hA.ch, ?_⟩
  cases hl : a0.list with
  | nil => simp
  | cons y q =>
   show (h :: (y :: q).reverse).getLast? = some y
   rw [List.reverse_cons, ← List.cons_append, List.getLast?_append]
   rfl
 repeat' (first|(with_reducible first|refine jA ?_|(refine hK _ _ ?_;clear hK K)|refine jJ fun K hK=>?_|refine jK ?_|refine jL ?_|refine jM ?_|refine jN ?_|refine jO ?_|refine jP ?_|refine jQ ?_|(refine jB ?_;clear hK K)|(refine jC ?_;clear hK K)|refine jD ?_|refine jE ?_|refine jG ?_|refine jH ?_|refine jI ?_)|((with_reducible refine jR ?hq ?_);case hq=>rfl)|((first|(with_reducible first|refine jS fun K hK=>?_|refine jT ?_|refine jU ?_)|((with_reducible refine jV ?hy fun K hK=>?_);case hy=>rfl));simp only [go_sem, Nat.reduceEqDiff, Nat.reduceAdd, Nat.reduceMul, Nat.reduceLeDiff, Nat.reduceLT, Int.reduceLT, Int.reduceLE, Int.reduceEq, Int.reduceNeg, Int.reduceToNat, Nat.reducePow, reduceIte, reduceCtorEq])|((with_reducible first|refine jW ?hy ?_|refine jY ?hy ?_);case hy=>rfl)|((with_reducible first|refine jX ?hy ?_|refine jZ ?hy ?_);case hy=>rfl)|((with_reducible refine jF ?hy ?_);case hy=>decide))
 refine x_loop (fun m e' H' => ∃ N2 a x b ps, NA H' t g c len N2 ∧ LC N2 E par ((a0.list ++ [h]) :: R) V ∧ Fr (· = g) H H' ∧ e' 1 = .int .i64 (x : Nat) ∧ TrAt N2 E false 0 (plug (.node a x b) ps) ∧ (plug (.node a x b) ps).list = a0.list ++ [h] ∧
   (∀ f ∈ ps, (N2 f.h).turned = false) ∧ (∀ f ∈ ps, f.side = false) ∧ m = a.list.length) a0.list.length ⟨N1, a0, h, Tr.nil, [], hN1, hA.lc, hf1, rfl, hA.tree, rfl, by simp, by simp, rfl⟩ ?_
 rintro m e1 H2 ⟨N2, a, x, b, ps, hN2, hL2, hf2, i1, hT, hl, hfl, hsd, rfl⟩ hoff
 have i0 : e1 0 = .pointer (some ⟨t, 0, none⟩) := (hoff 0 rfl).trans rfl
 clear hoff
 have hxm : x ∈ a0.list ++ [h] := by rw [← hl]; exact (plug_perm ps _).mem_iff.2 (by simp [Tr.list])
 have hx := hV x (hL2.live hxm)
 obtain ⟨p1, p2, p3, p4⟩ := push_plug hT hfl (by rw [hl]; exact hrow.nd)
 have hL3 : LC (pushN N2 x) E par ((a0.list ++ [h]) :: R) V := by
  refine hL2.off (T := plug (.node a x b) ps) (by rw [hA.top]; exact p1) hl (fun i hi => p4 i (by rw [hl]; exact hi)) (hL2.eok.congr fun i => ⟨(pushN_up i).2.1, (pushN_up i).2.2.1⟩)
 repeat' (first|(with_reducible first|refine jA ?_|(refine hK _ _ ?_;clear hK K)|refine jJ fun K hK=>?_|refine jK ?_|refine jL ?_|refine jM ?_|refine jN ?_|refine jO ?_|refine jP ?_|refine jQ ?_|(refine jB ?_;clear hK K)|(refine jC ?_;clear hK K)|refine jD ?_|refine jE ?_|refine jG ?_|refine jH ?_|refine jI ?_)|((with_reducible refine jR ?hq ?_);case hq=>rfl)|((first|(with_reducible first|refine jS fun K hK=>?_|refine jT ?_|refine jU ?_)|((with_reducible refine jV ?hy fun K hK=>?_);case hy=>rfl));simp only [go_sem, Nat.reduceEqDiff, Nat.reduceAdd, Nat.reduceMul, Nat.reduceLeDiff, Nat.reduceLT, Int.reduceLT, Int.reduceLE, Int.reduceEq, Int.reduceNeg, Int.reduceToNat, Nat.reducePow, reduceIte, reduceCtorEq, i0, i1])|((with_reducible first|refine jW ?hy ?_|refine jY ?hy ?_);case hy=>rfl)|((with_reducible first|refine jX ?hy ?_|refine jZ ?hy ?_);case hy=>rfl)|((with_reducible refine jF ?hy ?_);case hy=>decide))
 refine push_ok hN2 hx fun H3 hN3 hf3 => ?_
 have hd3 := hN3.hd
 have c1 := hN3.cell (j := 1) hx rfl
 obtain ⟨⟨x0, xu, xl, xr, xb, xta, xtb⟩, _⟩ := (trAt_plug _ _).1 ⟨p1, p3⟩
 have xl' : (pushN N2 x x).l = a.root := xl
 rw [xl'] at c1
 by_cases ha : a.root = 0
 ·have t1 : ((a.root : Int) == 0) = true := by simp [ha]
  obtain rfl := root_nil xta ha
  obtain ⟨q, eq⟩ := plug_left ps (.node .nil x b) hsd
  rw [hl] at eq
  have hxr : x = r := by
   rw [← hhead, eq]; rfl
  repeat' (first|(with_reducible first|refine jA ?_|(refine hK _ _ ?_;clear hK K)|refine jJ fun K hK=>?_|refine jK ?_|refine jL ?_|refine jM ?_|refine jN ?_|refine jO ?_|refine jP ?_|refine jQ ?_|(refine jB ?_;clear hK K)|(refine jC ?_;clear hK K)|refine jD ?_|refine jE ?_|refine jG ?_|refine jH ?_|refine jI ?_)|((with_reducible refine jR ?hq ?_);case hq=>rfl)|((first|(with_reducible first|refine jS fun K hK=>?_|refine jT ?_|refine jU ?_)|((with_reducible refine jV ?hy fun K hK=>?_);case hy=>rfl));simp only [go_sem, Nat.reduceEqDiff, Nat.reduceAdd, Nat.reduceMul, Nat.reduceLeDiff, Nat.reduceLT, Int.reduceLT, Int.reduceLE, Int.reduceEq, Int.reduceNeg, Int.reduceToNat, Nat.reducePow, reduceIte, reduceCtorEq, i0, i1, hd3, hx, c1, t1])|((with_reducible first|refine jW ?hy ?_|refine jY ?hy ?_);case hy=>rfl)|((with_reducible first|refine jX ?hy ?_|refine jZ ?hy ?_);case hy=>rfl)|((with_reducible refine jF ?hy ?_);case hy=>decide))
  refine splay_row hN3 hL3 hV (List.Perm.refl _) hxm ?_
  intro H4 N4 a4 b4 hN4 hL4 _ _ _ _ hf4
  repeat' (first|(with_reducible first|refine jA ?_|(refine hK _ _ ?_;clear hK K)|refine jJ fun K hK=>?_|refine jK ?_|refine jL ?_|refine jM ?_|refine jN ?_|refine jO ?_|refine jP ?_|refine jQ ?_|(refine jB ?_;clear hK K)|(refine jC ?_;clear hK K)|refine jD ?_|refine jE ?_|refine jG ?_|refine jH ?_|refine jI ?_)|((with_reducible refine jR ?hq ?_);case hq=>rfl)|((first|(with_reducible first|refine jS fun K hK=>?_|refine jT ?_|refine jU ?_)|((with_reducible refine jV ?hy fun K hK=>?_);case hy=>rfl));simp only [go_sem, Nat.reduceEqDiff, Nat.reduceAdd, Nat.reduceMul, Nat.reduceLeDiff, Nat.reduceLT, Int.reduceLT, Int.reduceLE, Int.reduceEq, Int.reduceNeg, Int.reduceToNat, Nat.reducePow, reduceIte, reduceCtorEq, i1])|((with_reducible first|refine jW ?hy ?_|refine jY ?hy ?_);case hy=>rfl)|((with_reducible first|refine jX ?hy ?_|refine jZ ?hy ?_);case hy=>rfl)|((with_reducible refine jF ?hy ?_);case hy=>decide))
  rw [hxr]
  exact fin _ _ _ hN4 hL4 ((hf2.trans hf3).trans hf4)
 ·have t1 : ((a.root : Int) == 0) = false := by simp [ha]
  cases a with
  | nil => exact absurd rfl ha
  | node a' k b' =>
   repeat' (first|(with_reducible first|refine jA ?_|(refine hK _ _ ?_;clear hK K)|refine jJ fun K hK=>?_|refine jK ?_|refine jL ?_|refine jM ?_|refine jN ?_|refine jO ?_|refine jP ?_|refine jQ ?_|(refine jB ?_;clear hK K)|(refine jC ?_;clear hK K)|refine jD ?_|refine jE ?_|refine jG ?_|refine jH ?_|refine jI ?_)|((with_reducible refine jR ?hq ?_);case hq=>rfl)|((first|(with_reducible first|refine jS fun K hK=>?_|refine jT ?_|refine jU ?_)|((with_reducible refine jV ?hy fun K hK=>?_);case hy=>rfl));simp only [go_sem, Nat.reduceEqDiff, Nat.reduceAdd, Nat.reduceMul, Nat.reduceLeDiff, Nat.reduceLT, Int.reduceLT, Int.reduceLE, Int.reduceEq, Int.reduceNeg, Int.reduceToNat, Nat.reducePow, reduceIte, reduceCtorEq, i0, i1, hd3, hx, c1, t1])|((with_reducible first|refine jW ?hy ?_|refine jY ?hy ?_);case hy=>rfl)|((with_reducible first|refine jX ?hy ?_|refine jZ ?hy ?_);case hy=>rfl)|((with_reducible refine jF ?hy ?_);case hy=>decide))
   refine loop_normal (m' := a'.list.length) (by simp [Tr.list]) ⟨_, a', k, b', ⟨false, x, b⟩ :: ps, hN3, hL3, hf2.trans hf3, rfl, p1, hl, fun f hf => ?_, fun f hf => ?_, rfl⟩
   ·rcases List.mem_cons.1 hf with rfl | hf
    ·exact p2
    ·exact p3 f hf
   ·rcases List.mem_cons.1 hf with rfl | hf
    ·rfl
    ·exact hsd f hf
theorem same_ok {a b ra rb : Nat} (hN : NA H t g c len N) (hL : LC N E par rows V) (hV : ∀ h, V h → h < len) (ha : V a) (hb : V b) (hra : RootOf par a ra) (hrb : RootOf par b rb)
  (fin : ∀ H' N' rows', NA H' t g c len N' → LC N' E par rows' V → Fr (· = g) H H' → K (.bool (decide (ra = rb))) H') :
  CallsH Try.prog 26 #[.pointer (some ⟨t, 0, none⟩), .int .i64 (a : Nat), .int .i64 (b : Nat)] H K := by
 refine call26 (by simp) ?_
 simp only [Try.f26, Option.getD_some]
 by_cases e : a = b
 ·have t1 : ((a : Int) == (b : Int)) = true := by simp [e]
  subst e
  obtain rfl := hra.uniq hrb
  simp only [decide_true] at fin
  repeat' (first|(with_reducible first|refine jA ?_|(refine hK _ _ ?_;clear hK K)|refine jJ fun K hK=>?_|refine jK ?_|refine jL ?_|refine jM ?_|refine jN ?_|refine jO ?_|refine jP ?_|refine jQ ?_|(refine jB ?_;clear hK K)|(refine jC ?_;clear hK K)|refine jD ?_|refine jE ?_|refine jG ?_|refine jH ?_|refine jI ?_)|((with_reducible refine jR ?hq ?_);case hq=>rfl)|((first|(with_reducible first|refine jS fun K hK=>?_|refine jT ?_|refine jU ?_)|((with_reducible refine jV ?hy fun K hK=>?_);case hy=>rfl));simp only [go_sem, Nat.reduceEqDiff, Nat.reduceAdd, Nat.reduceMul, Nat.reduceLeDiff, Nat.reduceLT, Int.reduceLT, Int.reduceLE, Int.reduceEq, Int.reduceNeg, Int.reduceToNat, Nat.reducePow, reduceIte, reduceCtorEq, t1])|((with_reducible first|refine jW ?hy ?_|refine jY ?hy ?_);case hy=>rfl)|((with_reducible first|refine jX ?hy ?_|refine jZ ?hy ?_);case hy=>rfl)|((with_reducible refine jF ?hy ?_);case hy=>decide))
  exact fin _ _ _ hN hL (.refl _ _)
 ·have t1 : ((a : Int) == (b : Int)) = false := by simp; omega
  repeat' (first|(with_reducible first|refine jA ?_|(refine hK _ _ ?_;clear hK K)|refine jJ fun K hK=>?_|refine jK ?_|refine jL ?_|refine jM ?_|refine jN ?_|refine jO ?_|refine jP ?_|refine jQ ?_|(refine jB ?_;clear hK K)|(refine jC ?_;clear hK K)|refine jD ?_|refine jE ?_|refine jG ?_|refine jH ?_|refine jI ?_)|((with_reducible refine jR ?hq ?_);case hq=>rfl)|((first|(with_reducible first|refine jS fun K hK=>?_|refine jT ?_|refine jU ?_)|((with_reducible refine jV ?hy fun K hK=>?_);case hy=>rfl));simp only [go_sem, Nat.reduceEqDiff, Nat.reduceAdd, Nat.reduceMul, Nat.reduceLeDiff, Nat.reduceLT, Int.reduceLT, Int.reduceLE, Int.reduceEq, Int.reduceNeg, Int.reduceToNat, Nat.reducePow, reduceIte, reduceCtorEq, t1])|((with_reducible first|refine jW ?hy ?_|refine jY ?hy ?_);case hy=>rfl)|((with_reducible first|refine jX ?hy ?_|refine jZ ?hy ?_);case hy=>rfl)|((with_reducible refine jF ?hy ?_);case hy=>decide))
  refine root_ok hN hL hV ha hra fun H1 N1 rows1 hN1 hL1 hf1 => ?_
  repeat' (first|(with_reducible first|refine jA ?_|(refine hK _ _ ?_;clear hK K)|refine jJ fun K hK=>?_|refine jK ?_|refine jL ?_|refine jM ?_|refine jN ?_|refine jO ?_|refine jP ?_|refine jQ ?_|(refine jB ?_;clear hK K)|(refine jC ?_;clear hK K)|refine jD ?_|refine jE ?_|refine jG ?_|refine jH ?_|refine jI ?_)|((with_reducible refine jR ?hq ?_);case hq=>rfl)|((first|(with_reducible first|refine jS fun K hK=>?_|refine jT ?_|refine jU ?_)|((with_reducible refine jV ?hy fun K hK=>?_);case hy=>rfl));simp only [go_sem, Nat.reduceEqDiff, Nat.reduceAdd, Nat.reduceMul, Nat.reduceLeDiff, Nat.reduceLT, Int.reduceLT, Int.reduceLE, Int.reduceEq, Int.reduceNeg, Int.reduceToNat, Nat.reducePow, reduceIte, reduceCtorEq])|((with_reducible first|refine jW ?hy ?_|refine jY ?hy ?_);case hy=>rfl)|((with_reducible first|refine jX ?hy ?_|refine jZ ?hy ?_);case hy=>rfl)|((with_reducible refine jF ?hy ?_);case hy=>decide))
  refine root_ok hN1 hL1 hV hb hrb fun H2 N2 rows2 hN2 hL2 hf2 => ?_
  have t2 : ((ra : Int) == (rb : Int)) = decide (ra = rb) := by rw [Bool.eq_iff_iff]; simp; omega
  repeat' (first|(with_reducible first|refine jA ?_|(refine hK _ _ ?_;clear hK K)|refine jJ fun K hK=>?_|refine jK ?_|refine jL ?_|refine jM ?_|refine jN ?_|refine jO ?_|refine jP ?_|refine jQ ?_|(refine jB ?_;clear hK K)|(refine jC ?_;clear hK K)|refine jD ?_|refine jE ?_|refine jG ?_|refine jH ?_|refine jI ?_)|((with_reducible refine jR ?hq ?_);case hq=>rfl)|((first|(with_reducible first|refine jS fun K hK=>?_|refine jT ?_|refine jU ?_)|((with_reducible refine jV ?hy fun K hK=>?_);case hy=>rfl));simp only [go_sem, Nat.reduceEqDiff, Nat.reduceAdd, Nat.reduceMul, Nat.reduceLeDiff, Nat.reduceLT, Int.reduceLT, Int.reduceLE, Int.reduceEq, Int.reduceNeg, Int.reduceToNat, Nat.reducePow, reduceIte, reduceCtorEq, t2])|((with_reducible first|refine jW ?hy ?_|refine jY ?hy ?_);case hy=>rfl)|((with_reducible first|refine jX ?hy ?_|refine jZ ?hy ?_);case hy=>rfl)|((with_reducible refine jF ?hy ?_);case hy=>decide))
  exact fin _ _ _ hN2 hL2 (hf1.trans hf2)
theorem apart_ok {h : Nat} (hN : NA H t g c len N) (hL : LC N E par rows V) (hV : ∀ h, V h → h < len) (hh : V h)
  (fin : ∀ H' N' rows', NA H' t g c len N' → LC N' E (setP par h 0) rows' V → Fr (· = g) H H' → K (.tuple #[]) H') :
  CallsH Try.prog 40 #[.pointer (some ⟨t, 0, none⟩), .int .i64 (h : Nat)] H K := by
 have hlt := hV h hh
 refine call40 (by simp) ?_
 simp only [Try.f40, Option.getD_some]
 repeat' (first|(with_reducible first|refine jA ?_|(refine hK _ _ ?_;clear hK K)|refine jJ fun K hK=>?_|refine jK ?_|refine jL ?_|refine jM ?_|refine jN ?_|refine jO ?_|refine jP ?_|refine jQ ?_|(refine jB ?_;clear hK K)|(refine jC ?_;clear hK K)|refine jD ?_|refine jE ?_|refine jG ?_|refine jH ?_|refine jI ?_)|((with_reducible refine jR ?hq ?_);case hq=>rfl)|((first|(with_reducible first|refine jS fun K hK=>?_|refine jT ?_|refine jU ?_)|((with_reducible refine jV ?hy fun K hK=>?_);case hy=>rfl));simp only [go_sem, Nat.reduceEqDiff, Nat.reduceAdd, Nat.reduceMul, Nat.reduceLeDiff, Nat.reduceLT, Int.reduceLT, Int.reduceLE, Int.reduceEq, Int.reduceNeg, Int.reduceToNat, Nat.reducePow, reduceIte, reduceCtorEq])|((with_reducible first|refine jW ?hy ?_|refine jY ?hy ?_);case hy=>rfl)|((with_reducible first|refine jX ?hy ?_|refine jZ ?hy ?_);case hy=>rfl)|((with_reducible refine jF ?hy ?_);case hy=>decide))
 refine access_ok hN hL hV hh fun H1 N1 a R hN1 hA hf1 => ?_
 have hd1 := hN1.hd
 have c1 := hN1.cell (j := 1) hlt rfl
 have xl : (N1 h).l = a.root := hA.tree.2.2.1
 rw [xl] at c1
 by_cases ha : a.root = 0
 ·have t1 : ((a.root : Int) != 0) = false := by simp [ha]
  have e : setP par h 0 = par := by
   funext i
   unfold setP
   split
   ·rename_i hi
    have h1 := hA.top
    have : a = .nil := root_nil hA.tree.2.2.2.2.2.1 ha
    rw [this] at h1
    rw [hi]
    exact h1.symm
   ·rfl
  rw [e] at fin
  repeat' (first|(with_reducible first|refine jA ?_|(refine hK _ _ ?_;clear hK K)|refine jJ fun K hK=>?_|refine jK ?_|refine jL ?_|refine jM ?_|refine jN ?_|refine jO ?_|refine jP ?_|refine jQ ?_|(refine jB ?_;clear hK K)|(refine jC ?_;clear hK K)|refine jD ?_|refine jE ?_|refine jG ?_|refine jH ?_|refine jI ?_)|((with_reducible refine jR ?hq ?_);case hq=>rfl)|((first|(with_reducible first|refine jS fun K hK=>?_|refine jT ?_|refine jU ?_)|((with_reducible refine jV ?hy fun K hK=>?_);case hy=>rfl));simp only [go_sem, Nat.reduceEqDiff, Nat.reduceAdd, Nat.reduceMul, Nat.reduceLeDiff, Nat.reduceLT, Int.reduceLT, Int.reduceLE, Int.reduceEq, Int.reduceNeg, Int.reduceToNat, Nat.reducePow, reduceIte, reduceCtorEq, hd1, hlt, c1, t1])|((with_reducible first|refine jW ?hy ?_|refine jY ?hy ?_);case hy=>rfl)|((with_reducible first|refine jX ?hy ?_|refine jZ ?hy ?_);case hy=>rfl)|((with_reducible refine jF ?hy ?_);case hy=>decide))
  exact fin _ _ _ hN1 hA.lc hf1
 ·have t1 : ((a.root : Int) != 0) = true := by simp [ha]
  have hrm : a.root ∈ a.list ++ [h] := List.mem_append_left _ (Tr.root_mem ha)
  have hrl := hV _ (hA.lc.live hrm)
  have w0 := hN1.okw0 hrl
  have hN2 := setUpA hN1 hrl hN1.z.1
  have hd2 := hN2.hd
  have w1 := hN2.okw hlt 1 (by omega)
  have hN3 := setL hN2 hlt hN1.z.1
  have hf3 := (hset_fr H1 g (a.root * 10) (.int .i64 ((0 : Nat) : Int))).trans (hset_fr _ g (h * 10 + 1) (.int .i64 ((0 : Nat) : Int)))
  simp only [Int.cast_ofNat_Int] at hd2 w1 hN2 hN3 hf3
  repeat' (first|(with_reducible first|refine jA ?_|(refine hK _ _ ?_;clear hK K)|refine jJ fun K hK=>?_|refine jK ?_|refine jL ?_|refine jM ?_|refine jN ?_|refine jO ?_|refine jP ?_|refine jQ ?_|(refine jB ?_;clear hK K)|(refine jC ?_;clear hK K)|refine jD ?_|refine jE ?_|refine jG ?_|refine jH ?_|refine jI ?_)|((with_reducible refine jR ?hq ?_);case hq=>rfl)|((first|(with_reducible first|refine jS fun K hK=>?_|refine jT ?_|refine jU ?_)|((with_reducible refine jV ?hy fun K hK=>?_);case hy=>rfl));simp only [go_sem, Nat.reduceEqDiff, Nat.reduceAdd, Nat.reduceMul, Nat.reduceLeDiff, Nat.reduceLT, Int.reduceLT, Int.reduceLE, Int.reduceEq, Int.reduceNeg, Int.reduceToNat, Nat.reducePow, reduceIte, reduceCtorEq, hd1, hlt, c1, t1, hrl, w0, hd2, w1])|((with_reducible first|refine jW ?hy ?_|refine jY ?hy ?_);case hy=>rfl)|((with_reducible first|refine jX ?hy ?_|refine jZ ?hy ?_);case hy=>rfl)|((with_reducible refine jF ?hy ?_);case hy=>decide))
  refine pull_ok hN3 hlt fun H4 hN4 hf4 => ?_
  repeat' (first|(with_reducible first|refine jA ?_|(refine hK _ _ ?_;clear hK K)|refine jJ fun K hK=>?_|refine jK ?_|refine jL ?_|refine jM ?_|refine jN ?_|refine jO ?_|refine jP ?_|refine jQ ?_|(refine jB ?_;clear hK K)|(refine jC ?_;clear hK K)|refine jD ?_|refine jE ?_|refine jG ?_|refine jH ?_|refine jI ?_)|((with_reducible refine jR ?hq ?_);case hq=>rfl)|((first|(with_reducible first|refine jS fun K hK=>?_|refine jT ?_|refine jU ?_)|((with_reducible refine jV ?hy fun K hK=>?_);case hy=>rfl));simp only [go_sem, Nat.reduceEqDiff, Nat.reduceAdd, Nat.reduceMul, Nat.reduceLeDiff, Nat.reduceLT, Int.reduceLT, Int.reduceLE, Int.reduceEq, Int.reduceNeg, Int.reduceToNat, Nat.reducePow, reduceIte, reduceCtorEq])|((with_reducible first|refine jW ?hy ?_|refine jY ?hy ?_);case hy=>rfl)|((with_reducible first|refine jX ?hy ?_|refine jZ ?hy ?_);case hy=>rfl)|((with_reducible refine jF ?hy ?_);case hy=>decide))
  exact fin _ _ _ hN4 (hA.part ha) ((hf1.trans hf3).trans hf4)
end
end Go.Proofs.Ytoplhfhjokjbiaa
namespace Go.Li
open Go Go.Hp
set_option linter.unusedVariables false
set_option linter.unusedSimpArgs false

def setE (E : Es) (h : Nat) (e : Option Ed) : Es := fun i => if i = h then e else E i
theorem setE_same (E : Es) (h : Nat) (e : Option Ed) : setE E h e h = e := if_pos rfl
theorem setE_ne (E : Es) {h i : Nat} (e : Option Ed) (hi : i ≠ h) : setE E h e i = E i := if_neg hi
theorem Best.congrE {E E' : Es} {b : Nat} {xs : List Nat} (h : Best E b xs) (he : ∀ x ∈ xs, E' x = E x) : Best E' b xs := by
 rcases h with ⟨h1, h2⟩ | ⟨h1, e, h2, h3⟩
 ·exact .inl ⟨h1, fun x hx => by rw [he x hx]; exact h2 x hx⟩
 ·exact .inr ⟨h1, e, by rw [he b h1]; exact h2, fun x hx e' hx' => h3 x hx e' (by rw [← he x hx]; exact hx')⟩
theorem TrAt.congrE {N : Nodes} {E E' : Es} : ∀ {t : Tr} {rev : Bool} {up : Nat}, TrAt N E rev up t → (∀ x ∈ t.list, E' x = E x) → TrAt N E' rev up t
 | .nil, _, _, _, _ => trivial
 | .node l h r, rev, up, ⟨a, b, c, d, e, f, g⟩, hN => by
  simp only [Tr.list, List.mem_append, List.mem_cons] at hN
  exact ⟨a, b, c, d, e.congrE fun x hx => hN x (by simpa using hx), f.congrE fun k hk => hN k (.inl hk), g.congrE fun k hk => hN k (.inr (.inr hk))⟩
def newNd (h : Nat) (e : Ed) : Nd := { Nd.zero with isEdge := true, e := e, best := h }
section
variable {N N' : Nodes} {E : Es} {par : Par} {rows R : List (List Nat)} {V : Nat → Prop} {h : Nat}
theorem LC.add {e : Ed} (k : LC N E par rows V) (h0 : h ≠ 0) (hV : ¬ V h) (hE : E h = none) (hp : par h = 0) (hid : ∀ x e', E x = some e' → e'.id ≠ e.id) :
  LC (upd N h (newNd h e)) (setE E h (some e)) par ([h] :: rows) (fun i => V i ∨ i = h) := by
 have hr : ∀ i ∈ rows.flatten, i ≠ h := fun i hi e => hV (e ▸ (k.use i).1 hi)
 refine ⟨⟨fun i => ?_, fun i x hx => ?_, fun x y a b ha hb hab => ?_⟩, ?_, fun hz => ?_, fun ys hy => ?_, fun ys hy => ?_, fun ys hy => ?_, ?_, fun i => ?_, fun i hi => ?_, fun i hi => ?_⟩
 ·by_cases ei : i = h
  ·subst ei; rw [upd_same, setE_same]; rfl
  ·rw [upd_ne _ _ ei, setE_ne _ _ ei]; exact k.eok.is i
 ·by_cases ei : i = h
  ·subst ei
   rw [setE_same] at hx
   rw [upd_same]
   exact Option.some.inj hx
  ·rw [setE_ne _ _ ei] at hx
   rw [upd_ne _ _ ei]
   exact k.eok.e i x hx
 ·by_cases ex : x = h
  ·by_cases ey : y = h
   ·rw [ex, ey]
   ·rw [ex, setE_same] at ha
    rw [setE_ne _ _ ey] at hb
    obtain rfl := Option.some.inj ha
    exact absurd hab.symm (hid y b hb)
  ·rw [setE_ne _ _ ex] at ha
   by_cases ey : y = h
   ·rw [ey, setE_same] at hb
    obtain rfl := Option.some.inj hb
    exact absurd hab (hid x a ha)
   ·rw [setE_ne _ _ ey] at hb
    exact k.eok.uq x y a b ha hb hab
 ·rw [upd_ne _ _ (Ne.symm h0)]; exact k.z
 ·rcases hz with hz | hz
  ·exact k.v0 hz
  ·exact h0 hz.symm
 ·rcases List.mem_cons.1 hy with rfl | hy
  ·refine ⟨.node .nil h .nil, ⟨h0, ?_, ?_, ?_, ?_, trivial, trivial⟩, rfl⟩
   ·rw [upd_same]; exact hp.symm
   ·rw [upd_same]; rfl
   ·rw [upd_same]; rfl
   ·rw [upd_same]
    exact .inr ⟨by simp [newNd, Tr.list], e, setE_same _ _ _, fun x hx e' he => .inl (by simpa [Tr.list, newNd] using hx)⟩
  ·obtain ⟨T, hT, eT⟩ := k.trees ys hy
   have hne : ∀ i ∈ T.list, i ≠ h := fun i hi => hr i (List.mem_flatten.2 ⟨ys, hy, by rw [← eT]; exact hi⟩)
   exact ⟨T, (hT.congr fun i hi => upd_ne _ _ (hne i hi)).congrE fun i hi => setE_ne _ _ (hne i hi), eT⟩
 ·rcases List.mem_cons.1 hy with rfl | hy
  ·trivial
  ·exact k.link ys hy
 ·rcases List.mem_cons.1 hy with rfl | hy
  ·simp
  ·exact k.ne ys hy
 ·rw [List.flatten_cons]
  exact List.nodup_cons.2 ⟨fun hm => hr h hm rfl, k.nd⟩
 ·simp only [List.flatten_cons, List.mem_append, List.mem_singleton, k.use i]
  exact Or.comm
 ·rcases hi with hi | rfl
  ·exact (k.cl i hi).imp id .inl
  ·exact .inl hp
 ·rcases hi with hi | rfl
  ·exact k.ac i hi
  ·exact ⟨_, .root hp⟩
theorem LC.alone (k : LC N E par rows V) (hV : V h) (hp : par h = 0) (hc : ∀ y, par y ≠ h) : ∃ R, rows.Perm ([h] :: R) := by
 obtain ⟨xs, R, hperm, hm⟩ := k.find hV
 have k1 := k.perm hperm
 have hl := k1.link xs (.head _)
 obtain ⟨p, q, e⟩ := List.append_of_mem hm
 subst e
 have hq : q = [] := by
  cases q with
  | nil => rfl
  | cons y q => exact absurd hl.mid (hc y)
 subst hq
 have hpn : p = [] := by
  rcases List.eq_nil_or_concat p with rfl | ⟨p', z, rfl⟩
  ·rfl
  ·have e : p'.concat z ++ [h] = p' ++ z :: h :: [] := by simp
   rw [e] at hl
   have h1 := hl.mid
   have h2 := hl.right
   rw [hp] at h1
   exact absurd h1.symm h2.2.1
 subst hpn
 exact ⟨R, hperm⟩
theorem LC.hang {a p : Nat} {r : List Nat} {T : Tr} (k : LC N E par ((a :: r) :: R) V) (hT : TrAt N E false 0 T) (hl : T.list = a :: r) (ha : par a = 0) (hp : V p) {lp : List Nat} (hlp : Ch par p lp) (hap : a ∉ lp) :
  LC (upd N T.root { N T.root with up := p }) E (setP par a p) ((a :: r) :: R) V := by
 have hp0 : p ≠ 0 := fun e => k.v0 (e ▸ hp)
 have hr0 : T.root ≠ 0 := by
  cases T with
  | nil => simp [Tr.list] at hl
  | node _ _ _ => exact hT.1
 have hrm : T.root ∈ a :: r := by rw [← hl]; exact Tr.root_mem hr0
 have hnd := k.row.nd
 have hE : EOk (upd N T.root { N T.root with up := p }) E := k.eok.congr fun i => (upd_other (N := N) (h := T.root) (r := { N T.root with up := p }) rfl rfl rfl i).2
 have hapR : ∀ i ∈ R.flatten, i ≠ a ∧ i ≠ T.root := fun i hi => ⟨fun e => k.apart (i := i) (by rw [e]; exact .head _) hi, fun e => k.apart (i := i) (by rw [e]; exact hrm) hi⟩
 refine ⟨hE, ?_, k.v0, fun ys hy => ?_, fun ys hy => ?_, k.ne, k.nd, k.use, fun i hi => ?_, fun i hi => ?_⟩
 ·rw [upd_ne _ _ (Ne.symm hr0)]; exact k.z
 ·rcases List.mem_cons.1 hy with rfl | hy
  ·refine ⟨T, ?_, hl⟩
   show TrAt _ E false (setP par a p a) T
   rw [setP_same]
   exact hT.hung (by rw [hl]; exact hnd) (fun _ => upd_same _ _ _) fun i hi hne => upd_ne _ _ hne
  ·obtain ⟨T2, h2, e2⟩ := k.trees ys (.tail _ hy)
   have hne := k.ne ys (.tail _ hy)
   have hh : ys.headD 0 ∈ R.flatten := by
    cases ys with
    | nil => exact absurd rfl hne
    | cons y q => exact List.mem_flatten.2 ⟨_, hy, .head _⟩
   refine ⟨T2, ?_, e2⟩
   rw [setP_ne _ (hapR _ hh).1]
   exact h2.congr fun i hi => upd_ne _ _ (hapR i (List.mem_flatten.2 ⟨ys, hy, by rw [← e2]; exact hi⟩)).2
 ·rcases List.mem_cons.1 hy with rfl | hy
  ·have := k.link _ (.head _)
   cases r with
   | nil => trivial
   | cons y q =>
    rw [List.nodup_cons] at hnd
    refine ⟨by rw [setP_ne _ fun e => hnd.1 (by rw [← e]; exact .head _)]; exact this.1, this.2.1, this.2.2.congr fun i hi => setP_ne _ fun e => hnd.1 (e ▸ hi)⟩
  ·exact (k.link ys (.tail _ hy)).congr fun i hi => setP_ne _ (hapR i (List.mem_flatten.2 ⟨ys, hy, hi⟩)).1
 ·by_cases e : i = a
  ·rw [e, setP_same]; exact .inr hp
  ·rw [setP_ne _ e]; exact k.cl i hi
 ·obtain ⟨m, hm⟩ := k.ac i hi
  obtain ⟨m', h1, _⟩ := hang_chain hp0 hlp hap hm ha
  exact ⟨m', h1⟩
theorem LC.drop (k : LC N E par ([h] :: R) V) (hc : ∀ y, par y ≠ h) : LC (upd N h Nd.zero) (setE E h none) par R (fun i => V i ∧ i ≠ h) := by
 have hr : ∀ i ∈ R.flatten, i ≠ h := fun i hi e => k.apart (i := i) (by simp [e]) hi
 have hV := k.live (i := h) (by simp)
 have h0 : h ≠ 0 := fun e => k.v0 (e ▸ hV)
 refine ⟨⟨fun i => ?_, fun i x hx => ?_, fun x y a b ha hb hab => ?_⟩, ?_, fun hz => k.v0 hz.1, fun ys hy => ?_, fun ys hy => k.link ys (.tail _ hy), fun ys hy => k.ne ys (.tail _ hy), ?_, fun i => ?_, fun i hi => ?_, fun i hi => k.ac i hi.1⟩
 ·by_cases ei : i = h
  ·subst ei; rw [upd_same, setE_same]; rfl
  ·rw [upd_ne _ _ ei, setE_ne _ _ ei]; exact k.eok.is i
 ·by_cases ei : i = h
  ·subst ei; rw [setE_same] at hx; cases hx
  ·rw [setE_ne _ _ ei] at hx
   rw [upd_ne _ _ ei]
   exact k.eok.e i x hx
 ·by_cases ex : x = h
  ·rw [ex, setE_same] at ha; cases ha
  ·by_cases ey : y = h
   ·rw [ey, setE_same] at hb; cases hb
   ·rw [setE_ne _ _ ex] at ha
    rw [setE_ne _ _ ey] at hb
    exact k.eok.uq x y a b ha hb hab
 ·rw [upd_ne _ _ (Ne.symm h0)]; exact k.z
 ·obtain ⟨T, hT, eT⟩ := k.trees ys (.tail _ hy)
  have hne : ∀ i ∈ T.list, i ≠ h := fun i hi => hr i (List.mem_flatten.2 ⟨ys, hy, by rw [← eT]; exact hi⟩)
  exact ⟨T, (hT.congr fun i hi => upd_ne _ _ (hne i hi)).congrE fun i hi => setE_ne _ _ (hne i hi), eT⟩
 ·have := k.nd
  rw [List.flatten_cons, List.nodup_append] at this
  exact this.2.1
 ·have := k.use i
  simp only [List.flatten_cons, List.mem_append, List.mem_singleton] at this
  constructor
  ·exact fun hi => ⟨this.1 (.inr hi), hr i hi⟩
  ·rintro ⟨h1, h2⟩
   exact (this.2 h1).resolve_left h2
 ·rcases k.cl i hi.1 with h1 | h1
  ·exact .inl h1
  ·exact .inr ⟨h1, hc i⟩
end
def Wk (par : Par) : List Nat → Prop
 | x :: y :: r => Adj par x y ∧ Wk par (y :: r)
 | _ => True
theorem Wk.tail {par : Par} {x : Nat} {r : List Nat} (h : Wk par (x :: r)) : Wk par r := by
 cases r with
 | nil => trivial
 | cons y r => exact h.2
theorem Wk.right {par : Par} : ∀ {p q : List Nat}, Wk par (p ++ q) → Wk par q
 | [], _, h => h
 | x :: p, q, h => Wk.right (p := p) h.tail
theorem Wk.left {par : Par} : ∀ {p q : List Nat}, Wk par (p ++ q) → Wk par p
 | [], _, _ => trivial
 | [x], _, _ => trivial
 | x :: y :: p, q, h => ⟨h.1, Wk.left (p := y :: p) h.2⟩
theorem Wk.snoc {par : Par} : ∀ {p : List Nat} {x y : Nat}, Wk par (p ++ [x]) → Adj par x y → Wk par (p ++ [x, y])
 | [], x, y, _, h => ⟨h, trivial⟩
 | [z], x, y, k, h => ⟨k.1, h, trivial⟩
 | z :: w :: p, x, y, k, h => ⟨k.1, Wk.snoc (p := w :: p) k.2 h⟩
theorem Wk.reverse {par : Par} : ∀ {l : List Nat}, Wk par l → Wk par l.reverse
 | [], _ => trivial
 | [x], _ => trivial
 | x :: y :: r, h => by
  have := Wk.reverse h.2
  rw [List.reverse_cons] at this ⊢
  rw [List.reverse_cons, List.append_assoc]
  exact this.snoc h.1.symm
theorem Wk.congr {par par' : Par} (hp : ∀ x y, Adj par' x y ↔ Adj par x y) : ∀ {l : List Nat}, Wk par l → Wk par' l
 | [], _ => trivial
 | [x], _ => trivial
 | x :: y :: r, h => ⟨(hp x y).2 h.1, Wk.congr hp h.2⟩
structure SP (par : Par) (a b : Nat) (l : List Nat) : Prop where
 head : l.head? = some a
 last : l.getLast? = some b
 nd : l.Nodup
 wk : Wk par l
theorem SP.rev {par : Par} {a b : Nat} {l : List Nat} (h : SP par a b l) : SP par b a l.reverse :=
 ⟨by rw [List.head?_reverse]; exact h.last, by rw [List.getLast?_reverse]; exact h.head, (List.reverse_perm _).nodup_iff.2 h.nd, h.wk.reverse⟩
theorem SP.congr {par par' : Par} {a b : Nat} {l : List Nat} (hp : ∀ x y, Adj par' x y ↔ Adj par x y) (h : SP par a b l) : SP par' a b l := ⟨h.head, h.last, h.nd, h.wk.congr hp⟩
theorem Ch.wk {par : Par} {h : Nat} {l : List Nat} (k : Ch par h l) : Wk par l := by
 induction k with
 | root _ => trivial
 | @step h l h0 k ih =>
  obtain ⟨r, rfl⟩ := k.head
  exact ⟨.inl ⟨rfl, h0⟩, ih⟩
theorem Wk.down {par : Par} : ∀ {l : List Nat} {x p : Nat}, Wk par (x :: l) → (x :: l).Nodup → par x = p → p ∉ l → (∀ y ∈ x :: l, y ≠ 0) → Lk par (x :: l)
 | [], _, _, _, _, _, _, _ => trivial
 | y :: r, x, p, hw, hd, hp, hn, hz => by
  have hxy : par y = x := by
   rcases hw.1 with ⟨h1, h2⟩ | ⟨h1, h2⟩
   ·rw [hp] at h1
    exact absurd (by rw [h1]; exact .head _) hn
   ·exact h1
  refine ⟨hxy, hz x (.head _), ?_⟩
  rw [List.nodup_cons] at hd
  exact Wk.down hw.2 hd.2 hxy (fun h => hd.1 (.tail _ h)) fun z hz' => hz z (.tail _ hz')
theorem SP.chain {par : Par} {a b : Nat} {l : List Nat} (h : SP par a b l) (ha : par a = 0) (hz : 0 ∉ l) : Ch par b l.reverse := by
 obtain ⟨h1, h2, h3, h4⟩ := h
 cases l with
 | nil => cases h1
 | cons x r =>
  have e1 : x = a := by simpa using h1
  subst e1
  have hl := h4.down h3 ha (fun hm => hz (.tail _ hm)) fun y hy e => hz (e ▸ hy)
  rcases List.eq_nil_or_concat (x :: r) with e | ⟨q, z, e⟩
  ·cases e
  ·rw [List.concat_eq_append] at e
   rw [e] at h2 hl ⊢
   have e2 : z = b := by simpa using h2
   subst e2
   have e3 : q = q.reverse.reverse := by simp
   rw [List.reverse_append]
   show Ch par z (z :: q.reverse)
   rw [e3] at hl
   refine hl.ch ?_
   rw [← e3]
   have : (q ++ [z]).headD 0 = x := by rw [← e]; rfl
   rw [this, ha]
theorem SP.uniq {par : Par} {a b : Nat} {l l' m : List Nat} (hm : Ch par a m) (ha : a ≠ 0) (h : SP par a b l) (h' : SP par a b l') (hz : 0 ∉ l) (hz' : 0 ∉ l') : l = l' := by
 have hp := fun x y => ev_adj hm ha (x := x) (y := y)
 have he : ev par 0 m a = 0 := by obtain ⟨r, rfl⟩ := hm.head; exact ev_head
 have h1 := (h.congr hp).chain he hz
 have h2 := (h'.congr hp).chain he hz'
 have := h1.uniq h2
 have := congrArg List.reverse this
 simpa using this
theorem SP.exists {par : Par} {a b r : Nat} (ha : a ≠ 0) (hra : RootOf par a r) (hrb : RootOf par b r) : ∃ l, SP par a b l ∧ (∃ m, Ch par a m ∧ Ch (ev par 0 m) b l.reverse) := by
 obtain ⟨m, hm, hmr⟩ := hra
 have h1 := ev_root hm ha hmr hrb
 rw [if_pos rfl] at h1
 obtain ⟨l, hl, hlast⟩ := h1
 have hp := fun x y => (ev_adj hm ha (x := x) (y := y)).symm
 refine ⟨l.reverse, SP.congr hp ⟨?_, ?_, (List.reverse_perm _).nodup_iff.2 hl.nodup, hl.wk.reverse⟩, m, hm, by rw [List.reverse_reverse]; exact hl⟩
 ·rw [List.head?_reverse]; exact hlast
 ·rw [List.getLast?_reverse]
  obtain ⟨q, rfl⟩ := hl.head
  rfl
theorem Wk.root {par : Par} : ∀ {l : List Nat} {a b r : Nat}, Wk par l → l.head? = some a → l.getLast? = some b → RootOf par b r → RootOf par a r
 | [], _, _, _, _, h, _, _ => by cases h
 | [x], a, b, r, _, h1, h2, hr => by
  simp at h1 h2
  rw [← h1, h2]; exact hr
 | x :: y :: q, a, b, r, hw, h1, h2, hr => by
  have e : x = a := by simpa using h1
  subst e
  have ih := Wk.root (l := y :: q) (a := y) hw.2 rfl (by simpa using h2) hr
  rcases hw.1 with ⟨h3, h4⟩ | ⟨h3, h4⟩
  ·exact (RootOf.up (by rw [h3]; exact h4)).2 (by rw [h3]; exact ih)
  ·have := (RootOf.up (par := par) (h := y) (r := r) (by rw [h3]; exact h4)).1 ih
   rwa [h3] at this
end Go.Li
namespace Go.Li
open Go Go.Hp
set_option linter.unusedVariables false
set_option linter.unusedSimpArgs false

structure Ls where
 n : Nat
 E : Es
 par : Par
def Ls.V (S : Ls) (h : Nat) : Prop := (1 ≤ h ∧ h ≤ S.n) ∨ (S.E h).isSome = true
structure Ls.Ok (S : Ls) : Prop where
 n1 : 1 ≤ S.n
 n64 : S.n ≤ 64
 uq : Uniq S.E
 en : ∀ h e, S.E h = some e → S.n < h ∧ (0 ≤ e.u ∧ e.u < S.n) ∧ (0 ≤ e.v ∧ e.v < S.n) ∧ e.u ≠ e.v ∧ S.par h ≠ 0
 ad : ∀ h e y, S.E h = some e → (Adj S.par h y ↔ (y = e.u.toNat + 1 ∨ y = e.v.toNat + 1))
 vx : ∀ a y, 1 ≤ a → a ≤ S.n → Adj S.par a y → (S.E y).isSome = true
 ac : ∀ h, S.V h → ∃ l, Ch S.par h l
 cl : ∀ h, S.V h → S.par h = 0 ∨ S.V (S.par h)
 dd : ∀ h, ¬ S.V h → S.par h = 0
section
variable {S : Ls}
theorem Ls.Ok.v0 (k : S.Ok) : ¬ S.V 0 := by
 rintro (⟨h, _⟩ | h)
 ·omega
 ·obtain ⟨e, he⟩ := Option.isSome_iff_exists.1 h
  have := (k.en 0 e he).1
  omega
theorem Ls.vtx {v : Nat} (h : v < S.n) : S.V (v + 1) := .inl ⟨by omega, by omega⟩
theorem Ls.Ok.live (k : S.Ok) {h : Nat} {l : List Nat} (c : Ch S.par h l) (hV : S.V h) : ∀ x ∈ l, S.V x := by
 induction c with
 | root _ => intro x hx; rw [List.mem_singleton.1 hx]; exact hV
 | @step h l h0 c ih =>
  intro x hx
  rcases List.mem_cons.1 hx with rfl | hx
  ·exact hV
  ·exact ih ((k.cl h hV).resolve_left h0) x hx
theorem Ls.Ok.eno (k : S.Ok) {a : Nat} (h1 : a ≤ S.n) : S.E a = none := by
 cases he : S.E a with
 | none => rfl
 | some e => have := (k.en a e he).1; omega
theorem Ls.Ok.no_kid (k : S.Ok) {h : Nat} (hV : ¬ S.V h) (h0 : h ≠ 0) (y : Nat) : S.par y ≠ h := fun e => by
 by_cases hy : S.V y
 ·rcases k.cl y hy with h1 | h1
  ·exact h0 (by rw [← e, h1])
  ·exact hV (e ▸ h1)
 ·exact h0 (by rw [← e, k.dd y hy])
def Ls.ev (S : Ls) (l : List Nat) : Ls := { S with par := Li.ev S.par 0 l }
theorem Ls.Ok.evert (k : S.Ok) {a : Nat} {l : List Nat} (ha : 1 ≤ a ∧ a ≤ S.n) (hl : Ch S.par a l) : (S.ev l).Ok where
 n1 := k.n1
 n64 := k.n64
 uq := k.uq
 en := fun h e he => by
  obtain ⟨h1, h2, h3, h4, h5⟩ := k.en h e he
  refine ⟨h1, h2, h3, h4, ?_⟩
  show Li.ev S.par 0 l h ≠ 0
  by_cases hm : h ∈ l
  ·obtain ⟨p, q, ep⟩ := List.append_of_mem hm
   rcases List.eq_nil_or_concat p with rfl | ⟨p', z, rfl⟩
   ·obtain ⟨r, er⟩ := hl.head
    rw [er] at ep
    have : a = h := by simpa using (List.cons.inj ep).1
    have h1' : S.n < h := h1
    omega
   ·have e2 : l = p' ++ z :: h :: q := by rw [ep]; simp
    have hnd := hl.nodup
    have hnz := hl.nz (by omega)
    rw [e2] at hnd ⊢
    rw [ev_next hnd]
    rintro rfl
    exact hnz (by rw [e2]; simp)
  ·rw [ev_not_mem hm]; exact h5
 ad := fun h e y he => by
  rw [← k.ad h e y he]
  exact ev_adj hl (by omega)
 vx := fun b y h1 h2 h3 => k.vx b y h1 h2 ((ev_adj hl (by omega)).1 h3)
 ac := fun h hV => by
  obtain ⟨m, hm⟩ := k.ac h hV
  exact ev_acyc hl (by omega) hm
 cl := fun h hV => by
  rcases ev_mem (par := S.par) (l := l) (prev := 0) (i := h) with e | e | ⟨_, e⟩
  ·exact .inl e
  ·exact .inr (k.live hl (.inl ha) _ e)
  ·have := k.cl h hV
   rw [← e] at this
   exact this
 dd := fun h hV => by
  have hm : h ∉ l := fun hm => hV (k.live hl (.inl ha) h hm)
  show Li.ev S.par 0 l h = 0
  rw [ev_not_mem hm]
  exact k.dd h hV
theorem adj_setP {par : Par} {a p x y : Nat} (ha : par a = 0) (hp : p ≠ 0) (ha0 : a ≠ 0) : Adj (setP par a p) x y ↔ Adj par x y ∨ (x = a ∧ y = p) ∨ (x = p ∧ y = a) := by
 unfold Adj setP
 by_cases hx : x = a
 ·subst hx
  by_cases hy : y = x
  ·subst hy
   simp only [if_true, ha]
   constructor
   ·rintro (⟨h1, h2⟩ | ⟨h1, h2⟩)
    ·exact .inr (.inl ⟨trivial, h1.symm⟩)
    ·exact .inr (.inr ⟨h1.symm, trivial⟩)
   ·rintro ((⟨h1, h2⟩ | ⟨h1, h2⟩) | ⟨_, h1⟩ | ⟨h1, _⟩)
    ·exact absurd h1.symm h2
    ·exact absurd h1.symm h2
    ·exact .inl ⟨h1.symm, by rw [h1]; exact hp⟩
    ·exact .inl ⟨h1.symm, by rw [h1]; exact hp⟩
  ·simp only [if_true, hy, if_false, ha]
   constructor
   ·rintro (⟨h1, h2⟩ | ⟨h1, h2⟩)
    ·exact .inr (.inl ⟨trivial, h1.symm⟩)
    ·exact .inl (.inr ⟨h1, h2⟩)
   ·rintro ((⟨h1, h2⟩ | ⟨h1, h2⟩) | ⟨_, h1⟩ | ⟨_, h1⟩)
    ·exact absurd h1.symm h2
    ·exact .inr ⟨h1, h2⟩
    ·exact .inl ⟨h1.symm, by rw [h1]; exact hp⟩
    ·exact absurd h1 (by simp)
 ·by_cases hy : y = a
  ·subst hy
   simp only [if_true, hx, if_false, ha, and_true, false_and, false_or]
   constructor
   ·rintro (⟨h1, h2⟩ | ⟨h1, h2⟩)
    ·exact .inl (.inl ⟨h1, h2⟩)
    ·exact .inr h1.symm
   ·rintro ((⟨h1, h2⟩ | ⟨h1, h2⟩) | h1)
    ·exact .inl ⟨h1, h2⟩
    ·exact absurd h1.symm h2
    ·exact .inr ⟨h1.symm, by rw [h1]; exact hp⟩
  ·simp only [hx, hy, if_false, false_and, and_false, or_false]
def Ls.link (S : Ls) (l : List Nat) (h : Nat) (e : Ed) : Ls :=
 { S with E := setE S.E h (some e), par := setP (setP (Li.ev S.par 0 l) h (e.v.toNat + 1)) (e.u.toNat + 1) h }
theorem Ls.Ok.linkOk (k : S.Ok) {u v h : Nat} {l lv : List Nat} {e : Ed} (hu : u < S.n) (hv : v < S.n) (eu : e.u = (u : Nat)) (ev' : e.v = (v : Nat)) (hl : Ch S.par (u + 1) l) (hlv : Ch (Li.ev S.par 0 l) (v + 1) lv) (hul : u + 1 ∉ lv) (hh : S.n < h) (hE : S.E h = none)
  (hid : ∀ x e', S.E x = some e' → e'.id ≠ e.id) : (S.link l h e).Ok := by
 have k1 := k.evert ⟨by omega, by omega⟩ hl
 have hV : ¬ S.V h := by
  rintro (⟨_, h1⟩ | h1)
  ·omega
  ·rw [hE] at h1; cases h1
 have p0 : Li.ev S.par 0 l (u + 1) = 0 := by obtain ⟨r, rfl⟩ := hl.head; exact ev_head
 have ph : Li.ev S.par 0 l h = 0 := k1.dd h hV
 have nk := k1.no_kid hV (by omega)
 have nk' : ∀ y, Li.ev S.par 0 l y ≠ h := nk
 have tu : e.u.toNat = u := by omega
 have tv : e.v.toNat = v := by omega
 have huv : u ≠ v := fun e => hul (by rw [e]; exact hlv.mem_self)
 have hlive := k1.live hlv (Ls.vtx (S := S.ev l) hv)
 have hhl : h ∉ lv := fun hm => hV (hlive h hm)
 have hne : h ≠ u + 1 := by omega
 generalize hP1 : Li.ev S.par 0 l = P1 at *
 have a2 : ∀ x y, Adj (setP P1 h (v + 1)) x y ↔ Adj P1 x y ∨ (x = h ∧ y = v + 1) ∨ (x = v + 1 ∧ y = h) := fun x y => adj_setP ph (by omega) (by omega)
 have p2u : setP P1 h (v + 1) (u + 1) = 0 := by rw [setP_ne _ (Ne.symm hne)]; exact p0
 have a3 : ∀ x y, Adj (setP (setP P1 h (v + 1)) (u + 1) h) x y ↔ (Adj P1 x y ∨ (x = h ∧ y = v + 1) ∨ (x = v + 1 ∧ y = h)) ∨ (x = u + 1 ∧ y = h) ∨ (x = h ∧ y = u + 1) := fun x y => by
  rw [adj_setP p2u (by omega) (by omega), a2]
 have nadj : ∀ y, ¬ Adj P1 h y := fun y => by
  rintro (⟨h1, h2⟩ | ⟨h1, h2⟩)
  ·rw [ph] at h1; exact h2 h1.symm
  ·exact nk' y h1
 have epar : (S.link l h e).par = setP (setP P1 h (v + 1)) (u + 1) h := by unfold Ls.link; rw [tu, tv, hP1]
 have eE : (S.link l h e).E = setE S.E h (some e) := rfl
 have en' : (S.link l h e).n = S.n := rfl
 have hV' : ∀ x, (S.link l h e).V x ↔ S.V x ∨ x = h := fun x => by
  unfold Ls.V
  rw [eE, en']
  by_cases ex : x = h
  ·rw [ex, setE_same]; simp
  ·rw [setE_ne _ _ ex]; simp [ex]
 refine ⟨k.n1, k.n64, ?_, fun x e' he => ?_, fun x e' y he => ?_, fun a y h1 h2 h3 => ?_, fun x hx => ?_, fun x hx => ?_, fun x hx => ?_⟩
 ·intro x y a b ha hb hab
  rw [eE] at ha hb
  by_cases ex : x = h
  ·by_cases ey : y = h
   ·rw [ex, ey]
   ·rw [ex, setE_same] at ha
    rw [setE_ne _ _ ey] at hb
    obtain rfl := Option.some.inj ha
    exact absurd hab.symm (hid y b hb)
  ·rw [setE_ne _ _ ex] at ha
   by_cases ey : y = h
   ·rw [ey, setE_same] at hb
    obtain rfl := Option.some.inj hb
    exact absurd hab (hid x a ha)
   ·rw [setE_ne _ _ ey] at hb
    exact k.uq x y a b ha hb hab
 ·rw [eE] at he
  rw [epar]
  by_cases ex : x = h
  ·subst ex
   rw [setE_same] at he
   obtain rfl := Option.some.inj he
   refine ⟨hh, ⟨by omega, ?_⟩, ⟨by omega, ?_⟩, by omega, ?_⟩
   ·show e.u < ((S.n : Nat) : Int); omega
   ·show e.v < ((S.n : Nat) : Int); omega
   ·rw [setP_ne _ hne, setP_same]; omega
  ·rw [setE_ne _ _ ex] at he
   obtain ⟨q1, q2, q3, q4, q5⟩ := k1.en x e' he
   refine ⟨q1, q2, q3, q4, ?_⟩
   have q1' : S.n < x := q1
   rw [setP_ne _ (by omega), setP_ne _ ex]
   have : (S.ev l).par = P1 := hP1
   rw [this] at q5
   exact q5
 ·rw [eE] at he
  rw [epar, a3]
  by_cases ex : x = h
  ·subst ex
   rw [setE_same] at he
   obtain rfl := Option.some.inj he
   rw [tu, tv]
   constructor
   ·rintro ((h1 | ⟨_, h1⟩ | ⟨h1, _⟩) | ⟨h1, _⟩ | ⟨_, h1⟩)
    ·exact absurd h1 (nadj y)
    ·exact .inr h1
    ·omega
    ·omega
    ·exact .inl h1
   ·rintro (h1 | h1)
    ·exact .inr (.inr ⟨rfl, h1⟩)
    ·exact .inl (.inr (.inl ⟨rfl, h1⟩))
  ·rw [setE_ne _ _ ex] at he
   have q := k1.ad x e' y he
   have : (S.ev l).par = P1 := hP1
   rw [this] at q
   have q1 : S.n < x := (k1.en x e' he).1
   rw [← q]
   constructor
   ·rintro ((h1 | ⟨h1, _⟩ | ⟨h1, _⟩) | ⟨h1, _⟩ | ⟨h1, _⟩)
    ·exact h1
    ·exact absurd h1 ex
    ·omega
    ·omega
    ·exact absurd h1 ex
   ·exact fun h1 => .inl (.inl h1)
 ·rw [epar, a3] at h3
  rw [eE]
  have h2' : a ≤ S.n := h2
  rcases h3 with (h3 | ⟨h3, _⟩ | ⟨_, h3⟩) | ⟨_, h3⟩ | ⟨h3, _⟩
  ·have := k1.vx a y h1 h2 (by have e1 : (S.ev l).par = P1 := hP1; rw [e1]; exact h3)
   have this : (S.E y).isSome = true := this
   have hy : y ≠ h := by rintro rfl; rw [hE] at this; cases this
   rw [setE_ne _ _ hy]; exact this
  ·omega
  ·rw [h3, setE_same]; rfl
  ·rw [h3, setE_same]; rfl
  ·omega
 ·rw [epar]
  have step : ∀ x, (∃ m, Ch P1 x m) → ∃ m, Ch (setP (setP P1 h (v + 1)) (u + 1) h) x m := by
   rintro x ⟨m, hm⟩
   obtain ⟨m1, g1, _⟩ := hang_chain (by omega) hlv hhl hm ph
   obtain ⟨mh, gh, g2, g3⟩ := hang_chain (a := h) (p := v + 1) (by omega) hlv hhl (Ch.root ph) ph
   have emh := g3 (by simp)
   obtain ⟨m2, g4, _⟩ := hang_chain (a := u + 1) (p := h) (by omega) gh (by rw [emh]; simp; exact ⟨by omega, hul⟩) g1 p2u
   exact ⟨m2, g4⟩
  refine step x ?_
  rcases (hV' x).1 hx with h1 | h1
  ·have := k1.ac x h1
   have e1 : (S.ev l).par = P1 := hP1
   rw [e1] at this
   exact this
  ·exact ⟨_, .root (by rw [h1]; exact ph)⟩
 ·rw [hV', epar]
  by_cases e1 : x = u + 1
  ·rw [e1, setP_same]; exact .inr (.inr rfl)
  ·rw [setP_ne _ e1]
   by_cases e2 : x = h
   ·rw [e2, setP_same]; exact .inr (.inl (Ls.vtx hv))
   ·rw [setP_ne _ e2]
    rcases (hV' x).1 hx with h1 | h1
    ·have := k1.cl x h1
     have e1 : (S.ev l).par = P1 := hP1
     rw [e1] at this
     exact this.imp id .inl
    ·exact absurd h1 e2
 ·rw [hV', not_or] at hx
  rw [epar, setP_ne _ fun e => hx.1 (by rw [e]; exact Ls.vtx hu), setP_ne _ hx.2]
  have := k1.dd x hx.1
  have e1 : (S.ev l).par = P1 := hP1
  rw [e1] at this
  exact this
theorem Ls.Ok.kid (k : S.Ok) {h : Nat} {e : Ed} (he : S.E h = some e) : ∃ c p, S.par c = h ∧ S.par h = p ∧ c ≠ p ∧ ((c = e.u.toNat + 1 ∧ p = e.v.toNat + 1) ∨ (c = e.v.toNat + 1 ∧ p = e.u.toNat + 1)) ∧ (∀ y, S.par y = h → y = c) := by
 obtain ⟨q1, q2, q3, q4, q5⟩ := k.en h e he
 have hh0 : h ≠ 0 := by omega
 have hV : S.V h := .inr (by rw [he]; rfl)
 have ad := fun y => k.ad h e y he
 have hne : e.u.toNat + 1 ≠ e.v.toNat + 1 := by omega
 have hp := (ad (S.par h)).1 (.inl ⟨rfl, q5⟩)
 have oth : ∀ c, (c = e.u.toNat + 1 ∨ c = e.v.toNat + 1) → c ≠ S.par h → S.par c = h := fun c hc hcp => by
  rcases (ad c).2 hc with h1 | h1
  ·exact absurd h1.1.symm hcp
  ·exact h1.1
 have cyc : S.par (S.par h) ≠ h := fun hc => by
  obtain ⟨m, hm⟩ := k.ac h hV
  have hnd := hm.nodup
  cases hm with
  | root h0 => exact q5 h0
  | step h0 k1 =>
   cases k1 with
   | root h1 => rw [hc] at h1; exact hh0 h1
   | step h1 k2 =>
    rw [hc] at k2
    have := k2.mem_self
    simp only [List.nodup_cons, List.mem_cons, not_or] at hnd
    exact hnd.1.2 this
 have un : ∀ c, c ≠ S.par h → (c = e.u.toNat + 1 ∨ c = e.v.toNat + 1) → ∀ y, S.par y = h → y = c := fun c hcp hc y hy => by
  have h1 := (ad y).1 (.inr ⟨hy, hh0⟩)
  have h2 : y ≠ S.par h := fun e => cyc (by rw [← e]; exact hy)
  rcases hp with hp | hp <;> rcases hc with hc | hc <;> rcases h1 with h1 | h1 <;> omega
 rcases hp with hp | hp
 ·refine ⟨e.v.toNat + 1, S.par h, oth _ (.inr rfl) (by omega), rfl, by omega, .inr ⟨rfl, hp⟩, un _ (by omega) (.inr rfl)⟩
 ·refine ⟨e.u.toNat + 1, S.par h, oth _ (.inl rfl) (by omega), rfl, by omega, .inl ⟨rfl, hp⟩, un _ (by omega) (.inl rfl)⟩
def Ls.cut (S : Ls) (h c : Nat) : Ls := { S with E := setE S.E h none, par := setP (setP S.par h 0) c 0 }
theorem Ls.Ok.cutOk (k : S.Ok) {h c : Nat} {e : Ed} (he : S.E h = some e) (hc : S.par c = h) : (S.cut h c).Ok := by
 obtain ⟨q1, q2, q3, q4, q5⟩ := k.en h e he
 obtain ⟨c', p, c1, c2, c3, c4, c5⟩ := k.kid he
 obtain rfl := c5 c hc
 have hh0 : h ≠ 0 := by omega
 have hch : c ≠ h := by rcases c4 with c4 | c4 <;> omega
 have par' : ∀ x, (S.cut h c).par x = if x = h ∨ x = c then 0 else S.par x := fun x => by
  show setP (setP S.par h 0) c 0 x = _
  unfold setP
  by_cases e1 : x = c
  ·simp [e1]
  ·by_cases e2 : x = h <;> simp [e1, e2]
 have adj : ∀ x y, Adj (S.cut h c).par x y ↔ Adj S.par x y ∧ x ≠ h ∧ y ≠ h := fun x y => by
  have key : ∀ x y, ((S.cut h c).par x = y ∧ y ≠ 0) ↔ (S.par x = y ∧ y ≠ 0) ∧ x ≠ h ∧ y ≠ h := fun x y => by
   rw [par']
   by_cases e1 : x = h ∨ x = c
   ·rw [if_pos e1]
    constructor
    ·rintro ⟨h1, h2⟩; exact absurd h1.symm h2
    ·rintro ⟨⟨h1, h2⟩, h3, h4⟩
     rcases e1 with e1 | e1
     ·exact absurd e1 h3
     ·rw [e1, hc] at h1; exact absurd h1.symm h4
   ·rw [if_neg e1]
    simp only [not_or] at e1
    constructor
    ·rintro ⟨h1, h2⟩
     exact ⟨⟨h1, h2⟩, e1.1, fun h3 => e1.2 (c5 x (by rw [h1, h3]))⟩
    ·rintro ⟨h1, _⟩; exact h1
  unfold Adj
  rw [key x y, key y x]
  constructor
  ·rintro (⟨h1, h2, h3⟩ | ⟨h1, h2, h3⟩)
   ·exact ⟨.inl h1, h2, h3⟩
   ·exact ⟨.inr h1, h3, h2⟩
  ·rintro ⟨h1 | h1, h2, h3⟩
   ·exact .inl ⟨h1, h2, h3⟩
   ·exact .inr ⟨h1, h3, h2⟩
 have hV' : ∀ x, (S.cut h c).V x ↔ S.V x ∧ x ≠ h := fun x => by
  unfold Ls.V
  show (1 ≤ x ∧ x ≤ S.n) ∨ (setE S.E h none x).isSome = true ↔ _
  by_cases ex : x = h
  ·rw [ex, setE_same]; simp; omega
  ·rw [setE_ne _ _ ex]; simp [ex]
 have some' : ∀ x e', (S.cut h c).E x = some e' → x ≠ h ∧ S.E x = some e' := fun x e' hx => by
  have hx : setE S.E h none x = some e' := hx
  by_cases ex : x = h
  ·rw [ex, setE_same] at hx; cases hx
  ·rw [setE_ne _ _ ex] at hx; exact ⟨ex, hx⟩
 refine ⟨k.n1, k.n64, ?_, fun x e' hx => ?_, fun x e' y hx => ?_, fun a y h1 h2 h3 => ?_, fun x hx => ?_, fun x hx => ?_, fun x hx => ?_⟩
 ·intro x y a b ha hb
  exact k.uq x y a b (some' x a ha).2 (some' y b hb).2
 ·obtain ⟨ex, hx⟩ := some' x e' hx
  obtain ⟨r1, r2, r3, r4, r5⟩ := k.en x e' hx
  refine ⟨r1, r2, r3, r4, ?_⟩
  rw [par', if_neg]
  ·exact r5
  ·rintro (h1 | h1)
   ·exact ex h1
   ·rcases c4 with c4 | c4 <;> omega
 ·obtain ⟨ex, hx⟩ := some' x e' hx
  rw [adj, k.ad x e' y hx]
  have r1 := k.en x e' hx
  constructor
  ·exact fun h => h.1
  ·exact fun h => ⟨h, ex, by rcases h with h | h <;> omega⟩
 ·rw [adj] at h3
  have := k.vx a y h1 h2 h3.1
  show (setE S.E h none y).isSome = true
  rw [setE_ne _ _ h3.2.2]
  exact this
 ·obtain ⟨m, hm⟩ := k.ac x ((hV' x).1 hx).1
  obtain ⟨m1, g1, _⟩ := cut_chain (a := h) hm
  obtain ⟨m2, g2, _⟩ := cut_chain (a := c) g1
  exact ⟨m2, g2⟩
 ·rw [hV', par']
  by_cases e1 : x = h ∨ x = c
  ·rw [if_pos e1]; exact .inl rfl
  ·rw [if_neg e1]
   simp only [not_or] at e1
   rcases k.cl x ((hV' x).1 hx).1 with h1 | h1
   ·exact .inl h1
   ·exact .inr ⟨h1, fun h2 => e1.2 (c5 x h2)⟩
 ·rw [par']
  split
  ·rfl
  ·rename_i h1
   simp only [not_or] at h1
   exact k.dd x fun hV => hx ((hV' x).2 ⟨hV, h1.1⟩)
end
end Go.Li
namespace Go.Proofs.Ytoplhfhjokjbiaa
open Go Go.Hp Go.Li
set_option linter.all false
set_option maxRecDepth 100000
set_option maxHeartbeats 1600000
def natV (h : Nat) : Value := .int .i64 h
@[go_sem] theorem mapT_ids : mapT Try.prog 64 = some (3, .int .i64 0) := by kernel_rfl
theorem kInt : KeyT Try.prog 3 intK := by
 obtain ⟨tk, h1, h2, _⟩ := tabI
 exact keyInt h1 h2
def inB (n : Nat) (x : Int) : Bool := decide (0 ≤ x) && decide (x < n)
theorem inB_nat {n : Nat} {x : Int} (h : inB n x = true) : ∃ v : Nat, x = (v : Int) ∧ v < n := by
 unfold inB at h
 simp only [Bool.and_eq_true, decide_eq_true_iff] at h
 exact ⟨x.toNat, by omega, by omega⟩
theorem inB_of {n v : Nat} (h : v < n) : inB n (v : Int) = true := by unfold inB; simp; omega
structure LtAt (H : Heap) (t g c len r : Nat) (Bf : Option Nat) (vf : Value) (S : Ls) (N : Nodes) (rows : List (List Nat)) (ids : Int → Option Nat) (fr : List Nat) : Prop where
 hd : Blk H t [.int .i64 S.n, .slice (some ⟨g, 0, none⟩) len c, .map (some r), vf]
 na : NA H t g c len N
 mp : ∃ k, MapF intK natV H r ids k
 fri : IR H Bf vf (natsI fr)
 ap : t ≠ r ∧ g ≠ r ∧ Bf ≠ some t ∧ Bf ≠ some g ∧ Bf ≠ some r
 ok : S.Ok
 lc : LC N S.E S.par rows S.V
 id : ∀ i h, ids i = some h ↔ ∃ e, S.E h = some e ∧ e.id = i
 free : ∀ h ∈ fr, S.n < h ∧ h < len ∧ S.E h = none
 frn : fr.Nodup
 all : ∀ h, S.n < h → h < len → (S.E h).isSome = true ∨ h ∈ fr
 lt : ∀ h, S.V h → h < len
 ln : len ≤ 130
def LtM (H : Heap) (t : Nat) (T : Nat → Prop) (S : Ls) : Prop :=
 ∃ g c len r Bf vf N rows ids fr, LtAt H t g c len r Bf vf S N rows ids fr ∧ ∀ b, T b ↔ (b = t ∨ b = g ∨ b = r ∨ Bf = some b)
section
variable {H H' : Heap} {t g c len r : Nat} {Bf : Option Nat} {vf : Value} {S : Ls} {N N' : Nodes} {rows rows' : List (List Nat)} {ids : Int → Option Nat} {fr : List Nat} {T : Nat → Prop} {K : Value → Heap → Prop}
theorem LtAt.frame {T0 : Nat → Prop} (h : LtAt H t g c len r Bf vf S N rows ids fr) (hf : Fr T0 H H') (hT : ∀ b, (b = t ∨ b = g ∨ b = r ∨ Bf = some b) → ¬ T0 b) : LtAt H' t g c len r Bf vf S N rows ids fr where
 hd := h.hd.frame hf (hT _ (.inl rfl))
 na := h.na.frame hf (hT _ (.inl rfl)) (hT _ (.inr (.inl rfl)))
 mp := ⟨_, h.mp.choose_spec.frame hf (hT _ (.inr (.inr (.inl rfl))))⟩
 fri := h.fri.frame hf fun b hb => hT _ (.inr (.inr (.inr hb)))
 ap := h.ap
 ok := h.ok
 lc := h.lc
 id := h.id
 free := h.free
 frn := h.frn
 all := h.all
 lt := h.lt
 ln := h.ln
theorem LtAt.grow (h : LtAt H t g c len r Bf vf S N rows ids fr) (hf : Fr (fun _ => False) H H') : LtAt H' t g c len r Bf vf S N rows ids fr := h.frame hf fun _ _ h => h
theorem LtAt.upd (h : LtAt H t g c len r Bf vf S N rows ids fr) {p : Par} (hN : NA H' t g c len N') (hL : LC N' S.E p rows' S.V) (hk : Ls.Ok { S with par := p }) (hf : Fr (· = g) H H') : LtAt H' t g c len r Bf vf { S with par := p } N' rows' ids fr where
 hd := h.hd.frame hf h.na.ne
 na := hN
 mp := ⟨_, h.mp.choose_spec.frame hf (Ne.symm h.ap.2.1)⟩
 fri := IR.frame h.fri hf fun b hb (e : b = g) => h.ap.2.2.2.1 (by rw [hb, e])
 ap := h.ap
 ok := hk
 lc := hL
 id := h.id
 free := h.free
 frn := h.frn
 all := h.all
 lt := h.lt
 ln := h.ln
theorem LtAt.keep (h : LtAt H t g c len r Bf vf S N rows ids fr) (hN : NA H' t g c len N') (hL : LC N' S.E S.par rows' S.V) (hf : Fr (· = g) H H') : LtAt H' t g c len r Bf vf S N' rows' ids fr := h.upd hN hL h.ok hf
theorem LtAt.m (h : LtAt H t g c len r Bf vf S N rows ids fr) : LtM H t (fun b => b = t ∨ b = g ∨ b = r ∨ Bf = some b) S := ⟨g, c, len, r, Bf, vf, N, rows, ids, fr, h, fun b => Iff.rfl⟩
theorem LtAt.mT (h : LtAt H t g c len r Bf vf S N rows ids fr) (hT : ∀ b, T b ↔ (b = t ∨ b = g ∨ b = r ∨ Bf = some b)) : LtM H t T S := ⟨g, c, len, r, Bf, vf, N, rows, ids, fr, h, hT⟩
theorem LtM.frame {T0 : Nat → Prop} (h : LtM H t T S) (hf : Fr T0 H H') (hT : ∀ b, T b → ¬ T0 b) : LtM H' t T S := by
 obtain ⟨g, c, len, r, Bf, vf, N, rows, ids, fr, h, e⟩ := h
 exact ⟨g, c, len, r, Bf, vf, N, rows, ids, fr, h.frame hf fun b hb => hT b ((e b).2 hb), e⟩
theorem LtM.grow (h : LtM H t T S) (hf : Fr (fun _ => False) H H') : LtM H' t T S := h.frame hf fun _ _ h => h
theorem LtM.ok (h : LtM H t T S) : S.Ok := by
 obtain ⟨g, c, len, r, Bf, vf, N, rows, ids, fr, h, e⟩ := h
 exact h.ok
theorem LtAt.below (h : LtAt H t g c len r Bf vf S N rows ids fr) : ∀ b, (b = t ∨ b = g ∨ b = r ∨ Bf = some b) → b < H.size := by
 rintro b (rfl | rfl | rfl | hb)
 ·exact h.hd.lt
 ·exact h.na.lt.2
 ·exact h.mp.choose_spec.lt
 ·exact h.fri.lt hb
theorem LtM.below (h : LtM H t T S) : ∀ b, T b → b < H.size := by
 obtain ⟨g, c, len, r, Bf, vf, N, rows, ids, fr, h, e⟩ := h
 exact fun b hb => h.below b ((e b).1 hb)
theorem LtM.self (h : LtM H t T S) : T t := by
 obtain ⟨g, c, len, r, Bf, vf, N, rows, ids, fr, h, e⟩ := h
 exact (e t).2 (.inl rfl)
theorem has1_ok {q : Nat} {n : Nat} {x : Int} (hq : hcell H ⟨q, 0, none⟩ = some (.pointer (some ⟨t, 0, none⟩))) (hn : hcell H ⟨t, 0, none⟩ = some (.int .i64 (n : Nat))) (fin : K (.bool (!inB n x)) H) :
  CallsH Try.prog 42 #[.int .i64 x, .pointer (some ⟨q, 0, none⟩)] H K := by
 unfold inB at fin
 refine call42 (by simp) ?_
 simp only [Try.f42, Option.getD_some]
 by_cases h0 : x < 0
 ·have t1 : (x < 0) = True := by simp [h0]
  have t2 : decide (0 ≤ x) = false := by simp; omega
  rw [t2] at fin
  repeat' (first|(with_reducible first|refine jA ?_|(refine hK _ _ ?_;clear hK K)|refine jJ fun K hK=>?_|refine jK ?_|refine jL ?_|refine jM ?_|refine jN ?_|refine jO ?_|refine jP ?_|refine jQ ?_|(refine jB ?_;clear hK K)|(refine jC ?_;clear hK K)|refine jD ?_|refine jE ?_|refine jG ?_|refine jH ?_|refine jI ?_)|((with_reducible refine jR ?hq ?_);case hq=>rfl)|((first|(with_reducible first|refine jS fun K hK=>?_|refine jT ?_|refine jU ?_)|((with_reducible refine jV ?hy fun K hK=>?_);case hy=>rfl));simp only [go_sem, Nat.reduceEqDiff, Nat.reduceAdd, Nat.reduceMul, Nat.reduceLeDiff, Nat.reduceLT, Int.reduceLT, Int.reduceLE, Int.reduceEq, Int.reduceNeg, Int.reduceToNat, Nat.reducePow, reduceIte, reduceCtorEq, t1])|((with_reducible first|refine jW ?hy ?_|refine jY ?hy ?_);case hy=>rfl)|((with_reducible first|refine jX ?hy ?_|refine jZ ?hy ?_);case hy=>rfl)|((with_reducible refine jF ?hy ?_);case hy=>decide))
  exact fin
 ·have t1 : (x < 0) = False := by simp [h0]
  have t2 : decide (0 ≤ x) = true := by simp; omega
  rw [t2] at fin
  by_cases h1 : (n : Int) ≤ x
  ·have t3 : ((n : Int) ≤ x) = True := by simp [h1]
   have t4 : decide (x < (n : Int)) = false := by simp; omega
   rw [t4] at fin
   repeat' (first|(with_reducible first|refine jA ?_|(refine hK _ _ ?_;clear hK K)|refine jJ fun K hK=>?_|refine jK ?_|refine jL ?_|refine jM ?_|refine jN ?_|refine jO ?_|refine jP ?_|refine jQ ?_|(refine jB ?_;clear hK K)|(refine jC ?_;clear hK K)|refine jD ?_|refine jE ?_|refine jG ?_|refine jH ?_|refine jI ?_)|((with_reducible refine jR ?hq ?_);case hq=>rfl)|((first|(with_reducible first|refine jS fun K hK=>?_|refine jT ?_|refine jU ?_)|((with_reducible refine jV ?hy fun K hK=>?_);case hy=>rfl));simp only [go_sem, Nat.reduceEqDiff, Nat.reduceAdd, Nat.reduceMul, Nat.reduceLeDiff, Nat.reduceLT, Int.reduceLT, Int.reduceLE, Int.reduceEq, Int.reduceNeg, Int.reduceToNat, Nat.reducePow, reduceIte, reduceCtorEq, t1, hq, hn, t3])|((with_reducible first|refine jW ?hy ?_|refine jY ?hy ?_);case hy=>rfl)|((with_reducible first|refine jX ?hy ?_|refine jZ ?hy ?_);case hy=>rfl)|((with_reducible refine jF ?hy ?_);case hy=>decide))
   exact fin
  ·have t3 : ((n : Int) ≤ x) = False := by simp [h1]
   have t4 : decide (x < (n : Int)) = true := by simp; omega
   rw [t4] at fin
   repeat' (first|(with_reducible first|refine jA ?_|(refine hK _ _ ?_;clear hK K)|refine jJ fun K hK=>?_|refine jK ?_|refine jL ?_|refine jM ?_|refine jN ?_|refine jO ?_|refine jP ?_|refine jQ ?_|(refine jB ?_;clear hK K)|(refine jC ?_;clear hK K)|refine jD ?_|refine jE ?_|refine jG ?_|refine jH ?_|refine jI ?_)|((with_reducible refine jR ?hq ?_);case hq=>rfl)|((first|(with_reducible first|refine jS fun K hK=>?_|refine jT ?_|refine jU ?_)|((with_reducible refine jV ?hy fun K hK=>?_);case hy=>rfl));simp only [go_sem, Nat.reduceEqDiff, Nat.reduceAdd, Nat.reduceMul, Nat.reduceLeDiff, Nat.reduceLT, Int.reduceLT, Int.reduceLE, Int.reduceEq, Int.reduceNeg, Int.reduceToNat, Nat.reducePow, reduceIte, reduceCtorEq, t1, hq, hn, t3])|((with_reducible first|refine jW ?hy ?_|refine jY ?hy ?_);case hy=>rfl)|((with_reducible first|refine jX ?hy ?_|refine jZ ?hy ?_);case hy=>rfl)|((with_reducible refine jF ?hy ?_);case hy=>decide))
   exact fin
theorem has_ok {b cap : Nat} {n : Nat} {xs : List Int} (hn : hcell H ⟨t, 0, none⟩ = some (.int .i64 (n : Nat))) (hx : ∀ i x, xs[i]? = some x → hcell H ⟨b, i, none⟩ = some (.int .i64 x)) (hl : xs.length < 1000) (fin : ∀ H', Fr (fun _ => False) H H' → K (.bool (xs.all (inB n))) H') :
  CallsH Try.prog 25 #[.pointer (some ⟨t, 0, none⟩), .slice (some ⟨b, 0, none⟩) xs.length cap] H K := by
 refine call25 (by simp) ?_
 simp only [Try.f25, Option.getD_some]
 repeat' (first|(with_reducible first|refine jA ?_|(refine hK _ _ ?_;clear hK K)|refine jJ fun K hK=>?_|refine jK ?_|refine jL ?_|refine jM ?_|refine jN ?_|refine jO ?_|refine jP ?_|refine jQ ?_|(refine jB ?_;clear hK K)|(refine jC ?_;clear hK K)|refine jD ?_|refine jE ?_|refine jG ?_|refine jH ?_|refine jI ?_)|((with_reducible refine jR ?hq ?_);case hq=>rfl)|((first|(with_reducible first|refine jS fun K hK=>?_|refine jT ?_|refine jU ?_)|((with_reducible refine jV ?hy fun K hK=>?_);case hy=>rfl));simp only [go_sem, Nat.reduceEqDiff, Nat.reduceAdd, Nat.reduceMul, Nat.reduceLeDiff, Nat.reduceLT, Int.reduceLT, Int.reduceLE, Int.reduceEq, Int.reduceNeg, Int.reduceToNat, Nat.reducePow, reduceIte, reduceCtorEq])|((with_reducible first|refine jW ?hy ?_|refine jY ?hy ?_);case hy=>rfl)|((with_reducible first|refine jX ?hy ?_|refine jZ ?hy ?_);case hy=>rfl)|((with_reducible refine jF ?hy ?_);case hy=>decide))
 generalize eH1 : H.push _ = H1
 have f1 : Fr (fun _ => False) H H1 := by rw [← eH1]; exact (Fr.refl _ _).push _
 have q1 : hcell H1 ⟨H.size, 0, none⟩ = some (.pointer (some ⟨t, 0, none⟩)) := by rw [← eH1]; exact (Blk.new H [.pointer (some ⟨t, 0, none⟩)] _).cellOf rfl
 have n1 : hcell H1 ⟨t, 0, none⟩ = some (.int .i64 (n : Nat)) := by rw [f1.cell (hcell_lt hn) (fun h => h)]; exact hn
 have x1 : ∀ i x, xs[i]? = some x → hcell H1 ⟨b, i, none⟩ = some (.int .i64 x) := fun i x hi => by rw [f1.cell (hcell_lt (hx i x hi)) (fun h => h)]; exact hx i x hi
 have fin' := fin H1 f1
 generalize H.size = q at q1
 clear eH1 f1 fin hn hx
 refine call41 (by simp) ?_
 simp only [Try.f41, Option.getD_some]
 repeat' (first|(with_reducible first|refine jA ?_|(refine hK _ _ ?_;clear hK K)|refine jJ fun K hK=>?_|refine jK ?_|refine jL ?_|refine jM ?_|refine jN ?_|refine jO ?_|refine jP ?_|refine jQ ?_|(refine jB ?_;clear hK K)|(refine jC ?_;clear hK K)|refine jD ?_|refine jE ?_|refine jG ?_|refine jH ?_|refine jI ?_)|((with_reducible refine jR ?hq ?_);case hq=>rfl)|((first|(with_reducible first|refine jS fun K hK=>?_|refine jT ?_|refine jU ?_)|((with_reducible refine jV ?hy fun K hK=>?_);case hy=>rfl));simp only [go_sem, Nat.reduceEqDiff, Nat.reduceAdd, Nat.reduceMul, Nat.reduceLeDiff, Nat.reduceLT, Int.reduceLT, Int.reduceLE, Int.reduceEq, Int.reduceNeg, Int.reduceToNat, Nat.reducePow, reduceIte, reduceCtorEq])|((with_reducible first|refine jW ?hy ?_|refine jY ?hy ?_);case hy=>rfl)|((with_reducible first|refine jX ?hy ?_|refine jZ ?hy ?_);case hy=>rfl)|((with_reducible refine jF ?hy ?_);case hy=>decide))
 refine call54 (by simp) ?_
 simp only [Try.f54, Option.getD_some]
 repeat' (first|(with_reducible first|refine jA ?_|(refine hK _ _ ?_;clear hK K)|refine jJ fun K hK=>?_|refine jK ?_|refine jL ?_|refine jM ?_|refine jN ?_|refine jO ?_|refine jP ?_|refine jQ ?_|(refine jB ?_;clear hK K)|(refine jC ?_;clear hK K)|refine jD ?_|refine jE ?_|refine jG ?_|refine jH ?_|refine jI ?_)|((with_reducible refine jR ?hq ?_);case hq=>rfl)|((first|(with_reducible first|refine jS fun K hK=>?_|refine jT ?_|refine jU ?_)|((with_reducible refine jV ?hy fun K hK=>?_);case hy=>rfl));simp only [go_sem, Nat.reduceEqDiff, Nat.reduceAdd, Nat.reduceMul, Nat.reduceLeDiff, Nat.reduceLT, Int.reduceLT, Int.reduceLE, Int.reduceEq, Int.reduceNeg, Int.reduceToNat, Nat.reducePow, reduceIte, reduceCtorEq])|((with_reducible first|refine jW ?hy ?_|refine jY ?hy ?_);case hy=>rfl)|((with_reducible first|refine jX ?hy ?_|refine jZ ?hy ?_);case hy=>rfl)|((with_reducible refine jF ?hy ?_);case hy=>decide))
 refine x_loop (fun m e' H' => ∃ i : Nat, H' = H1 ∧ e' 8 = .int .i64 (i : Nat) ∧ i ≤ xs.length ∧ (∀ j x, j < i → xs[j]? = some x → inB n x = true) ∧ m = xs.length - i) xs.length ⟨0, rfl, rfl, Nat.zero_le _, fun j x h => (by omega), rfl⟩ ?_
 rintro m e1 H2 ⟨i, rfl, i8, hi, hall, rfl⟩ hoff
 have i0 : e1 0 = .slice (some ⟨b, 0, none⟩) xs.length cap := (hoff 0 rfl).trans rfl
 have i1 : e1 1 = .func (.func 42) #[] #[.pointer (some ⟨q, 0, none⟩)] := (hoff 1 rfl).trans rfl
 have i7 : e1 7 = .int .i64 (xs.length : Nat) := (hoff 7 rfl).trans rfl
 clear hoff
 by_cases hlt : i < xs.length
 ·obtain ⟨x, hxi⟩ : ∃ x, xs[i]? = some x := ⟨_, List.getElem?_eq_getElem hlt⟩
  have cx := x1 i x hxi
  have ew : IntKind.i64.wrap ((i : Int) + 1) = ((i + 1 : Nat) : Int) := by rw [wrap_i64] <;> omega
  repeat' (first|(with_reducible first|refine jA ?_|(refine hK _ _ ?_;clear hK K)|refine jJ fun K hK=>?_|refine jK ?_|refine jL ?_|refine jM ?_|refine jN ?_|refine jO ?_|refine jP ?_|refine jQ ?_|(refine jB ?_;clear hK K)|(refine jC ?_;clear hK K)|refine jD ?_|refine jE ?_|refine jG ?_|refine jH ?_|refine jI ?_)|((with_reducible refine jR ?hq ?_);case hq=>rfl)|((first|(with_reducible first|refine jS fun K hK=>?_|refine jT ?_|refine jU ?_)|((with_reducible refine jV ?hy fun K hK=>?_);case hy=>rfl));simp only [go_sem, Nat.reduceEqDiff, Nat.reduceAdd, Nat.reduceMul, Nat.reduceLeDiff, Nat.reduceLT, Int.reduceLT, Int.reduceLE, Int.reduceEq, Int.reduceNeg, Int.reduceToNat, Nat.reducePow, reduceIte, reduceCtorEq, i0, i1, i7, i8, hlt, cx])|((with_reducible first|refine jW ?hy ?_|refine jY ?hy ?_);case hy=>rfl)|((with_reducible first|refine jX ?hy ?_|refine jZ ?hy ?_);case hy=>rfl)|((with_reducible refine jF ?hy ?_);case hy=>decide))
  refine has1_ok q1 n1 ?_
  cases hb : inB n x with
  | false =>
   have e : xs.all (inB n) = false := by
    rw [List.all_eq_false]
    exact ⟨x, List.mem_of_getElem? hxi, by simp [hb]⟩
   rw [e] at fin'
   have t1 : ((0 : Int) ≤ (i : Nat)) = True := by simp
   repeat' (first|(with_reducible first|refine jA ?_|(refine hK _ _ ?_;clear hK K)|refine jJ fun K hK=>?_|refine jK ?_|refine jL ?_|refine jM ?_|refine jN ?_|refine jO ?_|refine jP ?_|refine jQ ?_|(refine jB ?_;clear hK K)|(refine jC ?_;clear hK K)|refine jD ?_|refine jE ?_|refine jG ?_|refine jH ?_|refine jI ?_)|((with_reducible refine jR ?hq ?_);case hq=>rfl)|((first|(with_reducible first|refine jS fun K hK=>?_|refine jT ?_|refine jU ?_)|((with_reducible refine jV ?hy fun K hK=>?_);case hy=>rfl));simp only [go_sem, Nat.reduceEqDiff, Nat.reduceAdd, Nat.reduceMul, Nat.reduceLeDiff, Nat.reduceLT, Int.reduceLT, Int.reduceLE, Int.reduceEq, Int.reduceNeg, Int.reduceToNat, Nat.reducePow, reduceIte, reduceCtorEq, i8, t1])|((with_reducible first|refine jW ?hy ?_|refine jY ?hy ?_);case hy=>rfl)|((with_reducible first|refine jX ?hy ?_|refine jZ ?hy ?_);case hy=>rfl)|((with_reducible refine jF ?hy ?_);case hy=>decide))
   exact fin'
  | true =>
   repeat' (first|(with_reducible first|refine jA ?_|(refine hK _ _ ?_;clear hK K)|refine jJ fun K hK=>?_|refine jK ?_|refine jL ?_|refine jM ?_|refine jN ?_|refine jO ?_|refine jP ?_|refine jQ ?_|(refine jB ?_;clear hK K)|(refine jC ?_;clear hK K)|refine jD ?_|refine jE ?_|refine jG ?_|refine jH ?_|refine jI ?_)|((with_reducible refine jR ?hq ?_);case hq=>rfl)|((first|(with_reducible first|refine jS fun K hK=>?_|refine jT ?_|refine jU ?_)|((with_reducible refine jV ?hy fun K hK=>?_);case hy=>rfl));simp only [go_sem, Nat.reduceEqDiff, Nat.reduceAdd, Nat.reduceMul, Nat.reduceLeDiff, Nat.reduceLT, Int.reduceLT, Int.reduceLE, Int.reduceEq, Int.reduceNeg, Int.reduceToNat, Nat.reducePow, reduceIte, reduceCtorEq, i8, ew])|((with_reducible first|refine jW ?hy ?_|refine jY ?hy ?_);case hy=>rfl)|((with_reducible first|refine jX ?hy ?_|refine jZ ?hy ?_);case hy=>rfl)|((with_reducible refine jF ?hy ?_);case hy=>decide))
   refine loop_normal (m' := xs.length - (i + 1)) (by omega) ⟨i + 1, rfl, rfl, hlt, fun j y hj hy => ?_, rfl⟩
   rcases Nat.lt_succ_iff_lt_or_eq.1 hj with hj | rfl
   ·exact hall j y hj hy
   ·rw [hxi] at hy
    obtain rfl := Option.some.inj hy
    exact hb
 ·have t1 : (i < xs.length) = False := by simp [hlt]
  have e : xs.all (inB n) = true := by
   rw [List.all_eq_true]
   intro x hx'
   obtain ⟨j, hj, rfl⟩ := List.mem_iff_getElem.1 hx'
   exact hall j _ (by omega) (List.getElem?_eq_getElem hj)
  rw [e] at fin'
  have t2 : ((0 : Int) ≤ -1) = False := by simp
  repeat' (first|(with_reducible first|refine jA ?_|(refine hK _ _ ?_;clear hK K)|refine jJ fun K hK=>?_|refine jK ?_|refine jL ?_|refine jM ?_|refine jN ?_|refine jO ?_|refine jP ?_|refine jQ ?_|(refine jB ?_;clear hK K)|(refine jC ?_;clear hK K)|refine jD ?_|refine jE ?_|refine jG ?_|refine jH ?_|refine jI ?_)|((with_reducible refine jR ?hq ?_);case hq=>rfl)|((first|(with_reducible first|refine jS fun K hK=>?_|refine jT ?_|refine jU ?_)|((with_reducible refine jV ?hy fun K hK=>?_);case hy=>rfl));simp only [go_sem, Nat.reduceEqDiff, Nat.reduceAdd, Nat.reduceMul, Nat.reduceLeDiff, Nat.reduceLT, Int.reduceLT, Int.reduceLE, Int.reduceEq, Int.reduceNeg, Int.reduceToNat, Nat.reducePow, reduceIte, reduceCtorEq, i7, i8, t1, t2])|((with_reducible first|refine jW ?hy ?_|refine jY ?hy ?_);case hy=>rfl)|((with_reducible first|refine jX ?hy ?_|refine jZ ?hy ?_);case hy=>rfl)|((with_reducible refine jF ?hy ?_);case hy=>decide))
  exact fin'
theorem hasA1 {u : Int} {T0 : TypeId} (h : LtAt H t g c len r Bf vf S N rows ids fr) (fin : ∀ H', LtAt H' t g c len r Bf vf S N rows ids fr → Fr (fun _ => False) H H' → K (.bool (inB S.n u)) H') :
  CallsH Try.prog 25 #[.pointer (some ⟨t, 0, none⟩), .slice (some ⟨H.size, 0, none⟩) 1 1] (H.push (.cells #[.int .i64 u] T0)) K := by
 have hf : Fr (fun _ => False) H (H.push (.cells #[.int .i64 u] T0)) := (Fr.refl _ _).push _
 have h' := h.grow hf
 have bn := Blk.new H [.int .i64 u] T0
 refine has_ok (xs := [u]) (h'.hd.cellOf (i := 0) rfl) (fun i x hi => ?_) (by simp) fun H2 hf2 => ?_
 ·rw [bn.cell]
  cases i with
  | zero => simp at hi; subst hi; rfl
  | succ i => simp at hi
 ·have := fin _ (h'.grow hf2) (hf.trans hf2)
  simpa using this
theorem hasA2 {u v : Int} {T0 : TypeId} (h : LtAt H t g c len r Bf vf S N rows ids fr) (fin : ∀ H', LtAt H' t g c len r Bf vf S N rows ids fr → Fr (fun _ => False) H H' → K (.bool (inB S.n u && inB S.n v)) H') :
  CallsH Try.prog 25 #[.pointer (some ⟨t, 0, none⟩), .slice (some ⟨H.size, 0, none⟩) 2 2] (H.push (.cells #[.int .i64 u, .int .i64 v] T0)) K := by
 have hf : Fr (fun _ => False) H (H.push (.cells #[.int .i64 u, .int .i64 v] T0)) := (Fr.refl _ _).push _
 have h' := h.grow hf
 have bn := Blk.new H [.int .i64 u, .int .i64 v] T0
 refine has_ok (xs := [u, v]) (h'.hd.cellOf (i := 0) rfl) (fun i x hi => ?_) (by simp) fun H2 hf2 => ?_
 ·rw [bn.cell]
  rcases i with _ | _ | i
  ·simp at hi; subst hi; rfl
  ·simp at hi; subst hi; rfl
  ·simp at hi
 ·have := fin _ (h'.grow hf2) (hf.trans hf2)
  simpa using this
def Fg (T : Nat → Prop) (g : Nat) (H H' : Heap) : Prop := T g → Fr (· = g) H H' → Fr T H H'
theorem fr_g {H H' : Heap} (hT : T g) (hf : Fr (· = g) H H') : Fr T H H' := hf.mono fun b _ e => by rw [e]; exact hT
theorem m_evert {v : Nat} {l : List Nat} (h : LtM H t T S) (hv : v < S.n) (hl : Ch S.par (v + 1) l) (fin : ∀ H', LtM H' t T (S.ev l) → Fr T H H' → K (.int .i64 0) H') :
  CallsH Try.prog 17 #[.pointer (some ⟨t, 0, none⟩), .int .i64 (v : Nat)] H K := by
 obtain ⟨g, c, len, r, Bf, vf, N, rows, ids, fr, h, e⟩ := h
 have hn := h.ok.n64
 have ew : IntKind.i64.wrap ((v : Int) + 1) = ((v + 1 : Nat) : Int) := by rw [wrap_i64] <;> omega
 refine call17 (by simp) ?_
 simp only [Try.f17, Option.getD_some]
 repeat' (first|(with_reducible first|refine jA ?_|(refine hK _ _ ?_;clear hK K)|refine jJ fun K hK=>?_|refine jK ?_|refine jL ?_|refine jM ?_|refine jN ?_|refine jO ?_|refine jP ?_|refine jQ ?_|(refine jB ?_;clear hK K)|(refine jC ?_;clear hK K)|refine jD ?_|refine jE ?_|refine jG ?_|refine jH ?_|refine jI ?_)|((with_reducible refine jR ?hq ?_);case hq=>rfl)|((first|(with_reducible first|refine jS fun K hK=>?_|refine jT ?_|refine jU ?_)|((with_reducible refine jV ?hy fun K hK=>?_);case hy=>rfl));simp only [go_sem, Nat.reduceEqDiff, Nat.reduceAdd, Nat.reduceMul, Nat.reduceLeDiff, Nat.reduceLT, Int.reduceLT, Int.reduceLE, Int.reduceEq, Int.reduceNeg, Int.reduceToNat, Nat.reducePow, reduceIte, reduceCtorEq])|((with_reducible first|refine jW ?hy ?_|refine jY ?hy ?_);case hy=>rfl)|((with_reducible first|refine jX ?hy ?_|refine jZ ?hy ?_);case hy=>rfl)|((with_reducible refine jF ?hy ?_);case hy=>decide))
 refine hasA1 h fun H1 h1 hf1 => ?_
 rw [inB_of hv]
 repeat' (first|(with_reducible first|refine jA ?_|(refine hK _ _ ?_;clear hK K)|refine jJ fun K hK=>?_|refine jK ?_|refine jL ?_|refine jM ?_|refine jN ?_|refine jO ?_|refine jP ?_|refine jQ ?_|(refine jB ?_;clear hK K)|(refine jC ?_;clear hK K)|refine jD ?_|refine jE ?_|refine jG ?_|refine jH ?_|refine jI ?_)|((with_reducible refine jR ?hq ?_);case hq=>rfl)|((first|(with_reducible first|refine jS fun K hK=>?_|refine jT ?_|refine jU ?_)|((with_reducible refine jV ?hy fun K hK=>?_);case hy=>rfl));simp only [go_sem, Nat.reduceEqDiff, Nat.reduceAdd, Nat.reduceMul, Nat.reduceLeDiff, Nat.reduceLT, Int.reduceLT, Int.reduceLE, Int.reduceEq, Int.reduceNeg, Int.reduceToNat, Nat.reducePow, reduceIte, reduceCtorEq, ew])|((with_reducible first|refine jW ?hy ?_|refine jY ?hy ?_);case hy=>rfl)|((with_reducible first|refine jX ?hy ?_|refine jZ ?hy ?_);case hy=>rfl)|((with_reducible refine jF ?hy ?_);case hy=>decide))
 refine evert_ok h1.na h1.lc h1.lt (Ls.vtx hv) hl fun H2 N2 R2 b hN2 hL2 _ _ hf2 => ?_
 repeat' (first|(with_reducible first|refine jA ?_|(refine hK _ _ ?_;clear hK K)|refine jJ fun K hK=>?_|refine jK ?_|refine jL ?_|refine jM ?_|refine jN ?_|refine jO ?_|refine jP ?_|refine jQ ?_|(refine jB ?_;clear hK K)|(refine jC ?_;clear hK K)|refine jD ?_|refine jE ?_|refine jG ?_|refine jH ?_|refine jI ?_)|((with_reducible refine jR ?hq ?_);case hq=>rfl)|((first|(with_reducible first|refine jS fun K hK=>?_|refine jT ?_|refine jU ?_)|((with_reducible refine jV ?hy fun K hK=>?_);case hy=>rfl));simp only [go_sem, Nat.reduceEqDiff, Nat.reduceAdd, Nat.reduceMul, Nat.reduceLeDiff, Nat.reduceLT, Int.reduceLT, Int.reduceLE, Int.reduceEq, Int.reduceNeg, Int.reduceToNat, Nat.reducePow, reduceIte, reduceCtorEq])|((with_reducible first|refine jW ?hy ?_|refine jY ?hy ?_);case hy=>rfl)|((with_reducible first|refine jX ?hy ?_|refine jZ ?hy ?_);case hy=>rfl)|((with_reducible refine jF ?hy ?_);case hy=>decide))
 exact fin _ ((h1.upd hN2 hL2 (h.ok.evert ⟨by omega, by omega⟩ hl) hf2).mT e) ((hf1.mono fun _ _ h => h.elim).trans (fr_g ((e g).2 (.inr (.inl rfl))) hf2))
theorem m_evert_bad {v : Int} (h : LtM H t T S) (hv : inB S.n v = false) (fin : ∀ H', LtM H' t T S → Fr T H H' → K (.int .i64 50) H') :
  CallsH Try.prog 17 #[.pointer (some ⟨t, 0, none⟩), .int .i64 v] H K := by
 obtain ⟨g, c, len, r, Bf, vf, N, rows, ids, fr, h, e⟩ := h
 refine call17 (by simp) ?_
 simp only [Try.f17, Option.getD_some]
 repeat' (first|(with_reducible first|refine jA ?_|(refine hK _ _ ?_;clear hK K)|refine jJ fun K hK=>?_|refine jK ?_|refine jL ?_|refine jM ?_|refine jN ?_|refine jO ?_|refine jP ?_|refine jQ ?_|(refine jB ?_;clear hK K)|(refine jC ?_;clear hK K)|refine jD ?_|refine jE ?_|refine jG ?_|refine jH ?_|refine jI ?_)|((with_reducible refine jR ?hq ?_);case hq=>rfl)|((first|(with_reducible first|refine jS fun K hK=>?_|refine jT ?_|refine jU ?_)|((with_reducible refine jV ?hy fun K hK=>?_);case hy=>rfl));simp only [go_sem, Nat.reduceEqDiff, Nat.reduceAdd, Nat.reduceMul, Nat.reduceLeDiff, Nat.reduceLT, Int.reduceLT, Int.reduceLE, Int.reduceEq, Int.reduceNeg, Int.reduceToNat, Nat.reducePow, reduceIte, reduceCtorEq])|((with_reducible first|refine jW ?hy ?_|refine jY ?hy ?_);case hy=>rfl)|((with_reducible first|refine jX ?hy ?_|refine jZ ?hy ?_);case hy=>rfl)|((with_reducible refine jF ?hy ?_);case hy=>decide))
 refine hasA1 h fun H1 h1 hf1 => ?_
 rw [hv]
 repeat' (first|(with_reducible first|refine jA ?_|(refine hK _ _ ?_;clear hK K)|refine jJ fun K hK=>?_|refine jK ?_|refine jL ?_|refine jM ?_|refine jN ?_|refine jO ?_|refine jP ?_|refine jQ ?_|(refine jB ?_;clear hK K)|(refine jC ?_;clear hK K)|refine jD ?_|refine jE ?_|refine jG ?_|refine jH ?_|refine jI ?_)|((with_reducible refine jR ?hq ?_);case hq=>rfl)|((first|(with_reducible first|refine jS fun K hK=>?_|refine jT ?_|refine jU ?_)|((with_reducible refine jV ?hy fun K hK=>?_);case hy=>rfl));simp only [go_sem, Nat.reduceEqDiff, Nat.reduceAdd, Nat.reduceMul, Nat.reduceLeDiff, Nat.reduceLT, Int.reduceLT, Int.reduceLE, Int.reduceEq, Int.reduceNeg, Int.reduceToNat, Nat.reducePow, reduceIte, reduceCtorEq])|((with_reducible first|refine jW ?hy ?_|refine jY ?hy ?_);case hy=>rfl)|((with_reducible first|refine jX ?hy ?_|refine jZ ?hy ?_);case hy=>rfl)|((with_reducible refine jF ?hy ?_);case hy=>decide))
 exact fin _ (h1.mT e) (hf1.mono fun _ _ h => h.elim)
theorem m_root {v r0 : Nat} (h : LtM H t T S) (hv : v < S.n) (hr : RootOf S.par (v + 1) (r0 + 1)) (fin : ∀ H', LtM H' t T S → Fr T H H' → K (.tuple #[.int .i64 (r0 : Nat), .int .i64 0]) H') :
  CallsH Try.prog 16 #[.pointer (some ⟨t, 0, none⟩), .int .i64 (v : Nat)] H K := by
 obtain ⟨g, c, len, r, Bf, vf, N, rows, ids, fr, h, e⟩ := h
 have hn := h.ok.n64
 have hrl : r0 + 1 < len := by
  obtain ⟨l, h1, h2⟩ := hr
  exact h.lt _ (h.ok.live h1 (Ls.vtx hv) _ (List.mem_of_getLast? h2))
 have hlen := h.ln
 have ew : IntKind.i64.wrap ((v : Int) + 1) = ((v + 1 : Nat) : Int) := by rw [wrap_i64] <;> omega
 have ew2 : IntKind.i64.wrap (((r0 + 1 : Nat) : Int) - 1) = (r0 : Nat) := by rw [wrap_i64] <;> omega
 refine call16 (by simp) ?_
 simp only [Try.f16, Option.getD_some]
 repeat' (first|(with_reducible first|refine jA ?_|(refine hK _ _ ?_;clear hK K)|refine jJ fun K hK=>?_|refine jK ?_|refine jL ?_|refine jM ?_|refine jN ?_|refine jO ?_|refine jP ?_|refine jQ ?_|(refine jB ?_;clear hK K)|(refine jC ?_;clear hK K)|refine jD ?_|refine jE ?_|refine jG ?_|refine jH ?_|refine jI ?_)|((with_reducible refine jR ?hq ?_);case hq=>rfl)|((first|(with_reducible first|refine jS fun K hK=>?_|refine jT ?_|refine jU ?_)|((with_reducible refine jV ?hy fun K hK=>?_);case hy=>rfl));simp only [go_sem, Nat.reduceEqDiff, Nat.reduceAdd, Nat.reduceMul, Nat.reduceLeDiff, Nat.reduceLT, Int.reduceLT, Int.reduceLE, Int.reduceEq, Int.reduceNeg, Int.reduceToNat, Nat.reducePow, reduceIte, reduceCtorEq])|((with_reducible first|refine jW ?hy ?_|refine jY ?hy ?_);case hy=>rfl)|((with_reducible first|refine jX ?hy ?_|refine jZ ?hy ?_);case hy=>rfl)|((with_reducible refine jF ?hy ?_);case hy=>decide))
 refine hasA1 h fun H1 h1 hf1 => ?_
 rw [inB_of hv]
 repeat' (first|(with_reducible first|refine jA ?_|(refine hK _ _ ?_;clear hK K)|refine jJ fun K hK=>?_|refine jK ?_|refine jL ?_|refine jM ?_|refine jN ?_|refine jO ?_|refine jP ?_|refine jQ ?_|(refine jB ?_;clear hK K)|(refine jC ?_;clear hK K)|refine jD ?_|refine jE ?_|refine jG ?_|refine jH ?_|refine jI ?_)|((with_reducible refine jR ?hq ?_);case hq=>rfl)|((first|(with_reducible first|refine jS fun K hK=>?_|refine jT ?_|refine jU ?_)|((with_reducible refine jV ?hy fun K hK=>?_);case hy=>rfl));simp only [go_sem, Nat.reduceEqDiff, Nat.reduceAdd, Nat.reduceMul, Nat.reduceLeDiff, Nat.reduceLT, Int.reduceLT, Int.reduceLE, Int.reduceEq, Int.reduceNeg, Int.reduceToNat, Nat.reducePow, reduceIte, reduceCtorEq, ew])|((with_reducible first|refine jW ?hy ?_|refine jY ?hy ?_);case hy=>rfl)|((with_reducible first|refine jX ?hy ?_|refine jZ ?hy ?_);case hy=>rfl)|((with_reducible refine jF ?hy ?_);case hy=>decide))
 refine root_ok h1.na h1.lc h1.lt (Ls.vtx hv) hr fun H2 N2 rows2 hN2 hL2 hf2 => ?_
 repeat' (first|(with_reducible first|refine jA ?_|(refine hK _ _ ?_;clear hK K)|refine jJ fun K hK=>?_|refine jK ?_|refine jL ?_|refine jM ?_|refine jN ?_|refine jO ?_|refine jP ?_|refine jQ ?_|(refine jB ?_;clear hK K)|(refine jC ?_;clear hK K)|refine jD ?_|refine jE ?_|refine jG ?_|refine jH ?_|refine jI ?_)|((with_reducible refine jR ?hq ?_);case hq=>rfl)|((first|(with_reducible first|refine jS fun K hK=>?_|refine jT ?_|refine jU ?_)|((with_reducible refine jV ?hy fun K hK=>?_);case hy=>rfl));simp only [go_sem, Nat.reduceEqDiff, Nat.reduceAdd, Nat.reduceMul, Nat.reduceLeDiff, Nat.reduceLT, Int.reduceLT, Int.reduceLE, Int.reduceEq, Int.reduceNeg, Int.reduceToNat, Nat.reducePow, reduceIte, reduceCtorEq, ew2])|((with_reducible first|refine jW ?hy ?_|refine jY ?hy ?_);case hy=>rfl)|((with_reducible first|refine jX ?hy ?_|refine jZ ?hy ?_);case hy=>rfl)|((with_reducible refine jF ?hy ?_);case hy=>decide))
 exact fin _ ((h1.keep hN2 hL2 hf2).mT e) ((hf1.mono fun _ _ h => h.elim).trans (fr_g ((e g).2 (.inr (.inl rfl))) hf2))
theorem m_root_bad {v : Int} (h : LtM H t T S) (hv : inB S.n v = false) (fin : ∀ H', LtM H' t T S → Fr T H H' → K (.tuple #[.int .i64 0, .int .i64 50]) H') :
  CallsH Try.prog 16 #[.pointer (some ⟨t, 0, none⟩), .int .i64 v] H K := by
 obtain ⟨g, c, len, r, Bf, vf, N, rows, ids, fr, h, e⟩ := h
 refine call16 (by simp) ?_
 simp only [Try.f16, Option.getD_some]
 repeat' (first|(with_reducible first|refine jA ?_|(refine hK _ _ ?_;clear hK K)|refine jJ fun K hK=>?_|refine jK ?_|refine jL ?_|refine jM ?_|refine jN ?_|refine jO ?_|refine jP ?_|refine jQ ?_|(refine jB ?_;clear hK K)|(refine jC ?_;clear hK K)|refine jD ?_|refine jE ?_|refine jG ?_|refine jH ?_|refine jI ?_)|((with_reducible refine jR ?hq ?_);case hq=>rfl)|((first|(with_reducible first|refine jS fun K hK=>?_|refine jT ?_|refine jU ?_)|((with_reducible refine jV ?hy fun K hK=>?_);case hy=>rfl));simp only [go_sem, Nat.reduceEqDiff, Nat.reduceAdd, Nat.reduceMul, Nat.reduceLeDiff, Nat.reduceLT, Int.reduceLT, Int.reduceLE, Int.reduceEq, Int.reduceNeg, Int.reduceToNat, Nat.reducePow, reduceIte, reduceCtorEq])|((with_reducible first|refine jW ?hy ?_|refine jY ?hy ?_);case hy=>rfl)|((with_reducible first|refine jX ?hy ?_|refine jZ ?hy ?_);case hy=>rfl)|((with_reducible refine jF ?hy ?_);case hy=>decide))
 refine hasA1 h fun H1 h1 hf1 => ?_
 rw [hv]
 repeat' (first|(with_reducible first|refine jA ?_|(refine hK _ _ ?_;clear hK K)|refine jJ fun K hK=>?_|refine jK ?_|refine jL ?_|refine jM ?_|refine jN ?_|refine jO ?_|refine jP ?_|refine jQ ?_|(refine jB ?_;clear hK K)|(refine jC ?_;clear hK K)|refine jD ?_|refine jE ?_|refine jG ?_|refine jH ?_|refine jI ?_)|((with_reducible refine jR ?hq ?_);case hq=>rfl)|((first|(with_reducible first|refine jS fun K hK=>?_|refine jT ?_|refine jU ?_)|((with_reducible refine jV ?hy fun K hK=>?_);case hy=>rfl));simp only [go_sem, Nat.reduceEqDiff, Nat.reduceAdd, Nat.reduceMul, Nat.reduceLeDiff, Nat.reduceLT, Int.reduceLT, Int.reduceLE, Int.reduceEq, Int.reduceNeg, Int.reduceToNat, Nat.reducePow, reduceIte, reduceCtorEq])|((with_reducible first|refine jW ?hy ?_|refine jY ?hy ?_);case hy=>rfl)|((with_reducible first|refine jX ?hy ?_|refine jZ ?hy ?_);case hy=>rfl)|((with_reducible refine jF ?hy ?_);case hy=>decide))
 exact fin _ (h1.mT e) (hf1.mono fun _ _ h => h.elim)
theorem m_same {u v ru rv : Nat} (h : LtM H t T S) (hu : u < S.n) (hv : v < S.n) (hru : RootOf S.par (u + 1) ru) (hrv : RootOf S.par (v + 1) rv) (fin : ∀ H', LtM H' t T S → Fr T H H' → K (.tuple #[.bool (decide (ru = rv)), .int .i64 0]) H') :
  CallsH Try.prog 23 #[.pointer (some ⟨t, 0, none⟩), .int .i64 (u : Nat), .int .i64 (v : Nat)] H K := by
 obtain ⟨g, c, len, r, Bf, vf, N, rows, ids, fr, h, e⟩ := h
 have hn := h.ok.n64
 have ew : IntKind.i64.wrap ((u : Int) + 1) = ((u + 1 : Nat) : Int) := by rw [wrap_i64] <;> omega
 have ew2 : IntKind.i64.wrap ((v : Int) + 1) = ((v + 1 : Nat) : Int) := by rw [wrap_i64] <;> omega
 refine call23 (by simp) ?_
 simp only [Try.f23, Option.getD_some]
 repeat' (first|(with_reducible first|refine jA ?_|(refine hK _ _ ?_;clear hK K)|refine jJ fun K hK=>?_|refine jK ?_|refine jL ?_|refine jM ?_|refine jN ?_|refine jO ?_|refine jP ?_|refine jQ ?_|(refine jB ?_;clear hK K)|(refine jC ?_;clear hK K)|refine jD ?_|refine jE ?_|refine jG ?_|refine jH ?_|refine jI ?_)|((with_reducible refine jR ?hq ?_);case hq=>rfl)|((first|(with_reducible first|refine jS fun K hK=>?_|refine jT ?_|refine jU ?_)|((with_reducible refine jV ?hy fun K hK=>?_);case hy=>rfl));simp only [go_sem, Nat.reduceEqDiff, Nat.reduceAdd, Nat.reduceMul, Nat.reduceLeDiff, Nat.reduceLT, Int.reduceLT, Int.reduceLE, Int.reduceEq, Int.reduceNeg, Int.reduceToNat, Nat.reducePow, reduceIte, reduceCtorEq])|((with_reducible first|refine jW ?hy ?_|refine jY ?hy ?_);case hy=>rfl)|((with_reducible first|refine jX ?hy ?_|refine jZ ?hy ?_);case hy=>rfl)|((with_reducible refine jF ?hy ?_);case hy=>decide))
 refine hasA2 h fun H1 h1 hf1 => ?_
 rw [inB_of hu, inB_of hv]
 repeat' (first|(with_reducible first|refine jA ?_|(refine hK _ _ ?_;clear hK K)|refine jJ fun K hK=>?_|refine jK ?_|refine jL ?_|refine jM ?_|refine jN ?_|refine jO ?_|refine jP ?_|refine jQ ?_|(refine jB ?_;clear hK K)|(refine jC ?_;clear hK K)|refine jD ?_|refine jE ?_|refine jG ?_|refine jH ?_|refine jI ?_)|((with_reducible refine jR ?hq ?_);case hq=>rfl)|((first|(with_reducible first|refine jS fun K hK=>?_|refine jT ?_|refine jU ?_)|((with_reducible refine jV ?hy fun K hK=>?_);case hy=>rfl));simp only [go_sem, Nat.reduceEqDiff, Nat.reduceAdd, Nat.reduceMul, Nat.reduceLeDiff, Nat.reduceLT, Int.reduceLT, Int.reduceLE, Int.reduceEq, Int.reduceNeg, Int.reduceToNat, Nat.reducePow, reduceIte, reduceCtorEq, ew, ew2, Bool.and_self])|((with_reducible first|refine jW ?hy ?_|refine jY ?hy ?_);case hy=>rfl)|((with_reducible first|refine jX ?hy ?_|refine jZ ?hy ?_);case hy=>rfl)|((with_reducible refine jF ?hy ?_);case hy=>decide))
 refine same_ok h1.na h1.lc h1.lt (Ls.vtx hu) (Ls.vtx hv) hru hrv fun H2 N2 rows2 hN2 hL2 hf2 => ?_
 repeat' (first|(with_reducible first|refine jA ?_|(refine hK _ _ ?_;clear hK K)|refine jJ fun K hK=>?_|refine jK ?_|refine jL ?_|refine jM ?_|refine jN ?_|refine jO ?_|refine jP ?_|refine jQ ?_|(refine jB ?_;clear hK K)|(refine jC ?_;clear hK K)|refine jD ?_|refine jE ?_|refine jG ?_|refine jH ?_|refine jI ?_)|((with_reducible refine jR ?hq ?_);case hq=>rfl)|((first|(with_reducible first|refine jS fun K hK=>?_|refine jT ?_|refine jU ?_)|((with_reducible refine jV ?hy fun K hK=>?_);case hy=>rfl));simp only [go_sem, Nat.reduceEqDiff, Nat.reduceAdd, Nat.reduceMul, Nat.reduceLeDiff, Nat.reduceLT, Int.reduceLT, Int.reduceLE, Int.reduceEq, Int.reduceNeg, Int.reduceToNat, Nat.reducePow, reduceIte, reduceCtorEq])|((with_reducible first|refine jW ?hy ?_|refine jY ?hy ?_);case hy=>rfl)|((with_reducible first|refine jX ?hy ?_|refine jZ ?hy ?_);case hy=>rfl)|((with_reducible refine jF ?hy ?_);case hy=>decide))
 exact fin _ ((h1.keep hN2 hL2 hf2).mT e) ((hf1.mono fun _ _ h => h.elim).trans (fr_g ((e g).2 (.inr (.inl rfl))) hf2))
theorem m_same_bad {u v : Int} (h : LtM H t T S) (hv : (inB S.n u && inB S.n v) = false) (fin : ∀ H', LtM H' t T S → Fr T H H' → K (.tuple #[.bool false, .int .i64 50]) H') :
  CallsH Try.prog 23 #[.pointer (some ⟨t, 0, none⟩), .int .i64 u, .int .i64 v] H K := by
 obtain ⟨g, c, len, r, Bf, vf, N, rows, ids, fr, h, e⟩ := h
 refine call23 (by simp) ?_
 simp only [Try.f23, Option.getD_some]
 repeat' (first|(with_reducible first|refine jA ?_|(refine hK _ _ ?_;clear hK K)|refine jJ fun K hK=>?_|refine jK ?_|refine jL ?_|refine jM ?_|refine jN ?_|refine jO ?_|refine jP ?_|refine jQ ?_|(refine jB ?_;clear hK K)|(refine jC ?_;clear hK K)|refine jD ?_|refine jE ?_|refine jG ?_|refine jH ?_|refine jI ?_)|((with_reducible refine jR ?hq ?_);case hq=>rfl)|((first|(with_reducible first|refine jS fun K hK=>?_|refine jT ?_|refine jU ?_)|((with_reducible refine jV ?hy fun K hK=>?_);case hy=>rfl));simp only [go_sem, Nat.reduceEqDiff, Nat.reduceAdd, Nat.reduceMul, Nat.reduceLeDiff, Nat.reduceLT, Int.reduceLT, Int.reduceLE, Int.reduceEq, Int.reduceNeg, Int.reduceToNat, Nat.reducePow, reduceIte, reduceCtorEq])|((with_reducible first|refine jW ?hy ?_|refine jY ?hy ?_);case hy=>rfl)|((with_reducible first|refine jX ?hy ?_|refine jZ ?hy ?_);case hy=>rfl)|((with_reducible refine jF ?hy ?_);case hy=>decide))
 refine hasA2 h fun H1 h1 hf1 => ?_
 rw [hv]
 repeat' (first|(with_reducible first|refine jA ?_|(refine hK _ _ ?_;clear hK K)|refine jJ fun K hK=>?_|refine jK ?_|refine jL ?_|refine jM ?_|refine jN ?_|refine jO ?_|refine jP ?_|refine jQ ?_|(refine jB ?_;clear hK K)|(refine jC ?_;clear hK K)|refine jD ?_|refine jE ?_|refine jG ?_|refine jH ?_|refine jI ?_)|((with_reducible refine jR ?hq ?_);case hq=>rfl)|((first|(with_reducible first|refine jS fun K hK=>?_|refine jT ?_|refine jU ?_)|((with_reducible refine jV ?hy fun K hK=>?_);case hy=>rfl));simp only [go_sem, Nat.reduceEqDiff, Nat.reduceAdd, Nat.reduceMul, Nat.reduceLeDiff, Nat.reduceLT, Int.reduceLT, Int.reduceLE, Int.reduceEq, Int.reduceNeg, Int.reduceToNat, Nat.reducePow, reduceIte, reduceCtorEq])|((with_reducible first|refine jW ?hy ?_|refine jY ?hy ?_);case hy=>rfl)|((with_reducible first|refine jX ?hy ?_|refine jZ ?hy ?_);case hy=>rfl)|((with_reducible refine jF ?hy ?_);case hy=>decide))
 exact fin _ (h1.mT e) (hf1.mono fun _ _ h => h.elim)
end
section
variable {H H' : Heap} {t g c len r : Nat} {Bf : Option Nat} {vf : Value} {S : Ls} {N N' : Nodes} {rows rows' : List (List Nat)} {ids : Int → Option Nat} {fr : List Nat} {T : Nat → Prop} {K : Value → Heap → Prop}
theorem putNd (hN : NA H t g c len N) {i : Nat} (hi : i < len) {x : Nd} (h1 : x.up < len) (h2 : x.l < len) (h3 : x.r < len) (h4 : x.best < len) :
  NA (hset (hset (hset (hset (hset (hset (hset (hset (hset (hset H ⟨g, i * 10, none⟩ (.int .i64 x.up)) ⟨g, i * 10 + 1, none⟩ (.int .i64 x.l)) ⟨g, i * 10 + 2, none⟩ (.int .i64 x.r)) ⟨g, i * 10 + 3, none⟩ (.bool x.turned)) ⟨g, i * 10 + 4, none⟩ (.bool x.isEdge)) ⟨g, i * 10 + 5, none⟩ (.int .i64 x.e.id))
   ⟨g, i * 10 + 6, none⟩ (.int .i64 x.e.u)) ⟨g, i * 10 + 7, none⟩ (.int .i64 x.e.v)) ⟨g, i * 10 + 8, none⟩ (.int .i64 x.e.w)) ⟨g, i * 10 + 9, none⟩ (.int .i64 x.best)) t g c len (upd N i x) ∧
  Fr (· = g) H (hset (hset (hset (hset (hset (hset (hset (hset (hset (hset H ⟨g, i * 10, none⟩ (.int .i64 x.up)) ⟨g, i * 10 + 1, none⟩ (.int .i64 x.l)) ⟨g, i * 10 + 2, none⟩ (.int .i64 x.r)) ⟨g, i * 10 + 3, none⟩ (.bool x.turned)) ⟨g, i * 10 + 4, none⟩ (.bool x.isEdge)) ⟨g, i * 10 + 5, none⟩ (.int .i64 x.e.id))
   ⟨g, i * 10 + 6, none⟩ (.int .i64 x.e.u)) ⟨g, i * 10 + 7, none⟩ (.int .i64 x.e.v)) ⟨g, i * 10 + 8, none⟩ (.int .i64 x.e.w)) ⟨g, i * 10 + 9, none⟩ (.int .i64 x.best)) := by
 obtain ⟨a0, a1, a2, a3, a4, ⟨b0, b1, b2, b3⟩, a5⟩ := x
 simp only at h1 h2 h3 h4
 have n0 := hN.set0 (v := .int .i64 a0) (r := { N i with up := a0 }) hi rfl (hN.cl.upd h1 (hN.cl.l i hi) (hN.cl.r i hi) (hN.cl.best i hi))
 have n1 := n0.set (j := 1) (v := .int .i64 a1) (r := { N i with up := a0, l := a1 }) hi (by omega) (by rw [upd_same]; rfl) (n0.cl.upd h1 h2 (hN.cl.r i hi) (hN.cl.best i hi))
 have n2 := n1.set (j := 2) (v := .int .i64 a2) (r := { N i with up := a0, l := a1, r := a2 }) hi (by omega) (by rw [upd_same]; rfl) (n1.cl.upd h1 h2 h3 (hN.cl.best i hi))
 have n3 := n2.set (j := 3) (v := .bool a3) (r := { N i with up := a0, l := a1, r := a2, turned := a3 }) hi (by omega) (by rw [upd_same]; rfl) (n2.cl.upd h1 h2 h3 (hN.cl.best i hi))
 have n4 := n3.set (j := 4) (v := .bool a4) (r := { N i with up := a0, l := a1, r := a2, turned := a3, isEdge := a4 }) hi (by omega) (by rw [upd_same]; rfl) (n3.cl.upd h1 h2 h3 (hN.cl.best i hi))
 have n5 := n4.set (j := 5) (v := .int .i64 b0) (r := { N i with up := a0, l := a1, r := a2, turned := a3, isEdge := a4, e := ⟨b0, (N i).e.u, (N i).e.v, (N i).e.w⟩ }) hi (by omega) (by rw [upd_same]; rfl) (n4.cl.upd h1 h2 h3 (hN.cl.best i hi))
 have n6 := n5.set (j := 6) (v := .int .i64 b1) (r := { N i with up := a0, l := a1, r := a2, turned := a3, isEdge := a4, e := ⟨b0, b1, (N i).e.v, (N i).e.w⟩ }) hi (by omega) (by rw [upd_same]; rfl) (n5.cl.upd h1 h2 h3 (hN.cl.best i hi))
 have n7 := n6.set (j := 7) (v := .int .i64 b2) (r := { N i with up := a0, l := a1, r := a2, turned := a3, isEdge := a4, e := ⟨b0, b1, b2, (N i).e.w⟩ }) hi (by omega) (by rw [upd_same]; rfl) (n6.cl.upd h1 h2 h3 (hN.cl.best i hi))
 have n8 := n7.set (j := 8) (v := .int .i64 b3) (r := { N i with up := a0, l := a1, r := a2, turned := a3, isEdge := a4, e := ⟨b0, b1, b2, b3⟩ }) hi (by omega) (by rw [upd_same]; rfl) (n7.cl.upd h1 h2 h3 (hN.cl.best i hi))
 have n9 := n8.set (j := 9) (v := .int .i64 a5) (r := ⟨a0, a1, a2, a3, a4, ⟨b0, b1, b2, b3⟩, a5⟩) hi (by omega) (by rw [upd_same]; rfl) (n8.cl.upd h1 h2 h3 h4)
 refine ⟨?_, ((((((((((Fr.refl (· = g) H).set (.inl rfl) _).set (.inl rfl) _).set (.inl rfl) _).set (.inl rfl) _).set (.inl rfl) _).set (.inl rfl) _).set (.inl rfl) _).set (.inl rfl) _).set (.inl rfl) _).set (.inl rfl) _⟩
 have e : ∀ (M : Nodes) (p q : Nd), upd (upd M i p) i q = upd M i q := fun M p q => by
  funext j; unfold upd; split <;> rfl
 simp only [e] at n9
 exact n9
theorem _root_.Go.Li.LC.dead {N : Nodes} {E : Es} {par : Par} {V : Nat → Prop} (k : LC N E par rows V) {h : Nat} {x : Nd} (hV : ¬ V h) (h0 : h ≠ 0) (hx : x.isEdge = false) (hE : E h = none) : LC (upd N h x) E par rows V where
 eok := ⟨fun i => by
  by_cases e : i = h
  ·subst e; rw [upd_same, hx, hE]; rfl
  ·rw [upd_ne _ _ e]; exact k.eok.is i, fun i y hy => by
  by_cases e : i = h
  ·subst e; rw [hE] at hy; cases hy
  ·rw [upd_ne _ _ e]; exact k.eok.e i y hy, k.eok.uq⟩
 z := by rw [upd_ne _ _ (Ne.symm h0)]; exact k.z
 v0 := k.v0
 trees := fun xs hx => by
  obtain ⟨T, hT, eT⟩ := k.trees xs hx
  refine ⟨T, hT.congr fun i hi => upd_ne _ _ fun e => hV ?_, eT⟩
  rw [← e]
  exact (k.use i).1 (List.mem_flatten.2 ⟨xs, hx, by rw [← eT]; exact hi⟩)
 link := k.link
 ne := k.ne
 nd := k.nd
 use := k.use
 cl := k.cl
 ac := k.ac
theorem edges_le (k : S.Ok) (hall : ∀ h, S.n < h → h < len → (S.E h).isSome = true) : len ≤ 2 * S.n + 1 := by
 have hk : ∀ h, S.n < h → h < len → ∃ c, 1 ≤ c ∧ c ≤ S.n ∧ S.par c = h := fun h h1 h2 => by
  obtain ⟨e, he⟩ := Option.isSome_iff_exists.1 (hall h h1 h2)
  obtain ⟨q1, q2, q3, q4, q5⟩ := k.en h e he
  obtain ⟨c, p, c1, c2, c3, c4, c5⟩ := k.kid he
  refine ⟨c, ?_, ?_, c1⟩
  ·rcases c4 with c4 | c4 <;> omega
  ·rcases c4 with c4 | c4 <;> omega
 have h1 := (List.nodup_range' (s := S.n + 1) (n := len - S.n - 1)).length_le_of_subset (l₂ := (List.range' 1 S.n).map S.par) (fun x hx => by
  have hi := List.mem_range'_1.1 hx
  obtain ⟨c, c1, c2, c3⟩ := hk x (by omega) (by omega)
  exact List.mem_map.2 ⟨c, List.mem_range'_1.2 (by omega), c3⟩)
 simp only [List.length_map, List.length_range'] at h1
 omega
def okArg (id w : Int) : Bool := decide (0 ≤ id) && (decide (id ≤ 1099511627776) && (decide (-1099511627776 ≤ w) && decide (w ≤ 1099511627776)))
theorem natsI_append (l : List Nat) (x : Nat) : natsI (l ++ [x]) = natsI l ++ [((x : Nat) : Int)] := by unfold natsI; simp
theorem link_out {u v id w : Int} (h : LtM H t T S) (hv : (inB S.n u && inB S.n v) = false) (fin : ∀ H', LtM H' t T S → Fr T H H' → K (.int .i64 50) H') :
  CallsH Try.prog 10 #[.pointer (some ⟨t, 0, none⟩), .int .i64 u, .int .i64 v, .int .i64 id, .int .i64 w] H K := by
 obtain ⟨g, c, len, r, Bf, vf, N, rows, ids, fr, h, e⟩ := h
 refine call10 (by simp) ?_
 simp only [Try.f10, Option.getD_some]
 repeat' (first|(with_reducible first|refine jA ?_|(refine hK _ _ ?_;clear hK K)|refine jJ fun K hK=>?_|refine jK ?_|refine jL ?_|refine jM ?_|refine jN ?_|refine jO ?_|refine jP ?_|refine jQ ?_|(refine jB ?_;clear hK K)|(refine jC ?_;clear hK K)|refine jD ?_|refine jE ?_|refine jG ?_|refine jH ?_|refine jI ?_)|((with_reducible refine jR ?hq ?_);case hq=>rfl)|((first|(with_reducible first|refine jS fun K hK=>?_|refine jT ?_|refine jU ?_)|((with_reducible refine jV ?hy fun K hK=>?_);case hy=>rfl));simp only [go_sem, Nat.reduceEqDiff, Nat.reduceAdd, Nat.reduceMul, Nat.reduceLeDiff, Nat.reduceLT, Int.reduceLT, Int.reduceLE, Int.reduceEq, Int.reduceNeg, Int.reduceToNat, Nat.reducePow, reduceIte, reduceCtorEq])|((with_reducible first|refine jW ?hy ?_|refine jY ?hy ?_);case hy=>rfl)|((with_reducible first|refine jX ?hy ?_|refine jZ ?hy ?_);case hy=>rfl)|((with_reducible refine jF ?hy ?_);case hy=>decide))
 refine hasA2 h fun H1 h1 hf1 => ?_
 rw [hv]
 repeat' (first|(with_reducible first|refine jA ?_|(refine hK _ _ ?_;clear hK K)|refine jJ fun K hK=>?_|refine jK ?_|refine jL ?_|refine jM ?_|refine jN ?_|refine jO ?_|refine jP ?_|refine jQ ?_|(refine jB ?_;clear hK K)|(refine jC ?_;clear hK K)|refine jD ?_|refine jE ?_|refine jG ?_|refine jH ?_|refine jI ?_)|((with_reducible refine jR ?hq ?_);case hq=>rfl)|((first|(with_reducible first|refine jS fun K hK=>?_|refine jT ?_|refine jU ?_)|((with_reducible refine jV ?hy fun K hK=>?_);case hy=>rfl));simp only [go_sem, Nat.reduceEqDiff, Nat.reduceAdd, Nat.reduceMul, Nat.reduceLeDiff, Nat.reduceLT, Int.reduceLT, Int.reduceLE, Int.reduceEq, Int.reduceNeg, Int.reduceToNat, Nat.reducePow, reduceIte, reduceCtorEq])|((with_reducible first|refine jW ?hy ?_|refine jY ?hy ?_);case hy=>rfl)|((with_reducible first|refine jX ?hy ?_|refine jZ ?hy ?_);case hy=>rfl)|((with_reducible refine jF ?hy ?_);case hy=>decide))
 exact fin _ (h1.mT e) (hf1.mono fun _ _ h => h.elim)
theorem link_arg {u v id w : Int} (h : LtM H t T S) (hv : (inB S.n u && inB S.n v) = true) (ha : okArg id w = false) (fin : ∀ H', LtM H' t T S → Fr T H H' → K (.int .i64 1) H') :
  CallsH Try.prog 10 #[.pointer (some ⟨t, 0, none⟩), .int .i64 u, .int .i64 v, .int .i64 id, .int .i64 w] H K := by
 obtain ⟨g, c, len, r, Bf, vf, N, rows, ids, fr, h, e⟩ := h
 refine call10 (by simp) ?_
 simp only [Try.f10, Option.getD_some]
 repeat' (first|(with_reducible first|refine jA ?_|(refine hK _ _ ?_;clear hK K)|refine jJ fun K hK=>?_|refine jK ?_|refine jL ?_|refine jM ?_|refine jN ?_|refine jO ?_|refine jP ?_|refine jQ ?_|(refine jB ?_;clear hK K)|(refine jC ?_;clear hK K)|refine jD ?_|refine jE ?_|refine jG ?_|refine jH ?_|refine jI ?_)|((with_reducible refine jR ?hq ?_);case hq=>rfl)|((first|(with_reducible first|refine jS fun K hK=>?_|refine jT ?_|refine jU ?_)|((with_reducible refine jV ?hy fun K hK=>?_);case hy=>rfl));simp only [go_sem, Nat.reduceEqDiff, Nat.reduceAdd, Nat.reduceMul, Nat.reduceLeDiff, Nat.reduceLT, Int.reduceLT, Int.reduceLE, Int.reduceEq, Int.reduceNeg, Int.reduceToNat, Nat.reducePow, reduceIte, reduceCtorEq])|((with_reducible first|refine jW ?hy ?_|refine jY ?hy ?_);case hy=>rfl)|((with_reducible first|refine jX ?hy ?_|refine jZ ?hy ?_);case hy=>rfl)|((with_reducible refine jF ?hy ?_);case hy=>decide))
 refine hasA2 h fun H1 h1 hf1 => ?_
 have fin' := fin _ (h1.mT e) (hf1.mono fun _ _ h => h.elim)
 unfold okArg at ha
 rw [hv]
 by_cases a1 : id < 0
 ·have t1 : (id < 0) = True := by simp [a1]
  repeat' (first|(with_reducible first|refine jA ?_|(refine hK _ _ ?_;clear hK K)|refine jJ fun K hK=>?_|refine jK ?_|refine jL ?_|refine jM ?_|refine jN ?_|refine jO ?_|refine jP ?_|refine jQ ?_|(refine jB ?_;clear hK K)|(refine jC ?_;clear hK K)|refine jD ?_|refine jE ?_|refine jG ?_|refine jH ?_|refine jI ?_)|((with_reducible refine jR ?hq ?_);case hq=>rfl)|((first|(with_reducible first|refine jS fun K hK=>?_|refine jT ?_|refine jU ?_)|((with_reducible refine jV ?hy fun K hK=>?_);case hy=>rfl));simp only [go_sem, Nat.reduceEqDiff, Nat.reduceAdd, Nat.reduceMul, Nat.reduceLeDiff, Nat.reduceLT, Int.reduceLT, Int.reduceLE, Int.reduceEq, Int.reduceNeg, Int.reduceToNat, Nat.reducePow, reduceIte, reduceCtorEq, t1])|((with_reducible first|refine jW ?hy ?_|refine jY ?hy ?_);case hy=>rfl)|((with_reducible first|refine jX ?hy ?_|refine jZ ?hy ?_);case hy=>rfl)|((with_reducible refine jF ?hy ?_);case hy=>decide))
  exact fin'
 ·have t1 : (id < 0) = False := by simp [a1]
  by_cases a2 : 1099511627776 < id
  ·have t2 : (1099511627776 < id) = True := by simp [a2]
   repeat' (first|(with_reducible first|refine jA ?_|(refine hK _ _ ?_;clear hK K)|refine jJ fun K hK=>?_|refine jK ?_|refine jL ?_|refine jM ?_|refine jN ?_|refine jO ?_|refine jP ?_|refine jQ ?_|(refine jB ?_;clear hK K)|(refine jC ?_;clear hK K)|refine jD ?_|refine jE ?_|refine jG ?_|refine jH ?_|refine jI ?_)|((with_reducible refine jR ?hq ?_);case hq=>rfl)|((first|(with_reducible first|refine jS fun K hK=>?_|refine jT ?_|refine jU ?_)|((with_reducible refine jV ?hy fun K hK=>?_);case hy=>rfl));simp only [go_sem, Nat.reduceEqDiff, Nat.reduceAdd, Nat.reduceMul, Nat.reduceLeDiff, Nat.reduceLT, Int.reduceLT, Int.reduceLE, Int.reduceEq, Int.reduceNeg, Int.reduceToNat, Nat.reducePow, reduceIte, reduceCtorEq, t1, t2])|((with_reducible first|refine jW ?hy ?_|refine jY ?hy ?_);case hy=>rfl)|((with_reducible first|refine jX ?hy ?_|refine jZ ?hy ?_);case hy=>rfl)|((with_reducible refine jF ?hy ?_);case hy=>decide))
   exact fin'
  ·have t2 : (1099511627776 < id) = False := by simp [a2]
   by_cases a3 : w < -1099511627776
   ·have t3 : (w < -1099511627776) = True := by simp [a3]
    repeat' (first|(with_reducible first|refine jA ?_|(refine hK _ _ ?_;clear hK K)|refine jJ fun K hK=>?_|refine jK ?_|refine jL ?_|refine jM ?_|refine jN ?_|refine jO ?_|refine jP ?_|refine jQ ?_|(refine jB ?_;clear hK K)|(refine jC ?_;clear hK K)|refine jD ?_|refine jE ?_|refine jG ?_|refine jH ?_|refine jI ?_)|((with_reducible refine jR ?hq ?_);case hq=>rfl)|((first|(with_reducible first|refine jS fun K hK=>?_|refine jT ?_|refine jU ?_)|((with_reducible refine jV ?hy fun K hK=>?_);case hy=>rfl));simp only [go_sem, Nat.reduceEqDiff, Nat.reduceAdd, Nat.reduceMul, Nat.reduceLeDiff, Nat.reduceLT, Int.reduceLT, Int.reduceLE, Int.reduceEq, Int.reduceNeg, Int.reduceToNat, Nat.reducePow, reduceIte, reduceCtorEq, t1, t2, t3])|((with_reducible first|refine jW ?hy ?_|refine jY ?hy ?_);case hy=>rfl)|((with_reducible first|refine jX ?hy ?_|refine jZ ?hy ?_);case hy=>rfl)|((with_reducible refine jF ?hy ?_);case hy=>decide))
    exact fin'
   ·have t3 : (w < -1099511627776) = False := by simp [a3]
    have t4 : (1099511627776 < w) = True := by
     simp at ha
     simp
     omega
    repeat' (first|(with_reducible first|refine jA ?_|(refine hK _ _ ?_;clear hK K)|refine jJ fun K hK=>?_|refine jK ?_|refine jL ?_|refine jM ?_|refine jN ?_|refine jO ?_|refine jP ?_|refine jQ ?_|(refine jB ?_;clear hK K)|(refine jC ?_;clear hK K)|refine jD ?_|refine jE ?_|refine jG ?_|refine jH ?_|refine jI ?_)|((with_reducible refine jR ?hq ?_);case hq=>rfl)|((first|(with_reducible first|refine jS fun K hK=>?_|refine jT ?_|refine jU ?_)|((with_reducible refine jV ?hy fun K hK=>?_);case hy=>rfl));simp only [go_sem, Nat.reduceEqDiff, Nat.reduceAdd, Nat.reduceMul, Nat.reduceLeDiff, Nat.reduceLT, Int.reduceLT, Int.reduceLE, Int.reduceEq, Int.reduceNeg, Int.reduceToNat, Nat.reducePow, reduceIte, reduceCtorEq, t1, t2, t3, t4])|((with_reducible first|refine jW ?hy ?_|refine jY ?hy ?_);case hy=>rfl)|((with_reducible first|refine jX ?hy ?_|refine jZ ?hy ?_);case hy=>rfl)|((with_reducible refine jF ?hy ?_);case hy=>decide))
    exact fin'
theorem okArg_ts {id w : Int} (ha : okArg id w = true) : ((id < 0) = False ∧ (1099511627776 < id) = False) ∧ (w < -1099511627776) = False ∧ (1099511627776 < w) = False := by
 unfold okArg at ha
 simp only [Bool.and_eq_true, decide_eq_true_iff] at ha
 refine ⟨⟨?_, ?_⟩, ?_, ?_⟩ <;> simp <;> omega
theorem link_twice {u v id w : Int} {k : Nat} {x : Ed} (h : LtM H t T S) (hv : (inB S.n u && inB S.n v) = true) (ha : okArg id w = true) (hk : S.E k = some x) (hx : x.id = id) (fin : ∀ H', LtM H' t T S → Fr T H H' → K (.int .i64 52) H') :
  CallsH Try.prog 10 #[.pointer (some ⟨t, 0, none⟩), .int .i64 u, .int .i64 v, .int .i64 id, .int .i64 w] H K := by
 obtain ⟨g, c, len, r, Bf, vf, N, rows, ids, fr, h, e⟩ := h
 obtain ⟨⟨t1, t2⟩, t3, t4⟩ := okArg_ts ha
 refine call10 (by simp) ?_
 simp only [Try.f10, Option.getD_some]
 repeat' (first|(with_reducible first|refine jA ?_|(refine hK _ _ ?_;clear hK K)|refine jJ fun K hK=>?_|refine jK ?_|refine jL ?_|refine jM ?_|refine jN ?_|refine jO ?_|refine jP ?_|refine jQ ?_|(refine jB ?_;clear hK K)|(refine jC ?_;clear hK K)|refine jD ?_|refine jE ?_|refine jG ?_|refine jH ?_|refine jI ?_)|((with_reducible refine jR ?hq ?_);case hq=>rfl)|((first|(with_reducible first|refine jS fun K hK=>?_|refine jT ?_|refine jU ?_)|((with_reducible refine jV ?hy fun K hK=>?_);case hy=>rfl));simp only [go_sem, Nat.reduceEqDiff, Nat.reduceAdd, Nat.reduceMul, Nat.reduceLeDiff, Nat.reduceLT, Int.reduceLT, Int.reduceLE, Int.reduceEq, Int.reduceNeg, Int.reduceToNat, Nat.reducePow, reduceIte, reduceCtorEq])|((with_reducible first|refine jW ?hy ?_|refine jY ?hy ?_);case hy=>rfl)|((with_reducible first|refine jX ?hy ?_|refine jZ ?hy ?_);case hy=>rfl)|((with_reducible refine jF ?hy ?_);case hy=>decide))
 refine hasA2 h fun H1 h1 hf1 => ?_
 have hid := (h1.id id k).2 ⟨x, hk, hx⟩
 have d2 := h1.hd.cellOf (i := 2) rfl
 rw [hv]
 repeat' (first|(with_reducible first|refine jA ?_|(refine hK _ _ ?_;clear hK K)|refine jJ fun K hK=>?_|refine jK ?_|refine jL ?_|refine jM ?_|refine jN ?_|refine jO ?_|refine jP ?_|refine jQ ?_|(refine jB ?_;clear hK K)|(refine jC ?_;clear hK K)|refine jD ?_|refine jE ?_|refine jG ?_|refine jH ?_|refine jI ?_)|((with_reducible refine jR ?hq ?_);case hq=>rfl)|((first|(with_reducible first|refine jS fun K hK=>?_|refine jT ?_|refine jU ?_)|((with_reducible refine jV ?hy fun K hK=>?_);case hy=>rfl));simp only [go_sem, Nat.reduceEqDiff, Nat.reduceAdd, Nat.reduceMul, Nat.reduceLeDiff, Nat.reduceLT, Int.reduceLT, Int.reduceLE, Int.reduceEq, Int.reduceNeg, Int.reduceToNat, Nat.reducePow, reduceIte, reduceCtorEq, t1, t2, t3, t4, d2])|((with_reducible first|refine jW ?hy ?_|refine jY ?hy ?_);case hy=>rfl)|((with_reducible first|refine jX ?hy ?_|refine jZ ?hy ?_);case hy=>rfl)|((with_reducible refine jF ?hy ?_);case hy=>decide))
 refine rd_lookupQ (vf := natV) mapT_ids kInt h1.mp.choose_spec id true ?_
 rw [hid]
 simp only [Option.map_some, gotV, natV, if_true]
 repeat' (first|(with_reducible first|refine jA ?_|(refine hK _ _ ?_;clear hK K)|refine jJ fun K hK=>?_|refine jK ?_|refine jL ?_|refine jM ?_|refine jN ?_|refine jO ?_|refine jP ?_|refine jQ ?_|(refine jB ?_;clear hK K)|(refine jC ?_;clear hK K)|refine jD ?_|refine jE ?_|refine jG ?_|refine jH ?_|refine jI ?_)|((with_reducible refine jR ?hq ?_);case hq=>rfl)|((first|(with_reducible first|refine jS fun K hK=>?_|refine jT ?_|refine jU ?_)|((with_reducible refine jV ?hy fun K hK=>?_);case hy=>rfl));simp only [go_sem, Nat.reduceEqDiff, Nat.reduceAdd, Nat.reduceMul, Nat.reduceLeDiff, Nat.reduceLT, Int.reduceLT, Int.reduceLE, Int.reduceEq, Int.reduceNeg, Int.reduceToNat, Nat.reducePow, reduceIte, reduceCtorEq])|((with_reducible first|refine jW ?hy ?_|refine jY ?hy ?_);case hy=>rfl)|((with_reducible first|refine jX ?hy ?_|refine jZ ?hy ?_);case hy=>rfl)|((with_reducible refine jF ?hy ?_);case hy=>decide))
 exact fin _ (h1.mT e) (hf1.mono fun _ _ h => h.elim)
theorem link_same {u v : Nat} {id w : Int} {ru : Nat} (h : LtM H t T S) (hu : u < S.n) (hv : v < S.n) (ha : okArg id w = true) (hid : ∀ k x, S.E k = some x → x.id ≠ id) (hru : RootOf S.par (u + 1) ru) (hrv : RootOf S.par (v + 1) ru)
  (fin : ∀ H', LtM H' t T S → Fr T H H' → K (.int .i64 51) H') :
  CallsH Try.prog 10 #[.pointer (some ⟨t, 0, none⟩), .int .i64 (u : Nat), .int .i64 (v : Nat), .int .i64 id, .int .i64 w] H K := by
 obtain ⟨g, c, len, r, Bf, vf, N, rows, ids, fr, h, e⟩ := h
 obtain ⟨⟨t1, t2⟩, t3, t4⟩ := okArg_ts ha
 have hn := h.ok.n64
 have ew : IntKind.i64.wrap ((u : Int) + 1) = ((u + 1 : Nat) : Int) := by rw [wrap_i64] <;> omega
 have ew2 : IntKind.i64.wrap ((v : Int) + 1) = ((v + 1 : Nat) : Int) := by rw [wrap_i64] <;> omega
 refine call10 (by simp) ?_
 simp only [Try.f10, Option.getD_some]
 repeat' (first|(with_reducible first|refine jA ?_|(refine hK _ _ ?_;clear hK K)|refine jJ fun K hK=>?_|refine jK ?_|refine jL ?_|refine jM ?_|refine jN ?_|refine jO ?_|refine jP ?_|refine jQ ?_|(refine jB ?_;clear hK K)|(refine jC ?_;clear hK K)|refine jD ?_|refine jE ?_|refine jG ?_|refine jH ?_|refine jI ?_)|((with_reducible refine jR ?hq ?_);case hq=>rfl)|((first|(with_reducible first|refine jS fun K hK=>?_|refine jT ?_|refine jU ?_)|((with_reducible refine jV ?hy fun K hK=>?_);case hy=>rfl));simp only [go_sem, Nat.reduceEqDiff, Nat.reduceAdd, Nat.reduceMul, Nat.reduceLeDiff, Nat.reduceLT, Int.reduceLT, Int.reduceLE, Int.reduceEq, Int.reduceNeg, Int.reduceToNat, Nat.reducePow, reduceIte, reduceCtorEq])|((with_reducible first|refine jW ?hy ?_|refine jY ?hy ?_);case hy=>rfl)|((with_reducible first|refine jX ?hy ?_|refine jZ ?hy ?_);case hy=>rfl)|((with_reducible refine jF ?hy ?_);case hy=>decide))
 refine hasA2 h fun H1 h1 hf1 => ?_
 have hid' : ids id = none := by
  cases hi : ids id with
  | none => rfl
  | some k =>
   obtain ⟨x, h2, h3⟩ := (h1.id id k).1 hi
   exact absurd h3 (hid k x h2)
 have d2 := h1.hd.cellOf (i := 2) rfl
 rw [inB_of hu, inB_of hv]
 repeat' (first|(with_reducible first|refine jA ?_|(refine hK _ _ ?_;clear hK K)|refine jJ fun K hK=>?_|refine jK ?_|refine jL ?_|refine jM ?_|refine jN ?_|refine jO ?_|refine jP ?_|refine jQ ?_|(refine jB ?_;clear hK K)|(refine jC ?_;clear hK K)|refine jD ?_|refine jE ?_|refine jG ?_|refine jH ?_|refine jI ?_)|((with_reducible refine jR ?hq ?_);case hq=>rfl)|((first|(with_reducible first|refine jS fun K hK=>?_|refine jT ?_|refine jU ?_)|((with_reducible refine jV ?hy fun K hK=>?_);case hy=>rfl));simp only [go_sem, Nat.reduceEqDiff, Nat.reduceAdd, Nat.reduceMul, Nat.reduceLeDiff, Nat.reduceLT, Int.reduceLT, Int.reduceLE, Int.reduceEq, Int.reduceNeg, Int.reduceToNat, Nat.reducePow, reduceIte, reduceCtorEq, t1, t2, t3, t4, d2, Bool.and_self])|((with_reducible first|refine jW ?hy ?_|refine jY ?hy ?_);case hy=>rfl)|((with_reducible first|refine jX ?hy ?_|refine jZ ?hy ?_);case hy=>rfl)|((with_reducible refine jF ?hy ?_);case hy=>decide))
 refine rd_lookupQ (vf := natV) mapT_ids kInt h1.mp.choose_spec id true ?_
 rw [hid']
 simp only [Option.map_none, gotV, if_true]
 repeat' (first|(with_reducible first|refine jA ?_|(refine hK _ _ ?_;clear hK K)|refine jJ fun K hK=>?_|refine jK ?_|refine jL ?_|refine jM ?_|refine jN ?_|refine jO ?_|refine jP ?_|refine jQ ?_|(refine jB ?_;clear hK K)|(refine jC ?_;clear hK K)|refine jD ?_|refine jE ?_|refine jG ?_|refine jH ?_|refine jI ?_)|((with_reducible refine jR ?hq ?_);case hq=>rfl)|((first|(with_reducible first|refine jS fun K hK=>?_|refine jT ?_|refine jU ?_)|((with_reducible refine jV ?hy fun K hK=>?_);case hy=>rfl));simp only [go_sem, Nat.reduceEqDiff, Nat.reduceAdd, Nat.reduceMul, Nat.reduceLeDiff, Nat.reduceLT, Int.reduceLT, Int.reduceLE, Int.reduceEq, Int.reduceNeg, Int.reduceToNat, Nat.reducePow, reduceIte, reduceCtorEq, ew, ew2])|((with_reducible first|refine jW ?hy ?_|refine jY ?hy ?_);case hy=>rfl)|((with_reducible first|refine jX ?hy ?_|refine jZ ?hy ?_);case hy=>rfl)|((with_reducible refine jF ?hy ?_);case hy=>decide))
 refine same_ok h1.na h1.lc h1.lt (Ls.vtx hu) (Ls.vtx hv) hru hrv fun H2 N2 rows2 hN2 hL2 hf2 => ?_
 simp only [decide_true]
 repeat' (first|(with_reducible first|refine jA ?_|(refine hK _ _ ?_;clear hK K)|refine jJ fun K hK=>?_|refine jK ?_|refine jL ?_|refine jM ?_|refine jN ?_|refine jO ?_|refine jP ?_|refine jQ ?_|(refine jB ?_;clear hK K)|(refine jC ?_;clear hK K)|refine jD ?_|refine jE ?_|refine jG ?_|refine jH ?_|refine jI ?_)|((with_reducible refine jR ?hq ?_);case hq=>rfl)|((first|(with_reducible first|refine jS fun K hK=>?_|refine jT ?_|refine jU ?_)|((with_reducible refine jV ?hy fun K hK=>?_);case hy=>rfl));simp only [go_sem, Nat.reduceEqDiff, Nat.reduceAdd, Nat.reduceMul, Nat.reduceLeDiff, Nat.reduceLT, Int.reduceLT, Int.reduceLE, Int.reduceEq, Int.reduceNeg, Int.reduceToNat, Nat.reducePow, reduceIte, reduceCtorEq])|((with_reducible first|refine jW ?hy ?_|refine jY ?hy ?_);case hy=>rfl)|((with_reducible first|refine jX ?hy ?_|refine jZ ?hy ?_);case hy=>rfl)|((with_reducible refine jF ?hy ?_);case hy=>decide))
 exact fin _ ((h1.keep hN2 hL2 hf2).mT e) ((hf1.mono fun _ _ h => h.elim).trans (fr_g ((e g).2 (.inr (.inl rfl))) hf2))
end
end Go.Proofs.Ytoplhfhjokjbiaa
