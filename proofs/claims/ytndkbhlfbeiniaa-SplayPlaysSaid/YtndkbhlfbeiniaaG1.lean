/-
  Splay forests in memory; node, own, below, pull, hang, side, turn.
  Splay forests in memory: hang, side, turn.
  Splay forests in memory: splay.
  Trees of a splay forest, plain: what is kept at each node, and what turns do to it.
  What a turn does, handle by handle.
-/
import Derived.Test.YtndkbhlfbeiniaaTabM
import Derived.Test.YtndkbhlfbeiniaaG0
import Derived.Test.YtndkbhlfbeiniaaHpE
namespace Go.Proofs.Ytndkbhlfbeiniaa.ArQPtr
open Go Go.Hp
set_option linter.all false
set_option maxRecDepth 100000

theorem many_le' {A : Ar} {k : Nat} (ok : A.Ok k) : A.many ≤ 4096 := Nat.le_trans ok.most ok.room
theorem at_some {H : Heap} {p g : Nat} {A : Ar} {h : Nat} {v z : List Value} {K : Value → Heap → Prop} (hA : ArAt H p g 1 z A) (hg : A.get h = some v)
  (hk : K (.pointer (some ⟨g, h * 3, none⟩)) H) : CallsH Try.prog 69 #[.pointer (some ⟨p, 0, none⟩), .int .i64 h] H K := by
 obtain ⟨c, rest, b1, b2, hl, hc⟩ := hA.at_
 have h2 := b1.cellOf (i := 2) rfl
 have hlt := Ar.get_some_lt hg
 have h1 := Ar.pos_of_get hA.ok hg
 have hu : hcell H ⟨g, h * 3 + 1, none⟩ = some (.bool true) := by
  have := b2.cellOf (slot_used hA.ok hA.zl hlt)
  rw [hg] at this
  exact this
 have e1 : ((h : Int) < 1) = False := by simp; omega
 have e2 : (A.vals.length ≤ h) = False := by simp; omega
 refine call69 (by simp) ?_
 simp only [Try.f69, Option.getD_some]
 repeat' (first|(with_reducible first|refine jA ?_|(refine hK _ _ ?_;clear hK K)|refine jJ fun K hK=>?_|refine jK ?_|refine jL ?_|refine jM ?_|refine jN ?_|refine jO ?_|refine jP ?_|refine jQ ?_|(refine jB ?_;clear hK K)|(refine jC ?_;clear hK K)|refine jD ?_|refine jE ?_|refine jG ?_|refine jH ?_|refine jI ?_)|((with_reducible refine jR ?hq ?_);case hq=>rfl)|((first|(with_reducible first|refine jS fun K hK=>?_|refine jT ?_|refine jU ?_)|((with_reducible refine jV ?hy fun K hK=>?_);case hy=>rfl));simp only [go_sem, Nat.reduceEqDiff, Nat.reduceAdd, Nat.reduceMul, Nat.reduceLeDiff, Nat.reduceLT, Int.reduceLT, Int.reduceLE, Int.reduceEq, Int.reduceNeg, Int.reduceToNat, Nat.reducePow, reduceIte, reduceCtorEq, h2, hu, e1, e2, hlt])|((with_reducible first|refine jW ?hy ?_|refine jY ?hy ?_);case hy=>rfl)|((with_reducible first|refine jX ?hy ?_|refine jZ ?hy ?_);case hy=>rfl)|((with_reducible refine jF ?hy ?_);case hy=>decide))
 exact hk
theorem at_none {H : Heap} {p g : Nat} {A : Ar} {i : Int} {z : List Value} {K : Value → Heap → Prop} (hA : ArAt H p g 1 z A) (hg : i < 1 ∨ A.get i.toNat = none)
  (hk : K (.pointer none) H) : CallsH Try.prog 69 #[.pointer (some ⟨p, 0, none⟩), .int .i64 i] H K := by
 obtain ⟨c, rest, b1, b2, hl, hc⟩ := hA.at_
 have h2 := b1.cellOf (i := 2) rfl
 refine call69 (by simp) ?_
 simp only [Try.f69, Option.getD_some]
 by_cases h1 : i < 1
 ·have e1 : (i < 1) = True := by simp [h1]
  repeat' (first|(with_reducible first|refine jA ?_|(refine hK _ _ ?_;clear hK K)|refine jJ fun K hK=>?_|refine jK ?_|refine jL ?_|refine jM ?_|refine jN ?_|refine jO ?_|refine jP ?_|refine jQ ?_|(refine jB ?_;clear hK K)|(refine jC ?_;clear hK K)|refine jD ?_|refine jE ?_|refine jG ?_|refine jH ?_|refine jI ?_)|((with_reducible refine jR ?hq ?_);case hq=>rfl)|((first|(with_reducible first|refine jS fun K hK=>?_|refine jT ?_|refine jU ?_)|((with_reducible refine jV ?hy fun K hK=>?_);case hy=>rfl));simp only [go_sem, Nat.reduceEqDiff, Nat.reduceAdd, Nat.reduceMul, Nat.reduceLeDiff, Nat.reduceLT, Int.reduceLT, Int.reduceLE, Int.reduceEq, Int.reduceNeg, Int.reduceToNat, Nat.reducePow, reduceIte, reduceCtorEq, h2, e1])|((with_reducible first|refine jW ?hy ?_|refine jY ?hy ?_);case hy=>rfl)|((with_reducible first|refine jX ?hy ?_|refine jZ ?hy ?_);case hy=>rfl)|((with_reducible refine jF ?hy ?_);case hy=>decide))
  exact hk
 ·have e1 : (i < 1) = False := by simp [h1]
  obtain ⟨h, rfl⟩ := Int.eq_ofNat_of_zero_le (show 0 ≤ i by omega)
  have hg' : A.get h = none := by simpa [h1] using hg
  by_cases hlt : h < A.vals.length
  ·have hu : hcell H ⟨g, h * 3 + 1, none⟩ = some (.bool false) := by
    have := b2.cellOf (slot_used hA.ok hA.zl hlt)
    rw [hg'] at this
    exact this
   have e2 : (A.vals.length ≤ h) = False := by simp; omega
   repeat' (first|(with_reducible first|refine jA ?_|(refine hK _ _ ?_;clear hK K)|refine jJ fun K hK=>?_|refine jK ?_|refine jL ?_|refine jM ?_|refine jN ?_|refine jO ?_|refine jP ?_|refine jQ ?_|(refine jB ?_;clear hK K)|(refine jC ?_;clear hK K)|refine jD ?_|refine jE ?_|refine jG ?_|refine jH ?_|refine jI ?_)|((with_reducible refine jR ?hq ?_);case hq=>rfl)|((first|(with_reducible first|refine jS fun K hK=>?_|refine jT ?_|refine jU ?_)|((with_reducible refine jV ?hy fun K hK=>?_);case hy=>rfl));simp only [go_sem, Nat.reduceEqDiff, Nat.reduceAdd, Nat.reduceMul, Nat.reduceLeDiff, Nat.reduceLT, Int.reduceLT, Int.reduceLE, Int.reduceEq, Int.reduceNeg, Int.reduceToNat, Nat.reducePow, reduceIte, reduceCtorEq, h2, hu, e1, e2, hlt])|((with_reducible first|refine jW ?hy ?_|refine jY ?hy ?_);case hy=>rfl)|((with_reducible first|refine jX ?hy ?_|refine jZ ?hy ?_);case hy=>rfl)|((with_reducible refine jF ?hy ?_);case hy=>decide))
   exact hk
  ·have e2 : (A.vals.length ≤ h) = True := by simp; omega
   repeat' (first|(with_reducible first|refine jA ?_|(refine hK _ _ ?_;clear hK K)|refine jJ fun K hK=>?_|refine jK ?_|refine jL ?_|refine jM ?_|refine jN ?_|refine jO ?_|refine jP ?_|refine jQ ?_|(refine jB ?_;clear hK K)|(refine jC ?_;clear hK K)|refine jD ?_|refine jE ?_|refine jG ?_|refine jH ?_|refine jI ?_)|((with_reducible refine jR ?hq ?_);case hq=>rfl)|((first|(with_reducible first|refine jS fun K hK=>?_|refine jT ?_|refine jU ?_)|((with_reducible refine jV ?hy fun K hK=>?_);case hy=>rfl));simp only [go_sem, Nat.reduceEqDiff, Nat.reduceAdd, Nat.reduceMul, Nat.reduceLeDiff, Nat.reduceLT, Int.reduceLT, Int.reduceLE, Int.reduceEq, Int.reduceNeg, Int.reduceToNat, Nat.reducePow, reduceIte, reduceCtorEq, h2, e1, e2])|((with_reducible first|refine jW ?hy ?_|refine jY ?hy ?_);case hy=>rfl)|((with_reducible first|refine jX ?hy ?_|refine jZ ?hy ?_);case hy=>rfl)|((with_reducible refine jF ?hy ?_);case hy=>decide))
   exact hk
theorem get_some {H : Heap} {p g : Nat} {A : Ar} {h : Nat} {v : Option Addr} {z : List Value} {K : Value → Heap → Prop} (hA : ArAt H p g 1 z A) (hg : A.get h = some [.pointer v])
  (hk : K (.tuple #[.pointer v, .int .i64 0]) H) : CallsH Try.prog 63 #[.pointer (some ⟨p, 0, none⟩), .int .i64 h] H K := by
 obtain ⟨c, rest, b1, b2, hl, hc⟩ := hA.at_
 have hv : hcell H ⟨g, h * 3, none⟩ = some (.pointer v) := b2.cellOf (by
  have := slot_val hA.ok hA.zl (rest := rest) (j := 0) hg (by omega)
  simpa using this)
 refine call63 (by simp) ?_
 simp only [Try.f63, Option.getD_some]
 repeat' (first|(with_reducible first|refine jA ?_|(refine hK _ _ ?_;clear hK K)|refine jJ fun K hK=>?_|refine jK ?_|refine jL ?_|refine jM ?_|refine jN ?_|refine jO ?_|refine jP ?_|refine jQ ?_|(refine jB ?_;clear hK K)|(refine jC ?_;clear hK K)|refine jD ?_|refine jE ?_|refine jG ?_|refine jH ?_|refine jI ?_)|((with_reducible refine jR ?hq ?_);case hq=>rfl)|((first|(with_reducible first|refine jS fun K hK=>?_|refine jT ?_|refine jU ?_)|((with_reducible refine jV ?hy fun K hK=>?_);case hy=>rfl));simp only [go_sem, Nat.reduceEqDiff, Nat.reduceAdd, Nat.reduceMul, Nat.reduceLeDiff, Nat.reduceLT, Int.reduceLT, Int.reduceLE, Int.reduceEq, Int.reduceNeg, Int.reduceToNat, Nat.reducePow, reduceIte, reduceCtorEq, hv])|((with_reducible first|refine jW ?hy ?_|refine jY ?hy ?_);case hy=>rfl)|((with_reducible first|refine jX ?hy ?_|refine jZ ?hy ?_);case hy=>rfl)|((with_reducible refine jF ?hy ?_);case hy=>decide))
 refine at_some hA hg ?_
 repeat' (first|(with_reducible first|refine jA ?_|(refine hK _ _ ?_;clear hK K)|refine jJ fun K hK=>?_|refine jK ?_|refine jL ?_|refine jM ?_|refine jN ?_|refine jO ?_|refine jP ?_|refine jQ ?_|(refine jB ?_;clear hK K)|(refine jC ?_;clear hK K)|refine jD ?_|refine jE ?_|refine jG ?_|refine jH ?_|refine jI ?_)|((with_reducible refine jR ?hq ?_);case hq=>rfl)|((first|(with_reducible first|refine jS fun K hK=>?_|refine jT ?_|refine jU ?_)|((with_reducible refine jV ?hy fun K hK=>?_);case hy=>rfl));simp only [go_sem, Nat.reduceEqDiff, Nat.reduceAdd, Nat.reduceMul, Nat.reduceLeDiff, Nat.reduceLT, Int.reduceLT, Int.reduceLE, Int.reduceEq, Int.reduceNeg, Int.reduceToNat, Nat.reducePow, reduceIte, reduceCtorEq, hv])|((with_reducible first|refine jW ?hy ?_|refine jY ?hy ?_);case hy=>rfl)|((with_reducible first|refine jX ?hy ?_|refine jZ ?hy ?_);case hy=>rfl)|((with_reducible refine jF ?hy ?_);case hy=>decide))
 exact hk
theorem get_none {H : Heap} {p g : Nat} {A : Ar} {i : Int} {z : List Value} {K : Value → Heap → Prop} (hA : ArAt H p g 1 z A) (hg : i < 1 ∨ A.get i.toNat = none)
  (hk : K (.tuple #[.pointer none, .int .i64 21]) H) : CallsH Try.prog 63 #[.pointer (some ⟨p, 0, none⟩), .int .i64 i] H K := by
 refine call63 (by simp) ?_
 simp only [Try.f63, Option.getD_some]
 repeat' (first|(with_reducible first|refine jA ?_|(refine hK _ _ ?_;clear hK K)|refine jJ fun K hK=>?_|refine jK ?_|refine jL ?_|refine jM ?_|refine jN ?_|refine jO ?_|refine jP ?_|refine jQ ?_|(refine jB ?_;clear hK K)|(refine jC ?_;clear hK K)|refine jD ?_|refine jE ?_|refine jG ?_|refine jH ?_|refine jI ?_)|((with_reducible refine jR ?hq ?_);case hq=>rfl)|((first|(with_reducible first|refine jS fun K hK=>?_|refine jT ?_|refine jU ?_)|((with_reducible refine jV ?hy fun K hK=>?_);case hy=>rfl));simp only [go_sem, Nat.reduceEqDiff, Nat.reduceAdd, Nat.reduceMul, Nat.reduceLeDiff, Nat.reduceLT, Int.reduceLT, Int.reduceLE, Int.reduceEq, Int.reduceNeg, Int.reduceToNat, Nat.reducePow, reduceIte, reduceCtorEq])|((with_reducible first|refine jW ?hy ?_|refine jY ?hy ?_);case hy=>rfl)|((with_reducible first|refine jX ?hy ?_|refine jZ ?hy ?_);case hy=>rfl)|((with_reducible refine jF ?hy ?_);case hy=>decide))
 refine at_none hA hg ?_
 repeat' (first|(with_reducible first|refine jA ?_|(refine hK _ _ ?_;clear hK K)|refine jJ fun K hK=>?_|refine jK ?_|refine jL ?_|refine jM ?_|refine jN ?_|refine jO ?_|refine jP ?_|refine jQ ?_|(refine jB ?_;clear hK K)|(refine jC ?_;clear hK K)|refine jD ?_|refine jE ?_|refine jG ?_|refine jH ?_|refine jI ?_)|((with_reducible refine jR ?hq ?_);case hq=>rfl)|((first|(with_reducible first|refine jS fun K hK=>?_|refine jT ?_|refine jU ?_)|((with_reducible refine jV ?hy fun K hK=>?_);case hy=>rfl));simp only [go_sem, Nat.reduceEqDiff, Nat.reduceAdd, Nat.reduceMul, Nat.reduceLeDiff, Nat.reduceLT, Int.reduceLT, Int.reduceLE, Int.reduceEq, Int.reduceNeg, Int.reduceToNat, Nat.reducePow, reduceIte, reduceCtorEq])|((with_reducible first|refine jW ?hy ?_|refine jY ?hy ?_);case hy=>rfl)|((with_reducible first|refine jX ?hy ?_|refine jZ ?hy ?_);case hy=>rfl)|((with_reducible refine jF ?hy ?_);case hy=>decide))
 exact hk
theorem new_bad {H : Heap} {n : Int} {K : Value → Heap → Prop} (hn : n < 0 ∨ 4096 < n) (hk : K (.tuple #[.pointer none, .int .i64 1]) H) : CallsH Try.prog 49 #[.int .i64 n] H K := by
 refine call49 (by simp) ?_
 simp only [Try.f49, Option.getD_some]
 by_cases h0 : n < 0
 ·have e1 : (n < 0) = True := by simp [h0]
  repeat' (first|(with_reducible first|refine jA ?_|(refine hK _ _ ?_;clear hK K)|refine jJ fun K hK=>?_|refine jK ?_|refine jL ?_|refine jM ?_|refine jN ?_|refine jO ?_|refine jP ?_|refine jQ ?_|(refine jB ?_;clear hK K)|(refine jC ?_;clear hK K)|refine jD ?_|refine jE ?_|refine jG ?_|refine jH ?_|refine jI ?_)|((with_reducible refine jR ?hq ?_);case hq=>rfl)|((first|(with_reducible first|refine jS fun K hK=>?_|refine jT ?_|refine jU ?_)|((with_reducible refine jV ?hy fun K hK=>?_);case hy=>rfl));simp only [go_sem, Nat.reduceEqDiff, Nat.reduceAdd, Nat.reduceMul, Nat.reduceLeDiff, Nat.reduceLT, Int.reduceLT, Int.reduceLE, Int.reduceEq, Int.reduceNeg, Int.reduceToNat, Nat.reducePow, reduceIte, reduceCtorEq, e1])|((with_reducible first|refine jW ?hy ?_|refine jY ?hy ?_);case hy=>rfl)|((with_reducible first|refine jX ?hy ?_|refine jZ ?hy ?_);case hy=>rfl)|((with_reducible refine jF ?hy ?_);case hy=>decide))
  exact hk
 ·have e1 : (n < 0) = False := by simp [h0]
  have e2 : (4096 < n) = True := by simp; omega
  repeat' (first|(with_reducible first|refine jA ?_|(refine hK _ _ ?_;clear hK K)|refine jJ fun K hK=>?_|refine jK ?_|refine jL ?_|refine jM ?_|refine jN ?_|refine jO ?_|refine jP ?_|refine jQ ?_|(refine jB ?_;clear hK K)|(refine jC ?_;clear hK K)|refine jD ?_|refine jE ?_|refine jG ?_|refine jH ?_|refine jI ?_)|((with_reducible refine jR ?hq ?_);case hq=>rfl)|((first|(with_reducible first|refine jS fun K hK=>?_|refine jT ?_|refine jU ?_)|((with_reducible refine jV ?hy fun K hK=>?_);case hy=>rfl));simp only [go_sem, Nat.reduceEqDiff, Nat.reduceAdd, Nat.reduceMul, Nat.reduceLeDiff, Nat.reduceLT, Int.reduceLT, Int.reduceLE, Int.reduceEq, Int.reduceNeg, Int.reduceToNat, Nat.reducePow, reduceIte, reduceCtorEq, e1, e2])|((with_reducible first|refine jW ?hy ?_|refine jY ?hy ?_);case hy=>rfl)|((with_reducible first|refine jX ?hy ?_|refine jZ ?hy ?_);case hy=>rfl)|((with_reducible refine jF ?hy ?_);case hy=>decide))
  exact hk
theorem new_ok {H : Heap} {n : Nat} {K : Value → Heap → Prop} (hn : n ≤ 4096) (hk : ∀ H' p g, ArAt H' p g 1 [.pointer none] (Ar.new n) → Fr (fun _ => False) H H' → H.size ≤ p → H.size ≤ g → K (.tuple #[.pointer (some ⟨p, 0, none⟩), .int .i64 0]) H') :
  CallsH Try.prog 49 #[.int .i64 n] H K := by
 refine call49 (by simp) ?_
 simp only [Try.f49, Option.getD_some]
 have e1 : ((n : Int) < 0) = False := by simp
 have e2 : (4096 < (n : Int)) = False := by simp; omega
 repeat' (first|(with_reducible first|refine jA ?_|(refine hK _ _ ?_;clear hK K)|refine jJ fun K hK=>?_|refine jK ?_|refine jL ?_|refine jM ?_|refine jN ?_|refine jO ?_|refine jP ?_|refine jQ ?_|(refine jB ?_;clear hK K)|(refine jC ?_;clear hK K)|refine jD ?_|refine jE ?_|refine jG ?_|refine jH ?_|refine jI ?_)|((with_reducible refine jR ?hq ?_);case hq=>rfl)|((first|(with_reducible first|refine jS fun K hK=>?_|refine jT ?_|refine jU ?_)|((with_reducible refine jV ?hy fun K hK=>?_);case hy=>rfl));simp only [go_sem, Nat.reduceEqDiff, Nat.reduceAdd, Nat.reduceMul, Nat.reduceLeDiff, Nat.reduceLT, Int.reduceLT, Int.reduceLE, Int.reduceEq, Int.reduceNeg, Int.reduceToNat, Nat.reducePow, reduceIte, reduceCtorEq, e1, e2])|((with_reducible first|refine jW ?hy ?_|refine jY ?hy ?_);case hy=>rfl)|((with_reducible first|refine jX ?hy ?_|refine jZ ?hy ?_);case hy=>rfl)|((with_reducible refine jF ?hy ?_);case hy=>decide))
 refine hk _ _ H.size ⟨Ar.Ok.new hn, rfl, by simp, 1, [], Blk.new _ _ _, ?_, by simp [Ar.rows, Ar.new, slotC], by simp [Ar.new]⟩ (((Fr.refl _ _).push _).push _) (by simp) (Nat.le_refl _)
 exact (Blk.new H _ _).push _
theorem drop_none {H : Heap} {p g : Nat} {A : Ar} {i : Int} {z : List Value} {K : Value → Heap → Prop} (hA : ArAt H p g 1 z A) (hg : i < 1 ∨ A.get i.toNat = none)
  (hk : K (.int .i64 21) H) : CallsH Try.prog 45 #[.pointer (some ⟨p, 0, none⟩), .int .i64 i] H K := by
 refine call45 (by simp) ?_
 simp only [Try.f45, Option.getD_some]
 repeat' (first|(with_reducible first|refine jA ?_|(refine hK _ _ ?_;clear hK K)|refine jJ fun K hK=>?_|refine jK ?_|refine jL ?_|refine jM ?_|refine jN ?_|refine jO ?_|refine jP ?_|refine jQ ?_|(refine jB ?_;clear hK K)|(refine jC ?_;clear hK K)|refine jD ?_|refine jE ?_|refine jG ?_|refine jH ?_|refine jI ?_)|((with_reducible refine jR ?hq ?_);case hq=>rfl)|((first|(with_reducible first|refine jS fun K hK=>?_|refine jT ?_|refine jU ?_)|((with_reducible refine jV ?hy fun K hK=>?_);case hy=>rfl));simp only [go_sem, Nat.reduceEqDiff, Nat.reduceAdd, Nat.reduceMul, Nat.reduceLeDiff, Nat.reduceLT, Int.reduceLT, Int.reduceLE, Int.reduceEq, Int.reduceNeg, Int.reduceToNat, Nat.reducePow, reduceIte, reduceCtorEq])|((with_reducible first|refine jW ?hy ?_|refine jY ?hy ?_);case hy=>rfl)|((with_reducible first|refine jX ?hy ?_|refine jZ ?hy ?_);case hy=>rfl)|((with_reducible refine jF ?hy ?_);case hy=>decide))
 refine at_none hA hg ?_
 repeat' (first|(with_reducible first|refine jA ?_|(refine hK _ _ ?_;clear hK K)|refine jJ fun K hK=>?_|refine jK ?_|refine jL ?_|refine jM ?_|refine jN ?_|refine jO ?_|refine jP ?_|refine jQ ?_|(refine jB ?_;clear hK K)|(refine jC ?_;clear hK K)|refine jD ?_|refine jE ?_|refine jG ?_|refine jH ?_|refine jI ?_)|((with_reducible refine jR ?hq ?_);case hq=>rfl)|((first|(with_reducible first|refine jS fun K hK=>?_|refine jT ?_|refine jU ?_)|((with_reducible refine jV ?hy fun K hK=>?_);case hy=>rfl));simp only [go_sem, Nat.reduceEqDiff, Nat.reduceAdd, Nat.reduceMul, Nat.reduceLeDiff, Nat.reduceLT, Int.reduceLT, Int.reduceLE, Int.reduceEq, Int.reduceNeg, Int.reduceToNat, Nat.reducePow, reduceIte, reduceCtorEq])|((with_reducible first|refine jW ?hy ?_|refine jY ?hy ?_);case hy=>rfl)|((with_reducible first|refine jX ?hy ?_|refine jZ ?hy ?_);case hy=>rfl)|((with_reducible refine jF ?hy ?_);case hy=>decide))
 exact hk
theorem drop_some {H : Heap} {p g : Nat} {A : Ar} {h : Nat} {u : List Value} {K : Value → Heap → Prop} (hA : ArAt H p g 1 [.pointer none] A) (hg : A.get h = some u)
  (hk : ∀ H', ArAt H' p g 1 [.pointer none] (A.drop h) → Fr (fun b => b = g ∨ b = p) H H' → K (.int .i64 0) H') : CallsH Try.prog 45 #[.pointer (some ⟨p, 0, none⟩), .int .i64 h] H K := by
 obtain ⟨c, rest, b1, b2, hl, hc⟩ := hA.at_
 have hh := Ar.get_some_lt hg
 have w0 := b2.okW (off_lt (j := 0) hA.zl hA.ok hh (by omega) rest)
 have w1 := b2.okW (off_lt (j := 1) hA.zl hA.ok hh (by omega) rest)
 have w2 := b2.okW (off_lt (j := 2) hA.zl hA.ok hh (by omega) rest)
 simp only [Nat.add_zero, Nat.reduceAdd] at w0 w1 w2
 have h3 := b1.cellOf (i := 3) rfl
 have h1 := b1.cellOf (i := 1) rfl
 have v1 := b1.okW (i := 1) (by simp)
 have v3 := b1.okW (i := 3) (by simp)
 have ne := hA.ne
 have hmd := Ar.many_drop hg
 have hml := many_le' hA.ok
 have ew : IntKind.i64.wrap ((A.many : Int) - 1) = ((A.drop h).many : Nat) := by rw [← hmd, wrap_i64] <;> omega
 refine call45 (by simp) ?_
 simp only [Try.f45, Option.getD_some]
 repeat' (first|(with_reducible first|refine jA ?_|(refine hK _ _ ?_;clear hK K)|refine jJ fun K hK=>?_|refine jK ?_|refine jL ?_|refine jM ?_|refine jN ?_|refine jO ?_|refine jP ?_|refine jQ ?_|(refine jB ?_;clear hK K)|(refine jC ?_;clear hK K)|refine jD ?_|refine jE ?_|refine jG ?_|refine jH ?_|refine jI ?_)|((with_reducible refine jR ?hq ?_);case hq=>rfl)|((first|(with_reducible first|refine jS fun K hK=>?_|refine jT ?_|refine jU ?_)|((with_reducible refine jV ?hy fun K hK=>?_);case hy=>rfl));simp only [go_sem, Nat.reduceEqDiff, Nat.reduceAdd, Nat.reduceMul, Nat.reduceLeDiff, Nat.reduceLT, Int.reduceLT, Int.reduceLE, Int.reduceEq, Int.reduceNeg, Int.reduceToNat, Nat.reducePow, reduceIte, reduceCtorEq])|((with_reducible first|refine jW ?hy ?_|refine jY ?hy ?_);case hy=>rfl)|((with_reducible first|refine jX ?hy ?_|refine jZ ?hy ?_);case hy=>rfl)|((with_reducible refine jF ?hy ?_);case hy=>decide))
 refine at_some hA hg ?_
 repeat' (first|(with_reducible first|refine jA ?_|(refine hK _ _ ?_;clear hK K)|refine jJ fun K hK=>?_|refine jK ?_|refine jL ?_|refine jM ?_|refine jN ?_|refine jO ?_|refine jP ?_|refine jQ ?_|(refine jB ?_;clear hK K)|(refine jC ?_;clear hK K)|refine jD ?_|refine jE ?_|refine jG ?_|refine jH ?_|refine jI ?_)|((with_reducible refine jR ?hq ?_);case hq=>rfl)|((first|(with_reducible first|refine jS fun K hK=>?_|refine jT ?_|refine jU ?_)|((with_reducible refine jV ?hy fun K hK=>?_);case hy=>rfl));simp only [go_sem, Nat.reduceEqDiff, Nat.reduceAdd, Nat.reduceMul, Nat.reduceLeDiff, Nat.reduceLT, Int.reduceLT, Int.reduceLE, Int.reduceEq, Int.reduceNeg, Int.reduceToNat, Nat.reducePow, reduceIte, reduceCtorEq, h3, h1, w0, w1, w2, v1, v3, okW_hset, hcell_hset_ne, hcell_hset_off, ne, ew])|((with_reducible first|refine jW ?hy ?_|refine jY ?hy ?_);case hy=>rfl)|((with_reducible first|refine jX ?hy ?_|refine jZ ?hy ?_);case hy=>rfl)|((with_reducible refine jF ?hy ?_);case hy=>decide))
 refine hk _ ⟨hA.ok.drop hg, hA.zl, hA.ne, c, rest, ?_, ?_, by simpa [Ar.drop] using hl, by simpa [Ar.drop] using hc⟩ (by ((repeat (first | refine Fr.set ?_ (by simp) _ | refine Fr.push ?_ _)); exact Fr.refl _ _))
 ·rw [show (A.drop h).vals.length = A.vals.length by simp [Ar.drop]]
  exact ((((b1.set_ne ne _).set_ne ne _).set_ne ne _).set_same 3 _).set_same 1 _
 ·rw [rows_drop hh, List.singleton_append, ← rows3 (Ar.rows_w hA.zl hA.ok) (by rw [Ar.rows_length]; exact hh)]
  exact ((((b2.set_same _ _).set_same _ _).set_same _ _).set_ne (Ne.symm ne) _).set_ne (Ne.symm ne) _
theorem put_full {H : Heap} {p g : Nat} {A : Ar} {v : Option Addr} {z : List Value} {K : Value → Heap → Prop} (hA : ArAt H p g 1 z A) (hf : A.many = A.room)
  (hk : K (.tuple #[.int .i64 0, .int .i64 20]) H) : CallsH Try.prog 44 #[.pointer (some ⟨p, 0, none⟩), .pointer v] H K := by
 obtain ⟨c, rest, b1, b2, hl, hc⟩ := hA.at_
 have h1 := b1.cellOf (i := 1) rfl
 have h0 := b1.cellOf (i := 0) rfl
 rw [← hf] at h0
 refine call44 (by simp) ?_
 simp only [Try.f44, Option.getD_some]
 repeat' (first|(with_reducible first|refine jA ?_|(refine hK _ _ ?_;clear hK K)|refine jJ fun K hK=>?_|refine jK ?_|refine jL ?_|refine jM ?_|refine jN ?_|refine jO ?_|refine jP ?_|refine jQ ?_|(refine jB ?_;clear hK K)|(refine jC ?_;clear hK K)|refine jD ?_|refine jE ?_|refine jG ?_|refine jH ?_|refine jI ?_)|((with_reducible refine jR ?hq ?_);case hq=>rfl)|((first|(with_reducible first|refine jS fun K hK=>?_|refine jT ?_|refine jU ?_)|((with_reducible refine jV ?hy fun K hK=>?_);case hy=>rfl));simp only [go_sem, Nat.reduceEqDiff, Nat.reduceAdd, Nat.reduceMul, Nat.reduceLeDiff, Nat.reduceLT, Int.reduceLT, Int.reduceLE, Int.reduceEq, Int.reduceNeg, Int.reduceToNat, Nat.reducePow, reduceIte, reduceCtorEq, h0, h1])|((with_reducible first|refine jW ?hy ?_|refine jY ?hy ?_);case hy=>rfl)|((with_reducible first|refine jX ?hy ?_|refine jZ ?hy ?_);case hy=>rfl)|((with_reducible refine jF ?hy ?_);case hy=>decide))
 exact hk
theorem put_old {H : Heap} {p g : Nat} {A : Ar} {h : Nat} {fs : List Nat} {v : Option Addr} {z : List Value} {K : Value → Heap → Prop} (hA : ArAt H p g 1 z A) (hm : A.many < A.room) (hf : A.free = h :: fs)
  (hk : ∀ H', ArAt H' p g 1 z (A.putOld h [.pointer v]) → Fr (fun b => b = g ∨ b = p) H H' → K (.tuple #[.int .i64 h, .int .i64 0]) H') : CallsH Try.prog 44 #[.pointer (some ⟨p, 0, none⟩), .pointer v] H K := by
 obtain ⟨c, rest, b1, b2, hl, hc⟩ := hA.at_
 obtain ⟨hp, hh, hg⟩ := (hA.ok.mem h).1 (by rw [hf]; exact .head _)
 have w0 := b2.okW (off_lt (j := 0) hA.zl hA.ok hh (by omega) rest)
 have w1 := b2.okW (off_lt (j := 1) hA.zl hA.ok hh (by omega) rest)
 have w2 := b2.okW (off_lt (j := 2) hA.zl hA.ok hh (by omega) rest)
 have n2 := b2.cellOf (slot_next hA.ok hA.zl (rest := rest) hh hg)
 simp only [Nat.add_zero, Nat.reduceAdd] at w0 w1 w2 n2
 have h0 := b1.cellOf (i := 0) rfl
 have h1 := b1.cellOf (i := 1) rfl
 have h2 := b1.cellOf (i := 2) rfl
 have h3 := b1.cellOf (i := 3) rfl
 have v1 := b1.okW (i := 1) (by simp)
 have v3 := b1.okW (i := 3) (by simp)
 rw [hf] at h3 n2
 simp only [List.headD_cons] at h3
 have en : nextOf (h :: fs) h = fs.headD 0 := by simp [nextOf]
 rw [en] at n2
 have ne := hA.ne
 have ne' := Ne.symm hA.ne
 have hmp := Ar.many_putOld (v := [.pointer v]) hA.ok (show h ∈ A.free by rw [hf]; exact .head _)
 have hml := many_le' hA.ok
 have ew : IntKind.i64.wrap ((A.many : Int) + 1) = ((A.putOld h [.pointer v]).many : Nat) := by rw [hmp, wrap_i64] <;> omega
 have e1 : ((A.many : Int) == (A.room : Int)) = false := by simp; omega
 have e2 : ((h : Int) == 0) = false := by simp; omega
 refine call44 (by simp) ?_
 simp only [Try.f44, Option.getD_some]
 repeat' (first|(with_reducible first|refine jA ?_|(refine hK _ _ ?_;clear hK K)|refine jJ fun K hK=>?_|refine jK ?_|refine jL ?_|refine jM ?_|refine jN ?_|refine jO ?_|refine jP ?_|refine jQ ?_|(refine jB ?_;clear hK K)|(refine jC ?_;clear hK K)|refine jD ?_|refine jE ?_|refine jG ?_|refine jH ?_|refine jI ?_)|((with_reducible refine jR ?hq ?_);case hq=>rfl)|((first|(with_reducible first|refine jS fun K hK=>?_|refine jT ?_|refine jU ?_)|((with_reducible refine jV ?hy fun K hK=>?_);case hy=>rfl));simp only [go_sem, Nat.reduceEqDiff, Nat.reduceAdd, Nat.reduceMul, Nat.reduceLeDiff, Nat.reduceLT, Int.reduceLT, Int.reduceLE, Int.reduceEq, Int.reduceNeg, Int.reduceToNat, Nat.reducePow, reduceIte, reduceCtorEq, h0, h1, h2, h3, n2, hh, w0, w1, w2, v1, v3, okW_hset, hcell_hset_ne, hcell_hset_off, ne, ne', ew, e1, e2])|((with_reducible first|refine jW ?hy ?_|refine jY ?hy ?_);case hy=>rfl)|((with_reducible first|refine jX ?hy ?_|refine jZ ?hy ?_);case hy=>rfl)|((with_reducible refine jF ?hy ?_);case hy=>decide))
 refine hk _ ⟨hA.ok.putOld hf hm rfl, hA.zl, hA.ne, c, rest, ?_, ?_, by simpa [Ar.putOld] using hl, by simpa [Ar.putOld] using hc⟩ (by ((repeat (first | refine Fr.set ?_ (by simp) _ | refine Fr.push ?_ _)); exact Fr.refl _ _))
 ·rw [show (A.putOld h [(.pointer v : Value)]).vals.length = A.vals.length by simp [Ar.putOld], show (A.putOld h [(.pointer v : Value)]).free = fs by simp [Ar.putOld, hf]]
  exact (((((b1.set_same 1 _).set_same 3 _).set_ne ne _).set_ne ne _).set_ne ne _)
 ·rw [rows_putOld _ hA.ok hf, List.singleton_append, ← rows3 (Ar.rows_w hA.zl hA.ok) (by rw [Ar.rows_length]; exact hh)]
  exact (((((b2.set_ne ne' _).set_ne ne' _).set_same _ _).set_same _ _).set_same _ _)
theorem put_new {H : Heap} {p g : Nat} {A : Ar} {v : Option Addr} {K : Value → Heap → Prop} (hA : ArAt H p g 1 [.pointer none] A) (hm : A.many < A.room) (hf : A.free = [])
  (hk : ∀ H' g', ArAt H' p g' 1 [.pointer none] (A.putNew [.pointer v]) → Fr (fun b => b = g ∨ b = p) H H' → (g' = g ∨ H.size ≤ g') → K (.tuple #[.int .i64 A.vals.length, .int .i64 0]) H') : CallsH Try.prog 44 #[.pointer (some ⟨p, 0, none⟩), .pointer v] H K := by
 obtain ⟨c, rest, b1, b2, hl, hc⟩ := hA.at_
 have h0 := b1.cellOf (i := 0) rfl
 have h1 := b1.cellOf (i := 1) rfl
 have h2 := b1.cellOf (i := 2) rfl
 have h3 := b1.cellOf (i := 3) rfl
 have v1 := b1.okW (i := 1) (by simp)
 rw [hf] at h3
 simp only [List.headD_nil] at h3
 have ne := hA.ne
 have hmp : (A.putNew [.pointer v]).many = A.many + 1 := Ar.many_putNew
 have hml := many_le' hA.ok
 have ew : IntKind.i64.wrap ((A.many : Int) + 1) = ((A.putNew [.pointer v]).many : Nat) := by rw [hmp, wrap_i64] <;> omega
 have e1 : ((A.many : Int) == (A.room : Int)) = false := by simp; omega
 refine call44 (by simp) ?_
 simp only [Try.f44, Option.getD_some]
 repeat' (first|(with_reducible first|refine jA ?_|(refine hK _ _ ?_;clear hK K)|refine jJ fun K hK=>?_|refine jK ?_|refine jL ?_|refine jM ?_|refine jN ?_|refine jO ?_|refine jP ?_|refine jQ ?_|(refine jB ?_;clear hK K)|(refine jC ?_;clear hK K)|refine jD ?_|refine jE ?_|refine jG ?_|refine jH ?_|refine jI ?_)|((with_reducible refine jR ?hq ?_);case hq=>rfl)|((first|(with_reducible first|refine jS fun K hK=>?_|refine jT ?_|refine jU ?_)|((with_reducible refine jV ?hy fun K hK=>?_);case hy=>rfl));simp only [go_sem, Nat.reduceEqDiff, Nat.reduceAdd, Nat.reduceMul, Nat.reduceLeDiff, Nat.reduceLT, Int.reduceLT, Int.reduceLE, Int.reduceEq, Int.reduceNeg, Int.reduceToNat, Nat.reducePow, reduceIte, reduceCtorEq, h0, h1, h2, h3, v1, okW_hset, hcell_hset_ne, hcell_hset_off, ne, ew, e1])|((with_reducible first|refine jW ?hy ?_|refine jY ?hy ?_);case hy=>rfl)|((with_reducible first|refine jX ?hy ?_|refine jZ ?hy ?_);case hy=>rfl)|((with_reducible refine jF ?hy ?_);case hy=>decide))
 have hcf := Ar.count_free A hA.ok
 rw [hf, List.length_nil] at hcf
 have hfl := flat_length (Ar.rows_w hA.zl hA.ok)
 rw [Ar.rows_length] at hfl
 generalize hH1 : hset H ⟨p, 1, none⟩ (.int .i64 ((A.putNew [.pointer v]).many : Nat)) = H1
 have hs1 : H1.size = H.size := by rw [← hH1, hset_size]
 have b1' : Blk H1 p [.int .i64 A.room, .int .i64 (A.putNew [.pointer v]).many, .slice (some ⟨g, 0, none⟩) A.vals.length c, .int .i64 (A.free.headD 0 : Nat)] := by rw [← hH1]; exact b1.set_same 1 _
 have b2' : Blk H1 g ((A.rows [.pointer none]).flatten ++ rest) := by rw [← hH1]; exact b2.set_ne (Ne.symm ne) _
 have f1 : Fr (fun b => b = g ∨ b = p) H H1 := by rw [← hH1]; exact (by ((repeat (first | refine Fr.set ?_ (by simp) _ | refine Fr.push ?_ _)); exact Fr.refl _ _))
 clear hH1
 refine append_row elems102 tl106 (b2'.push _) hfl hl hc (readL_blk (Blk.new H1 [.pointer v, .bool true, .int .i64 0] _) 3 0 0 (by simp)) (by simp [plainVal]) (by decide) (by simp only []; omega) rfl rfl ?_
 intro H2 g' c' rest' hb2 hl2 hc2 hf2 hg2
 have hpl := b1.lt
 have hgl := b2.lt
 have b1n : Blk H2 p _ := (b1'.push _).frame hf2 (by simpa using ne)
 have h2n := b1n.cellOf (i := 2) rfl
 have w2n := b1n.okW (i := 2) (by simp)
 have ne2 : p ≠ g' := by
  rcases hg2 with rfl | h
  ·exact ne
  ·simp at h; omega
 repeat' (first|(with_reducible first|refine jA ?_|(refine hK _ _ ?_;clear hK K)|refine jJ fun K hK=>?_|refine jK ?_|refine jL ?_|refine jM ?_|refine jN ?_|refine jO ?_|refine jP ?_|refine jQ ?_|(refine jB ?_;clear hK K)|(refine jC ?_;clear hK K)|refine jD ?_|refine jE ?_|refine jG ?_|refine jH ?_|refine jI ?_)|((with_reducible refine jR ?hq ?_);case hq=>rfl)|((first|(with_reducible first|refine jS fun K hK=>?_|refine jT ?_|refine jU ?_)|((with_reducible refine jV ?hy fun K hK=>?_);case hy=>rfl));simp only [go_sem, Nat.reduceEqDiff, Nat.reduceAdd, Nat.reduceMul, Nat.reduceLeDiff, Nat.reduceLT, Int.reduceLT, Int.reduceLE, Int.reduceEq, Int.reduceNeg, Int.reduceToNat, Nat.reducePow, reduceIte, reduceCtorEq, w2n, hcell_hset_same h2n])|((with_reducible first|refine jW ?hy ?_|refine jY ?hy ?_);case hy=>rfl)|((with_reducible first|refine jX ?hy ?_|refine jZ ?hy ?_);case hy=>rfl)|((with_reducible refine jF ?hy ?_);case hy=>decide))
 rw [show IntKind.i64.wrap (((A.vals.length + 1 : Nat) : Int) - 1) = (A.vals.length : Int) by rw [wrap_i64] <;> omega]
 have hlen : (A.putNew [(.pointer v : Value)]).vals.length = A.vals.length + 1 := by simp [Ar.putNew]
 have hs2 := hf2.size
 simp only [Array.size_push] at hs2 hg2
 refine hk _ g' ⟨hA.ok.putNew hf hm rfl, hA.zl, ne2, c', rest', ?_, ?_, by rw [hlen]; exact hl2, by rw [hlen]; exact hc2⟩ ?_ ?_
 ·rw [hlen]
  exact b1n.set_same 2 _
 ·rw [Ar.rows_putNew, List.flatten_append]
  have := hb2.set_ne (a := ⟨p, 2, none⟩) (Ne.symm ne2) (.slice (some ⟨g', 0, none⟩) (A.vals.length + 1) c')
  simpa [slotC] using this
 ·refine (f1.trans' (hf2.trans' (S := (· = g)) (Fr.refl _ _) (fun _ _ h => h) |> fun x => ((Fr.refl (· = g) H1).push _).trans x) fun b _ h => .inl h).set (.inl (.inr rfl)) _
 ·rcases hg2 with h | h
  ·exact .inl h
  ·right; omega
end Go.Proofs.Ytndkbhlfbeiniaa.ArQPtr
namespace Go.Proofs.Ytndkbhlfbeiniaa
open Go Go.Hp Go.Sp
set_option linter.all false
set_option maxRecDepth 100000
set_option maxHeartbeats 1600000

def U (A : Ar) (h : Nat) : Prop := (A.get h).isSome = true
structure FAt (H : Heap) (f p g : Nat) (A : Ar) (nb : Nat → Nat) (N : Nodes) : Prop where
 ff : Blk H f [.pointer (some ⟨p, 0, none⟩)]
 ar : ArAt H p g 1 [.pointer none] A
 use : ∀ h v, A.get h = some v → v = [.pointer (some ⟨nb h, 0, none⟩)]
 nd : ∀ h, U A h → Blk H (nb h) (N h).cells
 inj : ∀ h k, U A h → U A k → nb h = nb k → h = k
 dis : ∀ h, U A h → nb h ≠ f ∧ nb h ≠ p ∧ nb h ≠ g
 fp : f ≠ p ∧ f ≠ g
 cl : Cl (U A) N
def NB (A : Ar) (nb : Nat → Nat) (b : Nat) : Prop := ∃ h, U A h ∧ b = nb h
section
variable {H H' : Heap} {f p g : Nat} {A : Ar} {nb : Nat → Nat} {N : Nodes}
theorem FAt.grow (h : FAt H f p g A nb N) (hf : Fr (fun _ => False) H H') : FAt H' f p g A nb N :=
 ⟨h.ff.frame hf (fun h => h), h.ar.frame hf (fun h => h) (fun h => h), h.use, fun k hk => (h.nd k hk).frame hf (fun h => h), h.inj, h.dis, h.fp, h.cl⟩
theorem FAt.get (h : FAt H f p g A nb N) {k : Nat} (hk : U A k) : A.get k = some [.pointer (some ⟨nb k, 0, none⟩)] := by
 obtain ⟨v, hv⟩ := Option.isSome_iff_exists.1 hk
 rw [hv, h.use k v hv]
theorem FAt.pos (h : FAt H f p g A nb N) {k : Nat} (hk : U A k) : 1 ≤ k := Ar.pos_of_get h.ar.ok (h.get hk)
theorem FAt.set (h : FAt H f p g A nb N) {k : Nat} {r : Rec} (hk : U A k) (hf : Fr (· = nb k) H H') (hb : Blk H' (nb k) r.cells) (hc : Cl (U A) (upd N k r)) : FAt H' f p g A nb (upd N k r) where
 ff := h.ff.frame hf (fun e => (h.dis k hk).1 e.symm)
 ar := h.ar.frame hf (fun e => (h.dis k hk).2.1 e.symm) (fun e => (h.dis k hk).2.2 e.symm)
 use := h.use
 nd := fun i hi => by
  by_cases e : i = k
  ·subst e; rw [upd_same]; exact hb
  ·rw [upd_ne _ _ e]
   exact (h.nd i hi).frame hf (fun e' => e (h.inj _ _ hi hk e'))
 inj := h.inj
 dis := h.dis
 fp := h.fp
 cl := hc
theorem NB.of {k : Nat} (hk : U A k) (hf : Fr (· = nb k) H H') : Fr (NB A nb) H H' := hf.mono fun b _ e => ⟨k, hk, e⟩
theorem node_ok {K : Value → Heap → Prop} (hF : FAt H f p g A nb N) {k : Nat} (hk : U A k) (hK : K (.pointer (some ⟨nb k, 0, none⟩)) H) :
  CallsH Try.prog 38 #[.pointer (some ⟨f, 0, none⟩), .int .i64 k] H K := by
 have h0 := hF.ff.cellOf (i := 0) rfl
 refine call38 (by simp) ?_
 simp only [Try.f38, Option.getD_some]
 repeat' (first|(with_reducible first|refine jA ?_|(refine hK _ _ ?_;clear hK K)|refine jJ fun K hK=>?_|refine jK ?_|refine jL ?_|refine jM ?_|refine jN ?_|refine jO ?_|refine jP ?_|refine jQ ?_|(refine jB ?_;clear hK K)|(refine jC ?_;clear hK K)|refine jD ?_|refine jE ?_|refine jG ?_|refine jH ?_|refine jI ?_)|((with_reducible refine jR ?hq ?_);case hq=>rfl)|((first|(with_reducible first|refine jS fun K hK=>?_|refine jT ?_|refine jU ?_)|((with_reducible refine jV ?hy fun K hK=>?_);case hy=>rfl));simp only [go_sem, Nat.reduceEqDiff, Nat.reduceAdd, Nat.reduceMul, Nat.reduceLeDiff, Nat.reduceLT, Int.reduceLT, Int.reduceLE, Int.reduceEq, Int.reduceNeg, Int.reduceToNat, Nat.reducePow, reduceIte, reduceCtorEq, h0])|((with_reducible first|refine jW ?hy ?_|refine jY ?hy ?_);case hy=>rfl)|((with_reducible first|refine jX ?hy ?_|refine jZ ?hy ?_);case hy=>rfl)|((with_reducible refine jF ?hy ?_);case hy=>decide))
 refine ArQPtr.get_some hF.ar (hF.get hk) ?_
 repeat' (first|(with_reducible first|refine jA ?_|(refine hK _ _ ?_;clear hK K)|refine jJ fun K hK=>?_|refine jK ?_|refine jL ?_|refine jM ?_|refine jN ?_|refine jO ?_|refine jP ?_|refine jQ ?_|(refine jB ?_;clear hK K)|(refine jC ?_;clear hK K)|refine jD ?_|refine jE ?_|refine jG ?_|refine jH ?_|refine jI ?_)|((with_reducible refine jR ?hq ?_);case hq=>rfl)|((first|(with_reducible first|refine jS fun K hK=>?_|refine jT ?_|refine jU ?_)|((with_reducible refine jV ?hy fun K hK=>?_);case hy=>rfl));simp only [go_sem, Nat.reduceEqDiff, Nat.reduceAdd, Nat.reduceMul, Nat.reduceLeDiff, Nat.reduceLT, Int.reduceLT, Int.reduceLE, Int.reduceEq, Int.reduceNeg, Int.reduceToNat, Nat.reducePow, reduceIte, reduceCtorEq])|((with_reducible first|refine jW ?hy ?_|refine jY ?hy ?_);case hy=>rfl)|((with_reducible first|refine jX ?hy ?_|refine jZ ?hy ?_);case hy=>rfl)|((with_reducible refine jF ?hy ?_);case hy=>decide))
 exact hK
theorem node_no {K : Value → Heap → Prop} (hF : FAt H f p g A nb N) {i : Int} (hi : i < 1 ∨ A.get i.toNat = none) (hK : K (.pointer none) H) :
  CallsH Try.prog 38 #[.pointer (some ⟨f, 0, none⟩), .int .i64 i] H K := by
 have h0 := hF.ff.cellOf (i := 0) rfl
 refine call38 (by simp) ?_
 simp only [Try.f38, Option.getD_some]
 repeat' (first|(with_reducible first|refine jA ?_|(refine hK _ _ ?_;clear hK K)|refine jJ fun K hK=>?_|refine jK ?_|refine jL ?_|refine jM ?_|refine jN ?_|refine jO ?_|refine jP ?_|refine jQ ?_|(refine jB ?_;clear hK K)|(refine jC ?_;clear hK K)|refine jD ?_|refine jE ?_|refine jG ?_|refine jH ?_|refine jI ?_)|((with_reducible refine jR ?hq ?_);case hq=>rfl)|((first|(with_reducible first|refine jS fun K hK=>?_|refine jT ?_|refine jU ?_)|((with_reducible refine jV ?hy fun K hK=>?_);case hy=>rfl));simp only [go_sem, Nat.reduceEqDiff, Nat.reduceAdd, Nat.reduceMul, Nat.reduceLeDiff, Nat.reduceLT, Int.reduceLT, Int.reduceLE, Int.reduceEq, Int.reduceNeg, Int.reduceToNat, Nat.reducePow, reduceIte, reduceCtorEq, h0])|((with_reducible first|refine jW ?hy ?_|refine jY ?hy ?_);case hy=>rfl)|((with_reducible first|refine jX ?hy ?_|refine jZ ?hy ?_);case hy=>rfl)|((with_reducible refine jF ?hy ?_);case hy=>decide))
 refine ArQPtr.get_none hF.ar hi ?_
 repeat' (first|(with_reducible first|refine jA ?_|(refine hK _ _ ?_;clear hK K)|refine jJ fun K hK=>?_|refine jK ?_|refine jL ?_|refine jM ?_|refine jN ?_|refine jO ?_|refine jP ?_|refine jQ ?_|(refine jB ?_;clear hK K)|(refine jC ?_;clear hK K)|refine jD ?_|refine jE ?_|refine jG ?_|refine jH ?_|refine jI ?_)|((with_reducible refine jR ?hq ?_);case hq=>rfl)|((first|(with_reducible first|refine jS fun K hK=>?_|refine jT ?_|refine jU ?_)|((with_reducible refine jV ?hy fun K hK=>?_);case hy=>rfl));simp only [go_sem, Nat.reduceEqDiff, Nat.reduceAdd, Nat.reduceMul, Nat.reduceLeDiff, Nat.reduceLT, Int.reduceLT, Int.reduceLE, Int.reduceEq, Int.reduceNeg, Int.reduceToNat, Nat.reducePow, reduceIte, reduceCtorEq])|((with_reducible first|refine jW ?hy ?_|refine jY ?hy ?_);case hy=>rfl)|((with_reducible first|refine jX ?hy ?_|refine jZ ?hy ?_);case hy=>rfl)|((with_reducible refine jF ?hy ?_);case hy=>decide))
 exact hK
theorem own_ok {K : Value → Heap → Prop} {b : Nat} {r : Rec} (hb : Blk H b r.cells) (hK : ∀ H', Fr (fun _ => False) H H' → K (ownA r.item).val H') :
  CallsH Try.prog 43 #[.pointer (some ⟨b, 0, none⟩)] H K := by
 have hlt := hb.lt
 have hne : ¬ H.size = b := by omega
 have hne' : ¬ b = H.size := by omega
 have h0 := hb.cellOf (i := 0) rfl
 have h1 := hb.cellOf (i := 1) rfl
 have h2 := hb.cellOf (i := 2) rfl
 have e : (ownA r.item).val = if r.item.counts then .agg #[.int .i64 1, .int .i64 r.item.value, .int .i64 r.item.value, .int .i64 r.item.value, .int .i64 r.item.flags] else .agg #[.int .i64 0, .int .i64 0, .int .i64 0, .int .i64 0, .int .i64 r.item.flags] := by
  unfold ownA Agg.val; split <;> rfl
 rw [e] at hK
 refine call43 (by simp) ?_
 simp only [Try.f43, Option.getD_some]
 cases hc : r.item.counts
 ·rw [hc] at h1 hK
  simp only [Bool.false_eq_true, if_false] at hK
  repeat' (first|(with_reducible first|refine jA ?_|(refine hK _ _ ?_;clear hK K)|refine jJ fun K hK=>?_|refine jK ?_|refine jL ?_|refine jM ?_|refine jN ?_|refine jO ?_|refine jP ?_|refine jQ ?_|(refine jB ?_;clear hK K)|(refine jC ?_;clear hK K)|refine jD ?_|refine jE ?_|refine jG ?_|refine jH ?_|refine jI ?_)|((with_reducible refine jR ?hq ?_);case hq=>rfl)|((first|(with_reducible first|refine jS fun K hK=>?_|refine jT ?_|refine jU ?_)|((with_reducible refine jV ?hy fun K hK=>?_);case hy=>rfl));simp only [go_sem, Nat.reduceEqDiff, Nat.reduceAdd, Nat.reduceMul, Nat.reduceLeDiff, Nat.reduceLT, Int.reduceLT, Int.reduceLE, Int.reduceEq, Int.reduceNeg, Int.reduceToNat, Nat.reducePow, reduceIte, reduceCtorEq, h0, h1, h2, hlt, hne, hne', hcell_push, hcell_top, okW_push, okW_top, hcell_hset_ne, hcell_hset_off, hcell_hset_eq, okW_hset, hset_size, Array.size_push, Nat.lt_add_one, ne_add_one, add_one_ne, Nat.add_assoc, add_same, add_lt_same, Nat.reduceEqDiff, lt_add_k, add_k_ne, ne_add_k])|((with_reducible first|refine jW ?hy ?_|refine jY ?hy ?_);case hy=>rfl)|((with_reducible first|refine jX ?hy ?_|refine jZ ?hy ?_);case hy=>rfl)|((with_reducible refine jF ?hy ?_);case hy=>decide))
  exact hK _ (by ((repeat (first | refine Fr.set ?_ (by simp) _ | refine Fr.push ?_ _)); exact Fr.refl _ _))
 ·rw [hc] at h1 hK
  simp only [if_true] at hK
  repeat' (first|(with_reducible first|refine jA ?_|(refine hK _ _ ?_;clear hK K)|refine jJ fun K hK=>?_|refine jK ?_|refine jL ?_|refine jM ?_|refine jN ?_|refine jO ?_|refine jP ?_|refine jQ ?_|(refine jB ?_;clear hK K)|(refine jC ?_;clear hK K)|refine jD ?_|refine jE ?_|refine jG ?_|refine jH ?_|refine jI ?_)|((with_reducible refine jR ?hq ?_);case hq=>rfl)|((first|(with_reducible first|refine jS fun K hK=>?_|refine jT ?_|refine jU ?_)|((with_reducible refine jV ?hy fun K hK=>?_);case hy=>rfl));simp only [go_sem, Nat.reduceEqDiff, Nat.reduceAdd, Nat.reduceMul, Nat.reduceLeDiff, Nat.reduceLT, Int.reduceLT, Int.reduceLE, Int.reduceEq, Int.reduceNeg, Int.reduceToNat, Nat.reducePow, reduceIte, reduceCtorEq, h0, h1, h2, hlt, hne, hne', hcell_push, hcell_top, okW_push, okW_top, hcell_hset_ne, hcell_hset_off, hcell_hset_eq, okW_hset, hset_size, Array.size_push, Nat.lt_add_one, ne_add_one, add_one_ne, Nat.add_assoc, add_same, add_lt_same, Nat.reduceEqDiff, lt_add_k, add_k_ne, ne_add_k])|((with_reducible first|refine jW ?hy ?_|refine jY ?hy ?_);case hy=>rfl)|((with_reducible first|refine jX ?hy ?_|refine jZ ?hy ?_);case hy=>rfl)|((with_reducible refine jF ?hy ?_);case hy=>decide))
  exact hK _ (by ((repeat (first | refine Fr.set ?_ (by simp) _ | refine Fr.push ?_ _)); exact Fr.refl _ _))
theorem below_ok {K : Value → Heap → Prop} (hF : FAt H f p g A nb N) {k : Nat} (hk : k = 0 ∨ U A k) (hK : ∀ H', Fr (fun _ => False) H H' → K (.tuple #[.int .i64 (belowN N k).1, (belowN N k).2.val]) H') :
  CallsH Try.prog 42 #[.pointer (some ⟨f, 0, none⟩), .int .i64 k] H K := by
 refine call42 (by simp) ?_
 simp only [Try.f42, Option.getD_some]
 by_cases h0 : k = 0
 ·subst h0
  have e : belowN N 0 = (0, Agg.zero) := rfl
  rw [e] at hK
  have t1 : (((0 : Nat) : Int) == 0) = true := rfl
  repeat' (first|(with_reducible first|refine jA ?_|(refine hK _ _ ?_;clear hK K)|refine jJ fun K hK=>?_|refine jK ?_|refine jL ?_|refine jM ?_|refine jN ?_|refine jO ?_|refine jP ?_|refine jQ ?_|(refine jB ?_;clear hK K)|(refine jC ?_;clear hK K)|refine jD ?_|refine jE ?_|refine jG ?_|refine jH ?_|refine jI ?_)|((with_reducible refine jR ?hq ?_);case hq=>rfl)|((first|(with_reducible first|refine jS fun K hK=>?_|refine jT ?_|refine jU ?_)|((with_reducible refine jV ?hy fun K hK=>?_);case hy=>rfl));simp only [go_sem, Nat.reduceEqDiff, Nat.reduceAdd, Nat.reduceMul, Nat.reduceLeDiff, Nat.reduceLT, Int.reduceLT, Int.reduceLE, Int.reduceEq, Int.reduceNeg, Int.reduceToNat, Nat.reducePow, reduceIte, reduceCtorEq, t1, hcell_push, hcell_top, okW_push, okW_top, hcell_hset_ne, hcell_hset_off, hcell_hset_eq, okW_hset, hset_size, Array.size_push, Nat.lt_add_one, ne_add_one, add_one_ne, Nat.add_assoc, add_same, add_lt_same, Nat.reduceEqDiff, lt_add_k, add_k_ne, ne_add_k])|((with_reducible first|refine jW ?hy ?_|refine jY ?hy ?_);case hy=>rfl)|((with_reducible first|refine jX ?hy ?_|refine jZ ?hy ?_);case hy=>rfl)|((with_reducible refine jF ?hy ?_);case hy=>decide))
  exact hK _ (by ((repeat (first | refine Fr.set ?_ (by simp) _ | refine Fr.push ?_ _)); exact Fr.refl _ _))
 ·have hU := hk.resolve_left h0
  have e : belowN N k = ((N k).many, (N k).total) := if_neg h0
  rw [e] at hK
  have t1 : ((k : Int) == 0) = false := by simp [h0]
  have hF' := hF.grow (H' := H.push (.cells #[.int .i64 0, .int .i64 0, .int .i64 0, .int .i64 0, .int .i64 0] 42)) ((Fr.refl _ _).push _)
  have hn := hF.nd k hU
  have hlt := hn.lt
  have hne : ¬ H.size = nb k := by omega
  have hne' : ¬ nb k = H.size := by omega
  have c6 := hn.cellOf (i := 6) rfl
  have c7 := hn.cellOf (i := 7) rfl
  have c8 := hn.cellOf (i := 8) rfl
  have c9 := hn.cellOf (i := 9) rfl
  have c10 := hn.cellOf (i := 10) rfl
  have c11 := hn.cellOf (i := 11) rfl
  repeat' (first|(with_reducible first|refine jA ?_|(refine hK _ _ ?_;clear hK K)|refine jJ fun K hK=>?_|refine jK ?_|refine jL ?_|refine jM ?_|refine jN ?_|refine jO ?_|refine jP ?_|refine jQ ?_|(refine jB ?_;clear hK K)|(refine jC ?_;clear hK K)|refine jD ?_|refine jE ?_|refine jG ?_|refine jH ?_|refine jI ?_)|((with_reducible refine jR ?hq ?_);case hq=>rfl)|((first|(with_reducible first|refine jS fun K hK=>?_|refine jT ?_|refine jU ?_)|((with_reducible refine jV ?hy fun K hK=>?_);case hy=>rfl));simp only [go_sem, Nat.reduceEqDiff, Nat.reduceAdd, Nat.reduceMul, Nat.reduceLeDiff, Nat.reduceLT, Int.reduceLT, Int.reduceLE, Int.reduceEq, Int.reduceNeg, Int.reduceToNat, Nat.reducePow, reduceIte, reduceCtorEq, t1, hcell_push, hcell_top, okW_push, okW_top, hcell_hset_ne, hcell_hset_off, hcell_hset_eq, okW_hset, hset_size, Array.size_push, Nat.lt_add_one, ne_add_one, add_one_ne, Nat.add_assoc, add_same, add_lt_same, Nat.reduceEqDiff, lt_add_k, add_k_ne, ne_add_k])|((with_reducible first|refine jW ?hy ?_|refine jY ?hy ?_);case hy=>rfl)|((with_reducible first|refine jX ?hy ?_|refine jZ ?hy ?_);case hy=>rfl)|((with_reducible refine jF ?hy ?_);case hy=>decide))
  refine node_ok hF' hU ?_
  repeat' (first|(with_reducible first|refine jA ?_|(refine hK _ _ ?_;clear hK K)|refine jJ fun K hK=>?_|refine jK ?_|refine jL ?_|refine jM ?_|refine jN ?_|refine jO ?_|refine jP ?_|refine jQ ?_|(refine jB ?_;clear hK K)|(refine jC ?_;clear hK K)|refine jD ?_|refine jE ?_|refine jG ?_|refine jH ?_|refine jI ?_)|((with_reducible refine jR ?hq ?_);case hq=>rfl)|((first|(with_reducible first|refine jS fun K hK=>?_|refine jT ?_|refine jU ?_)|((with_reducible refine jV ?hy fun K hK=>?_);case hy=>rfl));simp only [go_sem, Nat.reduceEqDiff, Nat.reduceAdd, Nat.reduceMul, Nat.reduceLeDiff, Nat.reduceLT, Int.reduceLT, Int.reduceLE, Int.reduceEq, Int.reduceNeg, Int.reduceToNat, Nat.reducePow, reduceIte, reduceCtorEq, c6, c7, c8, c9, c10, c11, hlt, hne, hne', hcell_push, hcell_top, okW_push, okW_top, hcell_hset_ne, hcell_hset_off, hcell_hset_eq, okW_hset, hset_size, Array.size_push, Nat.lt_add_one, ne_add_one, add_one_ne, Nat.add_assoc, add_same, add_lt_same, Nat.reduceEqDiff, lt_add_k, add_k_ne, ne_add_k])|((with_reducible first|refine jW ?hy ?_|refine jY ?hy ?_);case hy=>rfl)|((with_reducible first|refine jX ?hy ?_|refine jZ ?hy ?_);case hy=>rfl)|((with_reducible refine jF ?hy ?_);case hy=>decide))
  exact hK _ (by ((repeat (first | refine Fr.set ?_ (by simp) _ | refine Fr.push ?_ _)); exact Fr.refl _ _))
theorem pull_ok {K : Value → Heap → Prop} (hF : FAt H f p g A nb N) {k : Nat} (hk : U A k) (hK : ∀ H', FAt H' f p g A nb (pullN N k) → Fr (NB A nb) H H' → K (.tuple #[]) H') :
  CallsH Try.prog 41 #[.pointer (some ⟨f, 0, none⟩), .int .i64 k] H K := by
 have hn := hF.nd k hk
 have c4 := hn.cellOf (i := 4) rfl
 have c5 := hn.cellOf (i := 5) rfl
 have hlt := hn.lt
 refine call41 (by simp) ?_
 simp only [Try.f41, Option.getD_some]
 repeat' (first|(with_reducible first|refine jA ?_|(refine hK _ _ ?_;clear hK K)|refine jJ fun K hK=>?_|refine jK ?_|refine jL ?_|refine jM ?_|refine jN ?_|refine jO ?_|refine jP ?_|refine jQ ?_|(refine jB ?_;clear hK K)|(refine jC ?_;clear hK K)|refine jD ?_|refine jE ?_|refine jG ?_|refine jH ?_|refine jI ?_)|((with_reducible refine jR ?hq ?_);case hq=>rfl)|((first|(with_reducible first|refine jS fun K hK=>?_|refine jT ?_|refine jU ?_)|((with_reducible refine jV ?hy fun K hK=>?_);case hy=>rfl));simp only [go_sem, Nat.reduceEqDiff, Nat.reduceAdd, Nat.reduceMul, Nat.reduceLeDiff, Nat.reduceLT, Int.reduceLT, Int.reduceLE, Int.reduceEq, Int.reduceNeg, Int.reduceToNat, Nat.reducePow, reduceIte, reduceCtorEq])|((with_reducible first|refine jW ?hy ?_|refine jY ?hy ?_);case hy=>rfl)|((with_reducible first|refine jX ?hy ?_|refine jZ ?hy ?_);case hy=>rfl)|((with_reducible refine jF ?hy ?_);case hy=>decide))
 refine node_ok hF hk ?_
 repeat' (first|(with_reducible first|refine jA ?_|(refine hK _ _ ?_;clear hK K)|refine jJ fun K hK=>?_|refine jK ?_|refine jL ?_|refine jM ?_|refine jN ?_|refine jO ?_|refine jP ?_|refine jQ ?_|(refine jB ?_;clear hK K)|(refine jC ?_;clear hK K)|refine jD ?_|refine jE ?_|refine jG ?_|refine jH ?_|refine jI ?_)|((with_reducible refine jR ?hq ?_);case hq=>rfl)|((first|(with_reducible first|refine jS fun K hK=>?_|refine jT ?_|refine jU ?_)|((with_reducible refine jV ?hy fun K hK=>?_);case hy=>rfl));simp only [go_sem, Nat.reduceEqDiff, Nat.reduceAdd, Nat.reduceMul, Nat.reduceLeDiff, Nat.reduceLT, Int.reduceLT, Int.reduceLE, Int.reduceEq, Int.reduceNeg, Int.reduceToNat, Nat.reducePow, reduceIte, reduceCtorEq, c4])|((with_reducible first|refine jW ?hy ?_|refine jY ?hy ?_);case hy=>rfl)|((with_reducible first|refine jX ?hy ?_|refine jZ ?hy ?_);case hy=>rfl)|((with_reducible refine jF ?hy ?_);case hy=>decide))
 refine below_ok hF (hF.cl.l k hk) ?_
 intro H1 hf1
 generalize ha : belowN N (N k).l = a
 have hs1 := hf1.size
 have c5' : hcell H1 ⟨nb k, 5, none⟩ = some (.int .i64 (N k).r) := by rw [hf1.cell (by exact hlt) (fun h => h)]; exact c5
 have hne : ¬ nb k = H1.size := by omega
 have hlt1 : nb k < H1.size := by omega
 repeat' (first|(with_reducible first|refine jA ?_|(refine hK _ _ ?_;clear hK K)|refine jJ fun K hK=>?_|refine jK ?_|refine jL ?_|refine jM ?_|refine jN ?_|refine jO ?_|refine jP ?_|refine jQ ?_|(refine jB ?_;clear hK K)|(refine jC ?_;clear hK K)|refine jD ?_|refine jE ?_|refine jG ?_|refine jH ?_|refine jI ?_)|((with_reducible refine jR ?hq ?_);case hq=>rfl)|((first|(with_reducible first|refine jS fun K hK=>?_|refine jT ?_|refine jU ?_)|((with_reducible refine jV ?hy fun K hK=>?_);case hy=>rfl));simp only [go_sem, Nat.reduceEqDiff, Nat.reduceAdd, Nat.reduceMul, Nat.reduceLeDiff, Nat.reduceLT, Int.reduceLT, Int.reduceLE, Int.reduceEq, Int.reduceNeg, Int.reduceToNat, Nat.reducePow, reduceIte, reduceCtorEq, Agg.val, c5', hne, hlt1, hcell_push, hcell_top, okW_push, okW_top, hcell_hset_ne, hcell_hset_off, hcell_hset_eq, okW_hset, hset_size, Array.size_push, Nat.lt_add_one, ne_add_one, add_one_ne, Nat.add_assoc, add_same, add_lt_same, Nat.reduceEqDiff, lt_add_k, add_k_ne, ne_add_k])|((with_reducible first|refine jW ?hy ?_|refine jY ?hy ?_);case hy=>rfl)|((with_reducible first|refine jX ?hy ?_|refine jZ ?hy ?_);case hy=>rfl)|((with_reducible refine jF ?hy ?_);case hy=>decide))
 generalize hH2 : hset _ _ _ = H2
 have hf2 : Fr (fun _ => False) H1 H2 := by rw [← hH2]; exact (by ((repeat (first | refine Fr.set ?_ (by simp) _ | refine Fr.push ?_ _)); exact Fr.refl _ _))
 have q1 : Cells [(H1.size, 0, .int .i64 a.2.count), (H1.size, 1, .int .i64 a.2.sum), (H1.size, 2, .int .i64 a.2.least), (H1.size, 3, .int .i64 a.2.most), (H1.size, 4, .int .i64 a.2.flags)] H2 := by
  rw [← hH2]
  simp only [go_sem, Nat.reduceEqDiff, Nat.reduceAdd, Nat.reduceMul, Nat.reduceLeDiff, Nat.reduceLT, Int.reduceLT, Int.reduceLE, Int.reduceEq, Int.reduceNeg, Int.reduceToNat, Nat.reducePow, reduceIte, reduceCtorEq, Cells, and_true, hcell_push, hcell_top, okW_push, okW_top, hcell_hset_ne, hcell_hset_off, hcell_hset_eq, okW_hset, hset_size, Array.size_push, Nat.lt_add_one, ne_add_one, add_one_ne, Nat.add_assoc, add_same, add_lt_same, Nat.reduceEqDiff, lt_add_k, add_k_ne, ne_add_k]
 have hF2 := (hF.grow hf1).grow hf2
 have hs2 : H1.size < H2.size := by rw [← hH2]; simp only [go_sem, Nat.reduceEqDiff, Nat.reduceAdd, Nat.reduceMul, Nat.reduceLeDiff, Nat.reduceLT, Int.reduceLT, Int.reduceLE, Int.reduceEq, Int.reduceNeg, Int.reduceToNat, Nat.reducePow, reduceIte, reduceCtorEq, hcell_push, hcell_top, okW_push, okW_top, hcell_hset_ne, hcell_hset_off, hcell_hset_eq, okW_hset, hset_size, Array.size_push, Nat.lt_add_one, ne_add_one, add_one_ne, Nat.add_assoc, add_same, add_lt_same, Nat.reduceEqDiff, lt_add_k, add_k_ne, ne_add_k]
 clear hH2
 refine below_ok hF2 (hF2.cl.r k hk) ?_
 intro H3 hf3
 generalize hb : belowN N (N k).r = b
 have hs3 := hf3.size
 have q3 := q1.grow hf3
 have hF3 := hF2.grow hf3
 have hn3 := hF3.nd k hk
 have w6 := hn3.okW (i := 6) (by simp [Rec.cells])
 have hne3 : ¬ nb k = H3.size := by omega
 have hne3' : ¬ H3.size = nb k := by omega
 have hlt3 : nb k < H3.size := by omega
 have hnt : ¬ H1.size = H3.size := by omega
 have hnt1 : H1.size < H3.size := by omega
 have hnt2 : ¬ H1.size = nb k := by omega
 simp only [Cells, and_true] at q3
 repeat' (first|(with_reducible first|refine jA ?_|(refine hK _ _ ?_;clear hK K)|refine jJ fun K hK=>?_|refine jK ?_|refine jL ?_|refine jM ?_|refine jN ?_|refine jO ?_|refine jP ?_|refine jQ ?_|(refine jB ?_;clear hK K)|(refine jC ?_;clear hK K)|refine jD ?_|refine jE ?_|refine jG ?_|refine jH ?_|refine jI ?_)|((with_reducible refine jR ?hq ?_);case hq=>rfl)|((first|(with_reducible first|refine jS fun K hK=>?_|refine jT ?_|refine jU ?_)|((with_reducible refine jV ?hy fun K hK=>?_);case hy=>rfl));simp only [go_sem, Nat.reduceEqDiff, Nat.reduceAdd, Nat.reduceMul, Nat.reduceLeDiff, Nat.reduceLT, Int.reduceLT, Int.reduceLE, Int.reduceEq, Int.reduceNeg, Int.reduceToNat, Nat.reducePow, reduceIte, reduceCtorEq, Agg.val, hne3, hne3', hlt3, w6, hcell_push, hcell_top, okW_push, okW_top, hcell_hset_ne, hcell_hset_off, hcell_hset_eq, okW_hset, hset_size, Array.size_push, Nat.lt_add_one, ne_add_one, add_one_ne, Nat.add_assoc, add_same, add_lt_same, Nat.reduceEqDiff, lt_add_k, add_k_ne, ne_add_k])|((with_reducible first|refine jW ?hy ?_|refine jY ?hy ?_);case hy=>rfl)|((with_reducible first|refine jX ?hy ?_|refine jZ ?hy ?_);case hy=>rfl)|((with_reducible refine jF ?hy ?_);case hy=>decide))
 generalize hH4 : hset _ _ _ = H4
 have hf4 : Fr (· = nb k) H3 H4 := by rw [← hH4]; exact (by ((repeat (first | refine Fr.set ?_ (by simp) _ | refine Fr.push ?_ _)); exact Fr.refl _ _))
 have q4 : Cells [(H1.size, 0, .int .i64 a.2.count), (H1.size, 1, .int .i64 a.2.sum), (H1.size, 2, .int .i64 a.2.least), (H1.size, 3, .int .i64 a.2.most), (H1.size, 4, .int .i64 a.2.flags),
  (H3.size, 0, .int .i64 b.2.count), (H3.size, 1, .int .i64 b.2.sum), (H3.size, 2, .int .i64 b.2.least), (H3.size, 3, .int .i64 b.2.most), (H3.size, 4, .int .i64 b.2.flags)] H4 := by
  rw [← hH4]
  simp only [go_sem, Nat.reduceEqDiff, Nat.reduceAdd, Nat.reduceMul, Nat.reduceLeDiff, Nat.reduceLT, Int.reduceLT, Int.reduceLE, Int.reduceEq, Int.reduceNeg, Int.reduceToNat, Nat.reducePow, reduceIte, reduceCtorEq, Cells, and_true, q3, hne3, hne3', hnt, hnt1, hnt2, hlt3, hcell_push, hcell_top, okW_push, okW_top, hcell_hset_ne, hcell_hset_off, hcell_hset_eq, okW_hset, hset_size, Array.size_push, Nat.lt_add_one, ne_add_one, add_one_ne, Nat.add_assoc, add_same, add_lt_same, Nat.reduceEqDiff, lt_add_k, add_k_ne, ne_add_k]
 have hb4 : Blk H4 (nb k) ({ N k with many := w64 (w64 (a.1 + 1) + b.1) } : Rec).cells := by
  rw [← hH4]
  exact ((((((hn3.push _).set_ne hne3 _).set_ne hne3 _).set_ne hne3 _).set_ne hne3 _).set_ne hne3 _).set_same 6 _
 clear hH4
 refine x_drawS [7, 8, 9] [0, 1, 2, 5, 3, 4, 6, 7, 8, 9] rfl (by kernel_rfl) (Cells _) q4 ?_
 repeat' (first|(with_reducible refine xs_nil ?_)|((first|((with_reducible apply xs_rd);case hi=>rfl)|((with_reducible apply xs_guard_yes);(case hi=>rfl);(case hy=>rfl)));(case hr=>rfl);(case h1=>intro H' hS'; (try simp only [Cells, and_true] at hS');simp only [go_sem, Nat.reduceEqDiff, Nat.reduceAdd, Nat.reduceMul, Nat.reduceLeDiff, Nat.reduceLT, Int.reduceLT, Int.reduceLE, Int.reduceEq, Int.reduceNeg, Int.reduceToNat, Nat.reducePow, reduceIte, reduceCtorEq, hS']; rfl))|((with_reducible refine xs_tail ?hz ?_);case hz=>rfl)|((with_reducible refine xs_keep ?hz ?_);case hz=>first|(with_reducible assumption)|assumption|(simp only [go_sem, Nat.reduceEqDiff, Nat.reduceAdd, Nat.reduceMul, Nat.reduceLeDiff, Nat.reduceLT, Int.reduceLT, Int.reduceLE, Int.reduceEq, Int.reduceNeg, Int.reduceToNat, Nat.reducePow, reduceIte, reduceCtorEq, Cells, and_true]))|((with_reducible apply xs_guard_no);(case hi=>rfl);(case hy=>rfl);(case hS=>assumption))|((first|((with_reducible apply xs_op);(case hi=>rfl))|((with_reducible apply xs_op_yes);(case hi=>rfl);(case hy=>rfl)));(case hr=>rfl);intro K hK; simp only [go_sem, Nat.reduceEqDiff, Nat.reduceAdd, Nat.reduceMul, Nat.reduceLeDiff, Nat.reduceLT, Int.reduceLT, Int.reduceLE, Int.reduceEq, Int.reduceNeg, Int.reduceToNat, Nat.reducePow, reduceIte, reduceCtorEq])|(with_reducible first|refine jA ?_|(refine hK _ _ ?_;clear hK K)|refine jJ fun K hK=>?_|refine jK ?_|refine jL ?_|refine jM ?_|refine jN ?_|refine jO ?_|refine jP ?_|refine jQ ?_|(refine jB ?_;clear hK K)|(refine jC ?_;clear hK K)|refine jD ?_|refine jE ?_|refine jG ?_|refine jH ?_|refine jI ?_)|((with_reducible refine jR ?hq ?_);case hq=>rfl)|((first|(with_reducible first|refine jS fun K hK=>?_|refine jT ?_|refine jU ?_)|((with_reducible refine jV ?hy fun K hK=>?_);case hy=>rfl));simp only [go_sem, Nat.reduceEqDiff, Nat.reduceAdd, Nat.reduceMul, Nat.reduceLeDiff, Nat.reduceLT, Int.reduceLT, Int.reduceLE, Int.reduceEq, Int.reduceNeg, Int.reduceToNat, Nat.reducePow, reduceIte, reduceCtorEq])|((with_reducible first|refine jW ?hy ?_|refine jY ?hy ?_);case hy=>rfl)|((with_reducible first|refine jX ?hy ?_|refine jZ ?hy ?_);case hy=>rfl)|((with_reducible refine jF ?hy ?_);case hy=>decide))
 refine own_ok hb4 ?_
 intro H5 hf5
 have q5 := q4.grow hf5
 repeat' (first|(with_reducible refine xs_nil ?_)|((first|((with_reducible apply xs_rd);case hi=>rfl)|((with_reducible apply xs_guard_yes);(case hi=>rfl);(case hy=>rfl)));(case hr=>rfl);(case h1=>intro H' hS'; (try simp only [Cells, and_true] at hS');simp only [go_sem, Nat.reduceEqDiff, Nat.reduceAdd, Nat.reduceMul, Nat.reduceLeDiff, Nat.reduceLT, Int.reduceLT, Int.reduceLE, Int.reduceEq, Int.reduceNeg, Int.reduceToNat, Nat.reducePow, reduceIte, reduceCtorEq, hS']; rfl))|((with_reducible refine xs_tail ?hz ?_);case hz=>rfl)|((with_reducible refine xs_keep ?hz ?_);case hz=>first|(with_reducible assumption)|assumption|(simp only [go_sem, Nat.reduceEqDiff, Nat.reduceAdd, Nat.reduceMul, Nat.reduceLeDiff, Nat.reduceLT, Int.reduceLT, Int.reduceLE, Int.reduceEq, Int.reduceNeg, Int.reduceToNat, Nat.reducePow, reduceIte, reduceCtorEq, Cells, and_true]))|((with_reducible apply xs_guard_no);(case hi=>rfl);(case hy=>rfl);(case hS=>assumption))|((first|((with_reducible apply xs_op);(case hi=>rfl))|((with_reducible apply xs_op_yes);(case hi=>rfl);(case hy=>rfl)));(case hr=>rfl);intro K hK; simp only [go_sem, Nat.reduceEqDiff, Nat.reduceAdd, Nat.reduceMul, Nat.reduceLeDiff, Nat.reduceLT, Int.reduceLT, Int.reduceLE, Int.reduceEq, Int.reduceNeg, Int.reduceToNat, Nat.reducePow, reduceIte, reduceCtorEq])|(with_reducible first|refine jA ?_|(refine hK _ _ ?_;clear hK K)|refine jJ fun K hK=>?_|refine jK ?_|refine jL ?_|refine jM ?_|refine jN ?_|refine jO ?_|refine jP ?_|refine jQ ?_|(refine jB ?_;clear hK K)|(refine jC ?_;clear hK K)|refine jD ?_|refine jE ?_|refine jG ?_|refine jH ?_|refine jI ?_)|((with_reducible refine jR ?hq ?_);case hq=>rfl)|((first|(with_reducible first|refine jS fun K hK=>?_|refine jT ?_|refine jU ?_)|((with_reducible refine jV ?hy fun K hK=>?_);case hy=>rfl));simp only [go_sem, Nat.reduceEqDiff, Nat.reduceAdd, Nat.reduceMul, Nat.reduceLeDiff, Nat.reduceLT, Int.reduceLT, Int.reduceLE, Int.reduceEq, Int.reduceNeg, Int.reduceToNat, Nat.reducePow, reduceIte, reduceCtorEq])|((with_reducible first|refine jW ?hy ?_|refine jY ?hy ?_);case hy=>rfl)|((with_reducible first|refine jX ?hy ?_|refine jZ ?hy ?_);case hy=>rfl)|((with_reducible refine jF ?hy ?_);case hy=>decide))
 refine plus_ok (a := a.2) (b := ownA (N k).item) ?_
 intro H6 hf6
 have q6 := q5.grow hf6
 repeat' (first|(with_reducible refine xs_nil ?_)|((first|((with_reducible apply xs_rd);case hi=>rfl)|((with_reducible apply xs_guard_yes);(case hi=>rfl);(case hy=>rfl)));(case hr=>rfl);(case h1=>intro H' hS'; (try simp only [Cells, and_true] at hS');simp only [go_sem, Nat.reduceEqDiff, Nat.reduceAdd, Nat.reduceMul, Nat.reduceLeDiff, Nat.reduceLT, Int.reduceLT, Int.reduceLE, Int.reduceEq, Int.reduceNeg, Int.reduceToNat, Nat.reducePow, reduceIte, reduceCtorEq, hS']; rfl))|((with_reducible refine xs_tail ?hz ?_);case hz=>rfl)|((with_reducible refine xs_keep ?hz ?_);case hz=>first|(with_reducible assumption)|assumption|(simp only [go_sem, Nat.reduceEqDiff, Nat.reduceAdd, Nat.reduceMul, Nat.reduceLeDiff, Nat.reduceLT, Int.reduceLT, Int.reduceLE, Int.reduceEq, Int.reduceNeg, Int.reduceToNat, Nat.reducePow, reduceIte, reduceCtorEq, Cells, and_true]))|((with_reducible apply xs_guard_no);(case hi=>rfl);(case hy=>rfl);(case hS=>assumption))|((first|((with_reducible apply xs_op);(case hi=>rfl))|((with_reducible apply xs_op_yes);(case hi=>rfl);(case hy=>rfl)));(case hr=>rfl);intro K hK; simp only [go_sem, Nat.reduceEqDiff, Nat.reduceAdd, Nat.reduceMul, Nat.reduceLeDiff, Nat.reduceLT, Int.reduceLT, Int.reduceLE, Int.reduceEq, Int.reduceNeg, Int.reduceToNat, Nat.reducePow, reduceIte, reduceCtorEq])|(with_reducible first|refine jA ?_|(refine hK _ _ ?_;clear hK K)|refine jJ fun K hK=>?_|refine jK ?_|refine jL ?_|refine jM ?_|refine jN ?_|refine jO ?_|refine jP ?_|refine jQ ?_|(refine jB ?_;clear hK K)|(refine jC ?_;clear hK K)|refine jD ?_|refine jE ?_|refine jG ?_|refine jH ?_|refine jI ?_)|((with_reducible refine jR ?hq ?_);case hq=>rfl)|((first|(with_reducible first|refine jS fun K hK=>?_|refine jT ?_|refine jU ?_)|((with_reducible refine jV ?hy fun K hK=>?_);case hy=>rfl));simp only [go_sem, Nat.reduceEqDiff, Nat.reduceAdd, Nat.reduceMul, Nat.reduceLeDiff, Nat.reduceLT, Int.reduceLT, Int.reduceLE, Int.reduceEq, Int.reduceNeg, Int.reduceToNat, Nat.reducePow, reduceIte, reduceCtorEq])|((with_reducible first|refine jW ?hy ?_|refine jY ?hy ?_);case hy=>rfl)|((with_reducible first|refine jX ?hy ?_|refine jZ ?hy ?_);case hy=>rfl)|((with_reducible refine jF ?hy ?_);case hy=>decide))
 refine plus_ok (a := plusA a.2 (ownA (N k).item)) (b := b.2) ?_
 intro H7 hf7
 have q7 := q6.grow hf7
 have hf47 := (hf5.trans hf6).trans hf7
 have hb7 := hb4.frame hf47 (fun h => h)
 have w7 := hb7.okW (i := 7) (by simp [Rec.cells])
 have w8 := hb7.okW (i := 8) (by simp [Rec.cells])
 have w9 := hb7.okW (i := 9) (by simp [Rec.cells])
 have w10 := hb7.okW (i := 10) (by simp [Rec.cells])
 have w11 := hb7.okW (i := 11) (by simp [Rec.cells])
 repeat' (first|(with_reducible refine xs_nil ?_)|((first|((with_reducible apply xs_rd);case hi=>rfl)|((with_reducible apply xs_guard_yes);(case hi=>rfl);(case hy=>rfl)));(case hr=>rfl);(case h1=>intro H' hS'; (try simp only [Cells, and_true] at hS');simp only [go_sem, Nat.reduceEqDiff, Nat.reduceAdd, Nat.reduceMul, Nat.reduceLeDiff, Nat.reduceLT, Int.reduceLT, Int.reduceLE, Int.reduceEq, Int.reduceNeg, Int.reduceToNat, Nat.reducePow, reduceIte, reduceCtorEq, Agg.val, w7, w8, w9, w10, w11, okW_hset, hS']; rfl))|((with_reducible refine xs_tail ?hz ?_);case hz=>rfl)|((with_reducible refine xs_keep ?hz ?_);case hz=>first|(with_reducible assumption)|assumption|(simp only [go_sem, Nat.reduceEqDiff, Nat.reduceAdd, Nat.reduceMul, Nat.reduceLeDiff, Nat.reduceLT, Int.reduceLT, Int.reduceLE, Int.reduceEq, Int.reduceNeg, Int.reduceToNat, Nat.reducePow, reduceIte, reduceCtorEq, Cells, and_true, Agg.val, w7, w8, w9, w10, w11, okW_hset]))|((with_reducible apply xs_guard_no);(case hi=>rfl);(case hy=>rfl);(case hS=>assumption))|((first|((with_reducible apply xs_op);(case hi=>rfl))|((with_reducible apply xs_op_yes);(case hi=>rfl);(case hy=>rfl)));(case hr=>rfl);intro K hK; simp only [go_sem, Nat.reduceEqDiff, Nat.reduceAdd, Nat.reduceMul, Nat.reduceLeDiff, Nat.reduceLT, Int.reduceLT, Int.reduceLE, Int.reduceEq, Int.reduceNeg, Int.reduceToNat, Nat.reducePow, reduceIte, reduceCtorEq, Agg.val, w7, w8, w9, w10, w11, okW_hset])|(with_reducible first|refine jA ?_|(refine hK _ _ ?_;clear hK K)|refine jJ fun K hK=>?_|refine jK ?_|refine jL ?_|refine jM ?_|refine jN ?_|refine jO ?_|refine jP ?_|refine jQ ?_|(refine jB ?_;clear hK K)|(refine jC ?_;clear hK K)|refine jD ?_|refine jE ?_|refine jG ?_|refine jH ?_|refine jI ?_)|((with_reducible refine jR ?hq ?_);case hq=>rfl)|((first|(with_reducible first|refine jS fun K hK=>?_|refine jT ?_|refine jU ?_)|((with_reducible refine jV ?hy fun K hK=>?_);case hy=>rfl));simp only [go_sem, Nat.reduceEqDiff, Nat.reduceAdd, Nat.reduceMul, Nat.reduceLeDiff, Nat.reduceLT, Int.reduceLT, Int.reduceLE, Int.reduceEq, Int.reduceNeg, Int.reduceToNat, Nat.reducePow, reduceIte, reduceCtorEq, Agg.val, w7, w8, w9, w10, w11, okW_hset])|((with_reducible first|refine jW ?hy ?_|refine jY ?hy ?_);case hy=>rfl)|((with_reducible first|refine jX ?hy ?_|refine jZ ?hy ?_);case hy=>rfl)|((with_reducible refine jF ?hy ?_);case hy=>decide))
 have hb8 := ((((hb7.set_same 7 (.int .i64 (pullR N k).total.count)).set_same 8 (.int .i64 (pullR N k).total.sum)).set_same 9 (.int .i64 (pullR N k).total.least)).set_same 10 (.int .i64 (pullR N k).total.most)).set_same 11 (.int .i64 (pullR N k).total.flags)
 have hfr : Fr (· = nb k) H (hset (hset (hset (hset (hset H7 ⟨nb k, 7, none⟩ (.int .i64 (pullR N k).total.count)) ⟨nb k, 8, none⟩ (.int .i64 (pullR N k).total.sum)) ⟨nb k, 9, none⟩ (.int .i64 (pullR N k).total.least)) ⟨nb k, 10, none⟩ (.int .i64 (pullR N k).total.most)) ⟨nb k, 11, none⟩ (.int .i64 (pullR N k).total.flags)) := by
  have step : ∀ {H' : Heap} (o : Nat) (v : Value), Fr (· = nb k) H H' → Fr (· = nb k) H (hset H' ⟨nb k, o, none⟩ v) := fun o v h => Fr.set (S := (· = nb k)) (a := ⟨nb k, o, none⟩) h (.inl rfl) v
  refine step 11 _ (step 10 _ (step 9 _ (step 8 _ (step 7 _ ?_))))
  exact ((((hf1.trans hf2).trans hf3).mono fun b _ h => h.elim).trans hf4).trans (hf47.mono fun b _ h => h.elim)
 have hT : (pullR N k).total = plusA (plusA a.2 (ownA (N k).item)) b.2 := by rw [← ha, ← hb]; rfl
 have hfin := hF.set hk hfr (r := pullR N k) (by
  have e : (pullR N k).many = w64 (w64 (a.1 + 1) + b.1) := by rw [← ha, ← hb]; rfl
  have e2 : (pullR N k).cells = [.int .i64 (N k).item.value, .bool (N k).item.counts, .int .i64 (N k).item.flags, .int .i64 (N k).up, .int .i64 (N k).l, .int .i64 (N k).r, .int .i64 (pullR N k).many,
   .int .i64 (pullR N k).total.count, .int .i64 (pullR N k).total.sum, .int .i64 (pullR N k).total.least, .int .i64 (pullR N k).total.most, .int .i64 (pullR N k).total.flags] := rfl
  rw [e2, e]
  exact hb8) (hF.cl.pull hk)
 have hnb := NB.of hk hfr
 rw [hT] at hfin hnb
 exact hK _ hfin hnb
end

section
variable {H H' : Heap} {f p g : Nat} {A : Ar} {nb : Nat → Nat} {N : Nodes}
theorem FAt.kid (hF : FAt H f p g A nb N) {k s x : Nat} (hk : U A k) (hs : s = 0 ∨ s = 1) (hx : x = 0 ∨ U A x) :
  okW H ⟨nb k, 4 + s, none⟩ ∧ FAt (hset H ⟨nb k, 4 + s, none⟩ (.int .i64 x)) f p g A nb (upd N k ((N k).setKid s x)) ∧ Fr (NB A nb) H (hset H ⟨nb k, 4 + s, none⟩ (.int .i64 x)) := by
 have hn := hF.nd k hk
 have hfr : Fr (· = nb k) H (hset H ⟨nb k, 4 + s, none⟩ (.int .i64 x)) := Fr.set (S := (· = nb k)) (a := ⟨nb k, 4 + s, none⟩) (Fr.refl _ _) (.inl rfl) _
 refine ⟨hn.okW (by rcases hs with rfl | rfl <;> simp [Rec.cells]), hF.set hk hfr ?_ (hF.cl.setKid hk hx), NB.of hk hfr⟩
 rcases hs with rfl | rfl
 ·exact hn.set_same 4 _
 ·exact hn.set_same 5 _
theorem FAt.setUp (hF : FAt H f p g A nb N) {k x : Nat} (hk : U A k) (hx : x = 0 ∨ U A x) :
  okW H ⟨nb k, 3, none⟩ ∧ FAt (hset H ⟨nb k, 3, none⟩ (.int .i64 x)) f p g A nb (setUp N k x) ∧ Fr (NB A nb) H (hset H ⟨nb k, 3, none⟩ (.int .i64 x)) := by
 have hn := hF.nd k hk
 have hfr : Fr (· = nb k) H (hset H ⟨nb k, 3, none⟩ (.int .i64 x)) := Fr.set (S := (· = nb k)) (a := ⟨nb k, 3, none⟩) (Fr.refl _ _) (.inl rfl) _
 exact ⟨hn.okW (by simp [Rec.cells]), hF.set hk hfr (hn.set_same 3 _) (hF.cl.setUp hk hx), NB.of hk hfr⟩
theorem hang_ok {K : Value → Heap → Prop} (hF : FAt H f p g A nb N) {k s x : Nat} (hk : U A k) (hs : s = 0 ∨ s = 1) (hx : x = 0 ∨ U A x) (fin : ∀ H', FAt H' f p g A nb (hangN N k s x) → Fr (NB A nb) H H' → K (.tuple #[]) H') :
  CallsH Try.prog 48 #[.pointer (some ⟨f, 0, none⟩), .int .i64 k, .int .i64 s, .int .i64 x] H K := by
 obtain ⟨w1, hF1, hf1⟩ := hF.kid hk hs hx
 have t1 : (s < 2) = True := by simp; omega
 have ts : ((s : Int) < 2) = True := by simp; omega
 refine call48 (by simp) ?_
 simp only [Try.f48, Option.getD_some]
 repeat' (first|(with_reducible first|refine jA ?_|(refine hK _ _ ?_;clear hK K)|refine jJ fun K hK=>?_|refine jK ?_|refine jL ?_|refine jM ?_|refine jN ?_|refine jO ?_|refine jP ?_|refine jQ ?_|(refine jB ?_;clear hK K)|(refine jC ?_;clear hK K)|refine jD ?_|refine jE ?_|refine jG ?_|refine jH ?_|refine jI ?_)|((with_reducible refine jR ?hq ?_);case hq=>rfl)|((first|(with_reducible first|refine jS fun K hK=>?_|refine jT ?_|refine jU ?_)|((with_reducible refine jV ?hy fun K hK=>?_);case hy=>rfl));simp only [go_sem, Nat.reduceEqDiff, Nat.reduceAdd, Nat.reduceMul, Nat.reduceLeDiff, Nat.reduceLT, Int.reduceLT, Int.reduceLE, Int.reduceEq, Int.reduceNeg, Int.reduceToNat, Nat.reducePow, reduceIte, reduceCtorEq])|((with_reducible first|refine jW ?hy ?_|refine jY ?hy ?_);case hy=>rfl)|((with_reducible first|refine jX ?hy ?_|refine jZ ?hy ?_);case hy=>rfl)|((with_reducible refine jF ?hy ?_);case hy=>decide))
 refine node_ok hF hk ?_
 by_cases h0 : x = 0
 ·subst h0
  have e : hangN N k s 0 = upd N k ((N k).setKid s 0) := if_pos rfl
  rw [e] at fin
  have t2 : (((0 : Nat) : Int) != 0) = false := rfl
  repeat' (first|(with_reducible first|refine jA ?_|(refine hK _ _ ?_;clear hK K)|refine jJ fun K hK=>?_|refine jK ?_|refine jL ?_|refine jM ?_|refine jN ?_|refine jO ?_|refine jP ?_|refine jQ ?_|(refine jB ?_;clear hK K)|(refine jC ?_;clear hK K)|refine jD ?_|refine jE ?_|refine jG ?_|refine jH ?_|refine jI ?_)|((with_reducible refine jR ?hq ?_);case hq=>rfl)|((first|(with_reducible first|refine jS fun K hK=>?_|refine jT ?_|refine jU ?_)|((with_reducible refine jV ?hy fun K hK=>?_);case hy=>rfl));simp only [go_sem, Nat.reduceEqDiff, Nat.reduceAdd, Nat.reduceMul, Nat.reduceLeDiff, Nat.reduceLT, Int.reduceLT, Int.reduceLE, Int.reduceEq, Int.reduceNeg, Int.reduceToNat, Nat.reducePow, reduceIte, reduceCtorEq, t1, ts, w1, t2])|((with_reducible first|refine jW ?hy ?_|refine jY ?hy ?_);case hy=>rfl)|((with_reducible first|refine jX ?hy ?_|refine jZ ?hy ?_);case hy=>rfl)|((with_reducible refine jF ?hy ?_);case hy=>decide))
  exact fin _ hF1 hf1
 ·have hU := hx.resolve_left h0
  have e : hangN N k s x = setUp (upd N k ((N k).setKid s x)) x k := if_neg h0
  rw [e] at fin
  have t2 : ((x : Int) != 0) = true := by simp [h0]
  repeat' (first|(with_reducible first|refine jA ?_|(refine hK _ _ ?_;clear hK K)|refine jJ fun K hK=>?_|refine jK ?_|refine jL ?_|refine jM ?_|refine jN ?_|refine jO ?_|refine jP ?_|refine jQ ?_|(refine jB ?_;clear hK K)|(refine jC ?_;clear hK K)|refine jD ?_|refine jE ?_|refine jG ?_|refine jH ?_|refine jI ?_)|((with_reducible refine jR ?hq ?_);case hq=>rfl)|((first|(with_reducible first|refine jS fun K hK=>?_|refine jT ?_|refine jU ?_)|((with_reducible refine jV ?hy fun K hK=>?_);case hy=>rfl));simp only [go_sem, Nat.reduceEqDiff, Nat.reduceAdd, Nat.reduceMul, Nat.reduceLeDiff, Nat.reduceLT, Int.reduceLT, Int.reduceLE, Int.reduceEq, Int.reduceNeg, Int.reduceToNat, Nat.reducePow, reduceIte, reduceCtorEq, t1, ts, w1, t2])|((with_reducible first|refine jW ?hy ?_|refine jY ?hy ?_);case hy=>rfl)|((with_reducible first|refine jX ?hy ?_|refine jZ ?hy ?_);case hy=>rfl)|((with_reducible refine jF ?hy ?_);case hy=>decide))
  refine node_ok hF1 hU ?_
  obtain ⟨w2, hF2, hf2⟩ := hF1.setUp hU (.inr hk)
  repeat' (first|(with_reducible first|refine jA ?_|(refine hK _ _ ?_;clear hK K)|refine jJ fun K hK=>?_|refine jK ?_|refine jL ?_|refine jM ?_|refine jN ?_|refine jO ?_|refine jP ?_|refine jQ ?_|(refine jB ?_;clear hK K)|(refine jC ?_;clear hK K)|refine jD ?_|refine jE ?_|refine jG ?_|refine jH ?_|refine jI ?_)|((with_reducible refine jR ?hq ?_);case hq=>rfl)|((first|(with_reducible first|refine jS fun K hK=>?_|refine jT ?_|refine jU ?_)|((with_reducible refine jV ?hy fun K hK=>?_);case hy=>rfl));simp only [go_sem, Nat.reduceEqDiff, Nat.reduceAdd, Nat.reduceMul, Nat.reduceLeDiff, Nat.reduceLT, Int.reduceLT, Int.reduceLE, Int.reduceEq, Int.reduceNeg, Int.reduceToNat, Nat.reducePow, reduceIte, reduceCtorEq, w2])|((with_reducible first|refine jW ?hy ?_|refine jY ?hy ?_);case hy=>rfl)|((with_reducible first|refine jX ?hy ?_|refine jZ ?hy ?_);case hy=>rfl)|((with_reducible refine jF ?hy ?_);case hy=>decide))
  exact fin _ hF2 (hf1.trans hf2)
theorem side_ok {K : Value → Heap → Prop} (hF : FAt H f p g A nb N) {k x : Nat} (hk : U A k) (fin : K (.int .i64 (sideN N k x)) H) :
  CallsH Try.prog 66 #[.pointer (some ⟨f, 0, none⟩), .int .i64 k, .int .i64 x] H K := by
 have hn := hF.nd k hk
 have c5 := hn.cellOf (i := 5) rfl
 refine call66 (by simp) ?_
 simp only [Try.f66, Option.getD_some]
 repeat' (first|(with_reducible first|refine jA ?_|(refine hK _ _ ?_;clear hK K)|refine jJ fun K hK=>?_|refine jK ?_|refine jL ?_|refine jM ?_|refine jN ?_|refine jO ?_|refine jP ?_|refine jQ ?_|(refine jB ?_;clear hK K)|(refine jC ?_;clear hK K)|refine jD ?_|refine jE ?_|refine jG ?_|refine jH ?_|refine jI ?_)|((with_reducible refine jR ?hq ?_);case hq=>rfl)|((first|(with_reducible first|refine jS fun K hK=>?_|refine jT ?_|refine jU ?_)|((with_reducible refine jV ?hy fun K hK=>?_);case hy=>rfl));simp only [go_sem, Nat.reduceEqDiff, Nat.reduceAdd, Nat.reduceMul, Nat.reduceLeDiff, Nat.reduceLT, Int.reduceLT, Int.reduceLE, Int.reduceEq, Int.reduceNeg, Int.reduceToNat, Nat.reducePow, reduceIte, reduceCtorEq])|((with_reducible first|refine jW ?hy ?_|refine jY ?hy ?_);case hy=>rfl)|((with_reducible first|refine jX ?hy ?_|refine jZ ?hy ?_);case hy=>rfl)|((with_reducible refine jF ?hy ?_);case hy=>decide))
 refine node_ok hF hk ?_
 by_cases h : (N k).r = x
 ·have e : sideN N k x = 1 := if_pos h
  rw [e] at fin
  have t1 : (((N k).r : Int) == (x : Int)) = true := by simp [h]
  repeat' (first|(with_reducible first|refine jA ?_|(refine hK _ _ ?_;clear hK K)|refine jJ fun K hK=>?_|refine jK ?_|refine jL ?_|refine jM ?_|refine jN ?_|refine jO ?_|refine jP ?_|refine jQ ?_|(refine jB ?_;clear hK K)|(refine jC ?_;clear hK K)|refine jD ?_|refine jE ?_|refine jG ?_|refine jH ?_|refine jI ?_)|((with_reducible refine jR ?hq ?_);case hq=>rfl)|((first|(with_reducible first|refine jS fun K hK=>?_|refine jT ?_|refine jU ?_)|((with_reducible refine jV ?hy fun K hK=>?_);case hy=>rfl));simp only [go_sem, Nat.reduceEqDiff, Nat.reduceAdd, Nat.reduceMul, Nat.reduceLeDiff, Nat.reduceLT, Int.reduceLT, Int.reduceLE, Int.reduceEq, Int.reduceNeg, Int.reduceToNat, Nat.reducePow, reduceIte, reduceCtorEq, c5, t1])|((with_reducible first|refine jW ?hy ?_|refine jY ?hy ?_);case hy=>rfl)|((with_reducible first|refine jX ?hy ?_|refine jZ ?hy ?_);case hy=>rfl)|((with_reducible refine jF ?hy ?_);case hy=>decide))
  exact fin
 ·have e : sideN N k x = 0 := if_neg h
  rw [e] at fin
  have t1 : (((N k).r : Int) == (x : Int)) = false := by simp; omega
  repeat' (first|(with_reducible first|refine jA ?_|(refine hK _ _ ?_;clear hK K)|refine jJ fun K hK=>?_|refine jK ?_|refine jL ?_|refine jM ?_|refine jN ?_|refine jO ?_|refine jP ?_|refine jQ ?_|(refine jB ?_;clear hK K)|(refine jC ?_;clear hK K)|refine jD ?_|refine jE ?_|refine jG ?_|refine jH ?_|refine jI ?_)|((with_reducible refine jR ?hq ?_);case hq=>rfl)|((first|(with_reducible first|refine jS fun K hK=>?_|refine jT ?_|refine jU ?_)|((with_reducible refine jV ?hy fun K hK=>?_);case hy=>rfl));simp only [go_sem, Nat.reduceEqDiff, Nat.reduceAdd, Nat.reduceMul, Nat.reduceLeDiff, Nat.reduceLT, Int.reduceLT, Int.reduceLE, Int.reduceEq, Int.reduceNeg, Int.reduceToNat, Nat.reducePow, reduceIte, reduceCtorEq, c5, t1])|((with_reducible first|refine jW ?hy ?_|refine jY ?hy ?_);case hy=>rfl)|((with_reducible first|refine jX ?hy ?_|refine jZ ?hy ?_);case hy=>rfl)|((with_reducible refine jF ?hy ?_);case hy=>decide))
  exact fin
theorem sideN_two (N : Nodes) (k x : Nat) : sideN N k x = 0 ∨ sideN N k x = 1 := by
 unfold sideN
 split
 ·exact .inr rfl
 ·exact .inl rfl
theorem turn_ok {K : Value → Heap → Prop} (hF : FAt H f p g A nb N) {k : Nat} (hk : U A k) (hu : U A (N k).up) (fin : ∀ H', FAt H' f p g A nb (turnN N k) → Fr (NB A nb) H H' → K (.tuple #[]) H') :
  CallsH Try.prog 67 #[.pointer (some ⟨f, 0, none⟩), .int .i64 k] H K := by
 have hn := hF.nd k hk
 have hnu := hF.nd _ hu
 have c3 := hn.cellOf (i := 3) rfl
 have u3 := hnu.cellOf (i := 3) rfl
 have htop := hF.cl.up _ hu
 obtain ⟨s, es⟩ : ∃ s, s = sideN N (N k).up k := ⟨_, rfl⟩
 have hs : s = 0 ∨ s = 1 := by rw [es]; exact sideN_two _ _ _
 have ck : hcell H ⟨nb k, 4 + (1 - s), none⟩ = some (.int .i64 ((N k).kid (1 - s))) := by
  rcases hs with h | h <;> rw [h]
  ·exact hn.cellOf (i := 5) rfl
  ·exact hn.cellOf (i := 4) rfl
 have hs1 : 1 - s = 0 ∨ 1 - s = 1 := by omega
 have ews : IntKind.i64.wrap (1 - (s : Int)) = ((1 - s : Nat) : Int) := by rw [wrap_i64] <;> omega
 have t1 : (1 - s < 2) = True := by simp; omega
 have ts : (((1 - s : Nat) : Int) < 2) = True := by simp; omega
 have ek : turnN N k = pullN (pullN (hangN (setUp (turn2 (hangN N (N k).up s ((N k).kid (1 - s))) (N (N k).up).up (N k).up k) k (N (N k).up).up) k (1 - s) (N k).up) (N k).up) k := by rw [es]; rfl
 rw [ek] at fin
 refine call67 (by simp) ?_
 simp only [Try.f67, Option.getD_some]
 repeat' (first|(with_reducible first|refine jA ?_|(refine hK _ _ ?_;clear hK K)|refine jJ fun K hK=>?_|refine jK ?_|refine jL ?_|refine jM ?_|refine jN ?_|refine jO ?_|refine jP ?_|refine jQ ?_|(refine jB ?_;clear hK K)|(refine jC ?_;clear hK K)|refine jD ?_|refine jE ?_|refine jG ?_|refine jH ?_|refine jI ?_)|((with_reducible refine jR ?hq ?_);case hq=>rfl)|((first|(with_reducible first|refine jS fun K hK=>?_|refine jT ?_|refine jU ?_)|((with_reducible refine jV ?hy fun K hK=>?_);case hy=>rfl));simp only [go_sem, Nat.reduceEqDiff, Nat.reduceAdd, Nat.reduceMul, Nat.reduceLeDiff, Nat.reduceLT, Int.reduceLT, Int.reduceLE, Int.reduceEq, Int.reduceNeg, Int.reduceToNat, Nat.reducePow, reduceIte, reduceCtorEq])|((with_reducible first|refine jW ?hy ?_|refine jY ?hy ?_);case hy=>rfl)|((with_reducible first|refine jX ?hy ?_|refine jZ ?hy ?_);case hy=>rfl)|((with_reducible refine jF ?hy ?_);case hy=>decide))
 refine node_ok hF hk ?_
 repeat' (first|(with_reducible first|refine jA ?_|(refine hK _ _ ?_;clear hK K)|refine jJ fun K hK=>?_|refine jK ?_|refine jL ?_|refine jM ?_|refine jN ?_|refine jO ?_|refine jP ?_|refine jQ ?_|(refine jB ?_;clear hK K)|(refine jC ?_;clear hK K)|refine jD ?_|refine jE ?_|refine jG ?_|refine jH ?_|refine jI ?_)|((with_reducible refine jR ?hq ?_);case hq=>rfl)|((first|(with_reducible first|refine jS fun K hK=>?_|refine jT ?_|refine jU ?_)|((with_reducible refine jV ?hy fun K hK=>?_);case hy=>rfl));simp only [go_sem, Nat.reduceEqDiff, Nat.reduceAdd, Nat.reduceMul, Nat.reduceLeDiff, Nat.reduceLT, Int.reduceLT, Int.reduceLE, Int.reduceEq, Int.reduceNeg, Int.reduceToNat, Nat.reducePow, reduceIte, reduceCtorEq, c3])|((with_reducible first|refine jW ?hy ?_|refine jY ?hy ?_);case hy=>rfl)|((with_reducible first|refine jX ?hy ?_|refine jZ ?hy ?_);case hy=>rfl)|((with_reducible refine jF ?hy ?_);case hy=>decide))
 refine node_ok hF hu ?_
 repeat' (first|(with_reducible first|refine jA ?_|(refine hK _ _ ?_;clear hK K)|refine jJ fun K hK=>?_|refine jK ?_|refine jL ?_|refine jM ?_|refine jN ?_|refine jO ?_|refine jP ?_|refine jQ ?_|(refine jB ?_;clear hK K)|(refine jC ?_;clear hK K)|refine jD ?_|refine jE ?_|refine jG ?_|refine jH ?_|refine jI ?_)|((with_reducible refine jR ?hq ?_);case hq=>rfl)|((first|(with_reducible first|refine jS fun K hK=>?_|refine jT ?_|refine jU ?_)|((with_reducible refine jV ?hy fun K hK=>?_);case hy=>rfl));simp only [go_sem, Nat.reduceEqDiff, Nat.reduceAdd, Nat.reduceMul, Nat.reduceLeDiff, Nat.reduceLT, Int.reduceLT, Int.reduceLE, Int.reduceEq, Int.reduceNeg, Int.reduceToNat, Nat.reducePow, reduceIte, reduceCtorEq, u3])|((with_reducible first|refine jW ?hy ?_|refine jY ?hy ?_);case hy=>rfl)|((with_reducible first|refine jX ?hy ?_|refine jZ ?hy ?_);case hy=>rfl)|((with_reducible refine jF ?hy ?_);case hy=>decide))
 refine side_ok hF hu ?_
 rw [← es]
 repeat' (first|(with_reducible first|refine jA ?_|(refine hK _ _ ?_;clear hK K)|refine jJ fun K hK=>?_|refine jK ?_|refine jL ?_|refine jM ?_|refine jN ?_|refine jO ?_|refine jP ?_|refine jQ ?_|(refine jB ?_;clear hK K)|(refine jC ?_;clear hK K)|refine jD ?_|refine jE ?_|refine jG ?_|refine jH ?_|refine jI ?_)|((with_reducible refine jR ?hq ?_);case hq=>rfl)|((first|(with_reducible first|refine jS fun K hK=>?_|refine jT ?_|refine jU ?_)|((with_reducible refine jV ?hy fun K hK=>?_);case hy=>rfl));simp only [go_sem, Nat.reduceEqDiff, Nat.reduceAdd, Nat.reduceMul, Nat.reduceLeDiff, Nat.reduceLT, Int.reduceLT, Int.reduceLE, Int.reduceEq, Int.reduceNeg, Int.reduceToNat, Nat.reducePow, reduceIte, reduceCtorEq, ews, t1, ts, ck])|((with_reducible first|refine jW ?hy ?_|refine jY ?hy ?_);case hy=>rfl)|((with_reducible first|refine jX ?hy ?_|refine jZ ?hy ?_);case hy=>rfl)|((with_reducible refine jF ?hy ?_);case hy=>decide))
 refine hang_ok hF hu hs (hF.cl.kid hk) ?_
 intro H1 hF1 hf1
 by_cases h0 : (N (N k).up).up = 0
 ·have t2 : (((N (N k).up).up : Int) != 0) = false := by simp [h0]
  have e2 : turn2 (hangN N (N k).up s ((N k).kid (1 - s))) (N (N k).up).up (N k).up k = hangN N (N k).up s ((N k).kid (1 - s)) := if_pos h0
  rw [e2] at fin
  obtain ⟨w3, hF3, hf3⟩ := hF1.setUp hk htop
  repeat' (first|(with_reducible first|refine jA ?_|(refine hK _ _ ?_;clear hK K)|refine jJ fun K hK=>?_|refine jK ?_|refine jL ?_|refine jM ?_|refine jN ?_|refine jO ?_|refine jP ?_|refine jQ ?_|(refine jB ?_;clear hK K)|(refine jC ?_;clear hK K)|refine jD ?_|refine jE ?_|refine jG ?_|refine jH ?_|refine jI ?_)|((with_reducible refine jR ?hq ?_);case hq=>rfl)|((first|(with_reducible first|refine jS fun K hK=>?_|refine jT ?_|refine jU ?_)|((with_reducible refine jV ?hy fun K hK=>?_);case hy=>rfl));simp only [go_sem, Nat.reduceEqDiff, Nat.reduceAdd, Nat.reduceMul, Nat.reduceLeDiff, Nat.reduceLT, Int.reduceLT, Int.reduceLE, Int.reduceEq, Int.reduceNeg, Int.reduceToNat, Nat.reducePow, reduceIte, reduceCtorEq, t2, w3, ews, t1, ts])|((with_reducible first|refine jW ?hy ?_|refine jY ?hy ?_);case hy=>rfl)|((with_reducible first|refine jX ?hy ?_|refine jZ ?hy ?_);case hy=>rfl)|((with_reducible refine jF ?hy ?_);case hy=>decide))
  refine hang_ok hF3 hk hs1 (.inr hu) ?_
  intro H4 hF4 hf4
  repeat' (first|(with_reducible first|refine jA ?_|(refine hK _ _ ?_;clear hK K)|refine jJ fun K hK=>?_|refine jK ?_|refine jL ?_|refine jM ?_|refine jN ?_|refine jO ?_|refine jP ?_|refine jQ ?_|(refine jB ?_;clear hK K)|(refine jC ?_;clear hK K)|refine jD ?_|refine jE ?_|refine jG ?_|refine jH ?_|refine jI ?_)|((with_reducible refine jR ?hq ?_);case hq=>rfl)|((first|(with_reducible first|refine jS fun K hK=>?_|refine jT ?_|refine jU ?_)|((with_reducible refine jV ?hy fun K hK=>?_);case hy=>rfl));simp only [go_sem, Nat.reduceEqDiff, Nat.reduceAdd, Nat.reduceMul, Nat.reduceLeDiff, Nat.reduceLT, Int.reduceLT, Int.reduceLE, Int.reduceEq, Int.reduceNeg, Int.reduceToNat, Nat.reducePow, reduceIte, reduceCtorEq])|((with_reducible first|refine jW ?hy ?_|refine jY ?hy ?_);case hy=>rfl)|((with_reducible first|refine jX ?hy ?_|refine jZ ?hy ?_);case hy=>rfl)|((with_reducible refine jF ?hy ?_);case hy=>decide))
  refine pull_ok hF4 hu ?_
  intro H5 hF5 hf5
  repeat' (first|(with_reducible first|refine jA ?_|(refine hK _ _ ?_;clear hK K)|refine jJ fun K hK=>?_|refine jK ?_|refine jL ?_|refine jM ?_|refine jN ?_|refine jO ?_|refine jP ?_|refine jQ ?_|(refine jB ?_;clear hK K)|(refine jC ?_;clear hK K)|refine jD ?_|refine jE ?_|refine jG ?_|refine jH ?_|refine jI ?_)|((with_reducible refine jR ?hq ?_);case hq=>rfl)|((first|(with_reducible first|refine jS fun K hK=>?_|refine jT ?_|refine jU ?_)|((with_reducible refine jV ?hy fun K hK=>?_);case hy=>rfl));simp only [go_sem, Nat.reduceEqDiff, Nat.reduceAdd, Nat.reduceMul, Nat.reduceLeDiff, Nat.reduceLT, Int.reduceLT, Int.reduceLE, Int.reduceEq, Int.reduceNeg, Int.reduceToNat, Nat.reducePow, reduceIte, reduceCtorEq])|((with_reducible first|refine jW ?hy ?_|refine jY ?hy ?_);case hy=>rfl)|((with_reducible first|refine jX ?hy ?_|refine jZ ?hy ?_);case hy=>rfl)|((with_reducible refine jF ?hy ?_);case hy=>decide))
  refine pull_ok hF5 hk ?_
  intro H6 hF6 hf6
  repeat' (first|(with_reducible first|refine jA ?_|(refine hK _ _ ?_;clear hK K)|refine jJ fun K hK=>?_|refine jK ?_|refine jL ?_|refine jM ?_|refine jN ?_|refine jO ?_|refine jP ?_|refine jQ ?_|(refine jB ?_;clear hK K)|(refine jC ?_;clear hK K)|refine jD ?_|refine jE ?_|refine jG ?_|refine jH ?_|refine jI ?_)|((with_reducible refine jR ?hq ?_);case hq=>rfl)|((first|(with_reducible first|refine jS fun K hK=>?_|refine jT ?_|refine jU ?_)|((with_reducible refine jV ?hy fun K hK=>?_);case hy=>rfl));simp only [go_sem, Nat.reduceEqDiff, Nat.reduceAdd, Nat.reduceMul, Nat.reduceLeDiff, Nat.reduceLT, Int.reduceLT, Int.reduceLE, Int.reduceEq, Int.reduceNeg, Int.reduceToNat, Nat.reducePow, reduceIte, reduceCtorEq])|((with_reducible first|refine jW ?hy ?_|refine jY ?hy ?_);case hy=>rfl)|((with_reducible first|refine jX ?hy ?_|refine jZ ?hy ?_);case hy=>rfl)|((with_reducible refine jF ?hy ?_);case hy=>decide))
  exact fin _ hF6 ((((hf1.trans hf3).trans hf4).trans hf5).trans hf6)
 ·have t2 : (((N (N k).up).up : Int) != 0) = true := by simp [h0]
  have hut := htop.resolve_left h0
  obtain ⟨s2, es2⟩ : ∃ s2, s2 = sideN (hangN N (N k).up s ((N k).kid (1 - s))) (N (N k).up).up (N k).up := ⟨_, rfl⟩
  have hs2 : s2 = 0 ∨ s2 = 1 := by rw [es2]; exact sideN_two _ _ _
  have e2 : turn2 (hangN N (N k).up s ((N k).kid (1 - s))) (N (N k).up).up (N k).up k = upd (hangN N (N k).up s ((N k).kid (1 - s))) (N (N k).up).up ((hangN N (N k).up s ((N k).kid (1 - s)) (N (N k).up).up).setKid s2 k) := by rw [es2]; exact if_neg h0
  rw [e2] at fin
  obtain ⟨w2, hF2, hf2⟩ := hF1.kid hut hs2 (.inr hk)
  obtain ⟨w3, hF3, hf3⟩ := hF2.setUp hk htop
  have t3 : (s2 < 2) = True := by simp; omega
  have ts3 : ((s2 : Int) < 2) = True := by simp; omega
  repeat' (first|(with_reducible first|refine jA ?_|(refine hK _ _ ?_;clear hK K)|refine jJ fun K hK=>?_|refine jK ?_|refine jL ?_|refine jM ?_|refine jN ?_|refine jO ?_|refine jP ?_|refine jQ ?_|(refine jB ?_;clear hK K)|(refine jC ?_;clear hK K)|refine jD ?_|refine jE ?_|refine jG ?_|refine jH ?_|refine jI ?_)|((with_reducible refine jR ?hq ?_);case hq=>rfl)|((first|(with_reducible first|refine jS fun K hK=>?_|refine jT ?_|refine jU ?_)|((with_reducible refine jV ?hy fun K hK=>?_);case hy=>rfl));simp only [go_sem, Nat.reduceEqDiff, Nat.reduceAdd, Nat.reduceMul, Nat.reduceLeDiff, Nat.reduceLT, Int.reduceLT, Int.reduceLE, Int.reduceEq, Int.reduceNeg, Int.reduceToNat, Nat.reducePow, reduceIte, reduceCtorEq, t2])|((with_reducible first|refine jW ?hy ?_|refine jY ?hy ?_);case hy=>rfl)|((with_reducible first|refine jX ?hy ?_|refine jZ ?hy ?_);case hy=>rfl)|((with_reducible refine jF ?hy ?_);case hy=>decide))
  refine x_drawS [] [0, 1, 3, 4, 5, 7, 2, 8, 9, 6, 10, 11] rfl (by kernel_rfl) (Cells []) trivial ?_
  repeat' (first|(with_reducible refine xs_nil ?_)|((first|((with_reducible apply xs_rd);case hi=>rfl)|((with_reducible apply xs_guard_yes);(case hi=>rfl);(case hy=>rfl)));(case hr=>rfl);(case h1=>intro H' hS'; (try simp only [Cells, and_true] at hS');simp only [go_sem, Nat.reduceEqDiff, Nat.reduceAdd, Nat.reduceMul, Nat.reduceLeDiff, Nat.reduceLT, Int.reduceLT, Int.reduceLE, Int.reduceEq, Int.reduceNeg, Int.reduceToNat, Nat.reducePow, reduceIte, reduceCtorEq, hS']; rfl))|((with_reducible refine xs_tail ?hz ?_);case hz=>rfl)|((with_reducible refine xs_keep ?hz ?_);case hz=>first|(with_reducible assumption)|assumption|(simp only [go_sem, Nat.reduceEqDiff, Nat.reduceAdd, Nat.reduceMul, Nat.reduceLeDiff, Nat.reduceLT, Int.reduceLT, Int.reduceLE, Int.reduceEq, Int.reduceNeg, Int.reduceToNat, Nat.reducePow, reduceIte, reduceCtorEq, Cells, and_true]))|((with_reducible apply xs_guard_no);(case hi=>rfl);(case hy=>rfl);(case hS=>assumption))|((first|((with_reducible apply xs_op);(case hi=>rfl))|((with_reducible apply xs_op_yes);(case hi=>rfl);(case hy=>rfl)));(case hr=>rfl);intro K hK; simp only [go_sem, Nat.reduceEqDiff, Nat.reduceAdd, Nat.reduceMul, Nat.reduceLeDiff, Nat.reduceLT, Int.reduceLT, Int.reduceLE, Int.reduceEq, Int.reduceNeg, Int.reduceToNat, Nat.reducePow, reduceIte, reduceCtorEq])|(with_reducible first|refine jA ?_|(refine hK _ _ ?_;clear hK K)|refine jJ fun K hK=>?_|refine jK ?_|refine jL ?_|refine jM ?_|refine jN ?_|refine jO ?_|refine jP ?_|refine jQ ?_|(refine jB ?_;clear hK K)|(refine jC ?_;clear hK K)|refine jD ?_|refine jE ?_|refine jG ?_|refine jH ?_|refine jI ?_)|((with_reducible refine jR ?hq ?_);case hq=>rfl)|((first|(with_reducible first|refine jS fun K hK=>?_|refine jT ?_|refine jU ?_)|((with_reducible refine jV ?hy fun K hK=>?_);case hy=>rfl));simp only [go_sem, Nat.reduceEqDiff, Nat.reduceAdd, Nat.reduceMul, Nat.reduceLeDiff, Nat.reduceLT, Int.reduceLT, Int.reduceLE, Int.reduceEq, Int.reduceNeg, Int.reduceToNat, Nat.reducePow, reduceIte, reduceCtorEq])|((with_reducible first|refine jW ?hy ?_|refine jY ?hy ?_);case hy=>rfl)|((with_reducible first|refine jX ?hy ?_|refine jZ ?hy ?_);case hy=>rfl)|((with_reducible refine jF ?hy ?_);case hy=>decide))
  refine node_ok hF1 hut ?_
  repeat' (first|(with_reducible refine xs_nil ?_)|((first|((with_reducible apply xs_rd);case hi=>rfl)|((with_reducible apply xs_guard_yes);(case hi=>rfl);(case hy=>rfl)));(case hr=>rfl);(case h1=>intro H' hS'; (try simp only [Cells, and_true] at hS');simp only [go_sem, Nat.reduceEqDiff, Nat.reduceAdd, Nat.reduceMul, Nat.reduceLeDiff, Nat.reduceLT, Int.reduceLT, Int.reduceLE, Int.reduceEq, Int.reduceNeg, Int.reduceToNat, Nat.reducePow, reduceIte, reduceCtorEq, hS']; rfl))|((with_reducible refine xs_tail ?hz ?_);case hz=>rfl)|((with_reducible refine xs_keep ?hz ?_);case hz=>first|(with_reducible assumption)|assumption|(simp only [go_sem, Nat.reduceEqDiff, Nat.reduceAdd, Nat.reduceMul, Nat.reduceLeDiff, Nat.reduceLT, Int.reduceLT, Int.reduceLE, Int.reduceEq, Int.reduceNeg, Int.reduceToNat, Nat.reducePow, reduceIte, reduceCtorEq, Cells, and_true]))|((with_reducible apply xs_guard_no);(case hi=>rfl);(case hy=>rfl);(case hS=>assumption))|((first|((with_reducible apply xs_op);(case hi=>rfl))|((with_reducible apply xs_op_yes);(case hi=>rfl);(case hy=>rfl)));(case hr=>rfl);intro K hK; simp only [go_sem, Nat.reduceEqDiff, Nat.reduceAdd, Nat.reduceMul, Nat.reduceLeDiff, Nat.reduceLT, Int.reduceLT, Int.reduceLE, Int.reduceEq, Int.reduceNeg, Int.reduceToNat, Nat.reducePow, reduceIte, reduceCtorEq])|(with_reducible first|refine jA ?_|(refine hK _ _ ?_;clear hK K)|refine jJ fun K hK=>?_|refine jK ?_|refine jL ?_|refine jM ?_|refine jN ?_|refine jO ?_|refine jP ?_|refine jQ ?_|(refine jB ?_;clear hK K)|(refine jC ?_;clear hK K)|refine jD ?_|refine jE ?_|refine jG ?_|refine jH ?_|refine jI ?_)|((with_reducible refine jR ?hq ?_);case hq=>rfl)|((first|(with_reducible first|refine jS fun K hK=>?_|refine jT ?_|refine jU ?_)|((with_reducible refine jV ?hy fun K hK=>?_);case hy=>rfl));simp only [go_sem, Nat.reduceEqDiff, Nat.reduceAdd, Nat.reduceMul, Nat.reduceLeDiff, Nat.reduceLT, Int.reduceLT, Int.reduceLE, Int.reduceEq, Int.reduceNeg, Int.reduceToNat, Nat.reducePow, reduceIte, reduceCtorEq])|((with_reducible first|refine jW ?hy ?_|refine jY ?hy ?_);case hy=>rfl)|((with_reducible first|refine jX ?hy ?_|refine jZ ?hy ?_);case hy=>rfl)|((with_reducible refine jF ?hy ?_);case hy=>decide))
  refine side_ok hF1 hut ?_
  rw [← es2]
  repeat' (first|(with_reducible refine xs_nil ?_)|((first|((with_reducible apply xs_rd);case hi=>rfl)|((with_reducible apply xs_guard_yes);(case hi=>rfl);(case hy=>rfl)));(case hr=>rfl);(case h1=>intro H' hS'; (try simp only [Cells, and_true] at hS');simp only [go_sem, Nat.reduceEqDiff, Nat.reduceAdd, Nat.reduceMul, Nat.reduceLeDiff, Nat.reduceLT, Int.reduceLT, Int.reduceLE, Int.reduceEq, Int.reduceNeg, Int.reduceToNat, Nat.reducePow, reduceIte, reduceCtorEq, t3, ts3, w2, w3, ews, t1, ts, hS']; rfl))|((with_reducible refine xs_tail ?hz ?_);case hz=>rfl)|((with_reducible refine xs_keep ?hz ?_);case hz=>first|(with_reducible assumption)|assumption|(simp only [go_sem, Nat.reduceEqDiff, Nat.reduceAdd, Nat.reduceMul, Nat.reduceLeDiff, Nat.reduceLT, Int.reduceLT, Int.reduceLE, Int.reduceEq, Int.reduceNeg, Int.reduceToNat, Nat.reducePow, reduceIte, reduceCtorEq, Cells, and_true, t3, ts3, w2, w3, ews, t1, ts]))|((with_reducible apply xs_guard_no);(case hi=>rfl);(case hy=>rfl);(case hS=>assumption))|((first|((with_reducible apply xs_op);(case hi=>rfl))|((with_reducible apply xs_op_yes);(case hi=>rfl);(case hy=>rfl)));(case hr=>rfl);intro K hK; simp only [go_sem, Nat.reduceEqDiff, Nat.reduceAdd, Nat.reduceMul, Nat.reduceLeDiff, Nat.reduceLT, Int.reduceLT, Int.reduceLE, Int.reduceEq, Int.reduceNeg, Int.reduceToNat, Nat.reducePow, reduceIte, reduceCtorEq, t3, ts3, w2, w3, ews, t1, ts])|(with_reducible first|refine jA ?_|(refine hK _ _ ?_;clear hK K)|refine jJ fun K hK=>?_|refine jK ?_|refine jL ?_|refine jM ?_|refine jN ?_|refine jO ?_|refine jP ?_|refine jQ ?_|(refine jB ?_;clear hK K)|(refine jC ?_;clear hK K)|refine jD ?_|refine jE ?_|refine jG ?_|refine jH ?_|refine jI ?_)|((with_reducible refine jR ?hq ?_);case hq=>rfl)|((first|(with_reducible first|refine jS fun K hK=>?_|refine jT ?_|refine jU ?_)|((with_reducible refine jV ?hy fun K hK=>?_);case hy=>rfl));simp only [go_sem, Nat.reduceEqDiff, Nat.reduceAdd, Nat.reduceMul, Nat.reduceLeDiff, Nat.reduceLT, Int.reduceLT, Int.reduceLE, Int.reduceEq, Int.reduceNeg, Int.reduceToNat, Nat.reducePow, reduceIte, reduceCtorEq, t3, ts3, w2, w3, ews, t1, ts])|((with_reducible first|refine jW ?hy ?_|refine jY ?hy ?_);case hy=>rfl)|((with_reducible first|refine jX ?hy ?_|refine jZ ?hy ?_);case hy=>rfl)|((with_reducible refine jF ?hy ?_);case hy=>decide))
  refine hang_ok hF3 hk hs1 (.inr hu) ?_
  intro H4 hF4 hf4
  repeat' (first|(with_reducible first|refine jA ?_|(refine hK _ _ ?_;clear hK K)|refine jJ fun K hK=>?_|refine jK ?_|refine jL ?_|refine jM ?_|refine jN ?_|refine jO ?_|refine jP ?_|refine jQ ?_|(refine jB ?_;clear hK K)|(refine jC ?_;clear hK K)|refine jD ?_|refine jE ?_|refine jG ?_|refine jH ?_|refine jI ?_)|((with_reducible refine jR ?hq ?_);case hq=>rfl)|((first|(with_reducible first|refine jS fun K hK=>?_|refine jT ?_|refine jU ?_)|((with_reducible refine jV ?hy fun K hK=>?_);case hy=>rfl));simp only [go_sem, Nat.reduceEqDiff, Nat.reduceAdd, Nat.reduceMul, Nat.reduceLeDiff, Nat.reduceLT, Int.reduceLT, Int.reduceLE, Int.reduceEq, Int.reduceNeg, Int.reduceToNat, Nat.reducePow, reduceIte, reduceCtorEq])|((with_reducible first|refine jW ?hy ?_|refine jY ?hy ?_);case hy=>rfl)|((with_reducible first|refine jX ?hy ?_|refine jZ ?hy ?_);case hy=>rfl)|((with_reducible refine jF ?hy ?_);case hy=>decide))
  refine pull_ok hF4 hu ?_
  intro H5 hF5 hf5
  repeat' (first|(with_reducible first|refine jA ?_|(refine hK _ _ ?_;clear hK K)|refine jJ fun K hK=>?_|refine jK ?_|refine jL ?_|refine jM ?_|refine jN ?_|refine jO ?_|refine jP ?_|refine jQ ?_|(refine jB ?_;clear hK K)|(refine jC ?_;clear hK K)|refine jD ?_|refine jE ?_|refine jG ?_|refine jH ?_|refine jI ?_)|((with_reducible refine jR ?hq ?_);case hq=>rfl)|((first|(with_reducible first|refine jS fun K hK=>?_|refine jT ?_|refine jU ?_)|((with_reducible refine jV ?hy fun K hK=>?_);case hy=>rfl));simp only [go_sem, Nat.reduceEqDiff, Nat.reduceAdd, Nat.reduceMul, Nat.reduceLeDiff, Nat.reduceLT, Int.reduceLT, Int.reduceLE, Int.reduceEq, Int.reduceNeg, Int.reduceToNat, Nat.reducePow, reduceIte, reduceCtorEq])|((with_reducible first|refine jW ?hy ?_|refine jY ?hy ?_);case hy=>rfl)|((with_reducible first|refine jX ?hy ?_|refine jZ ?hy ?_);case hy=>rfl)|((with_reducible refine jF ?hy ?_);case hy=>decide))
  refine pull_ok hF5 hk ?_
  intro H6 hF6 hf6
  repeat' (first|(with_reducible first|refine jA ?_|(refine hK _ _ ?_;clear hK K)|refine jJ fun K hK=>?_|refine jK ?_|refine jL ?_|refine jM ?_|refine jN ?_|refine jO ?_|refine jP ?_|refine jQ ?_|(refine jB ?_;clear hK K)|(refine jC ?_;clear hK K)|refine jD ?_|refine jE ?_|refine jG ?_|refine jH ?_|refine jI ?_)|((with_reducible refine jR ?hq ?_);case hq=>rfl)|((first|(with_reducible first|refine jS fun K hK=>?_|refine jT ?_|refine jU ?_)|((with_reducible refine jV ?hy fun K hK=>?_);case hy=>rfl));simp only [go_sem, Nat.reduceEqDiff, Nat.reduceAdd, Nat.reduceMul, Nat.reduceLeDiff, Nat.reduceLT, Int.reduceLT, Int.reduceLE, Int.reduceEq, Int.reduceNeg, Int.reduceToNat, Nat.reducePow, reduceIte, reduceCtorEq])|((with_reducible first|refine jW ?hy ?_|refine jY ?hy ?_);case hy=>rfl)|((with_reducible first|refine jX ?hy ?_|refine jZ ?hy ?_);case hy=>rfl)|((with_reducible refine jF ?hy ?_);case hy=>decide))
  exact fin _ hF6 (((((hf1.trans hf2).trans hf3).trans hf4).trans hf5).trans hf6)
end

section
variable {H H' : Heap} {f p g : Nat} {A : Ar} {nb : Nat → Nat} {N : Nodes}
theorem step_ok {K : Value → Heap → Prop} (hF : FAt H f p g A nb N) {k c2 c3 : Nat} (hk : U A k) (hs : stepOk N k) (hc : Cells [(c2, 0, .pointer (some ⟨f, 0, none⟩)), (c3, 0, .int .i64 (k : Nat))] H) (hn2 : ¬ NB A nb c2) (hn3 : ¬ NB A nb c3)
  (fin : ∀ H', FAt H' f p g A nb (stepN N k) → Fr (NB A nb) H H' → K (.tuple #[]) H') :
  CallsH Try.prog 65 #[.int .i64 (N k).up, .int .i64 (N (N k).up).up, .pointer (some ⟨c2, 0, none⟩), .pointer (some ⟨c3, 0, none⟩)] H K := by
 have hu := (hF.cl.up k hk).resolve_left hs.1
 have hcn : ∀ x ∈ [(c2, 0, Value.pointer (some ⟨f, 0, none⟩)), (c3, 0, Value.int .i64 (k : Nat))], ¬ NB A nb x.1 := fun x hx => by
  simp only [List.mem_cons, List.not_mem_nil, or_false] at hx
  rcases hx with rfl | rfl
  ·exact hn2
  ·exact hn3
 have q := hc
 simp only [Cells, and_true] at q
 refine call65 (by simp) ?_
 simp only [Try.f65, Option.getD_some]
 by_cases h0 : (N (N k).up).up = 0
 ·have t1 : (((N (N k).up).up : Int) == 0) = true := by simp [h0]
  have e : stepN N k = turnN N k := if_pos h0
  rw [e] at fin
  repeat' (first|(with_reducible first|refine jA ?_|(refine hK _ _ ?_;clear hK K)|refine jJ fun K hK=>?_|refine jK ?_|refine jL ?_|refine jM ?_|refine jN ?_|refine jO ?_|refine jP ?_|refine jQ ?_|(refine jB ?_;clear hK K)|(refine jC ?_;clear hK K)|refine jD ?_|refine jE ?_|refine jG ?_|refine jH ?_|refine jI ?_)|((with_reducible refine jR ?hq ?_);case hq=>rfl)|((first|(with_reducible first|refine jS fun K hK=>?_|refine jT ?_|refine jU ?_)|((with_reducible refine jV ?hy fun K hK=>?_);case hy=>rfl));simp only [go_sem, Nat.reduceEqDiff, Nat.reduceAdd, Nat.reduceMul, Nat.reduceLeDiff, Nat.reduceLT, Int.reduceLT, Int.reduceLE, Int.reduceEq, Int.reduceNeg, Int.reduceToNat, Nat.reducePow, reduceIte, reduceCtorEq, t1, q])|((with_reducible first|refine jW ?hy ?_|refine jY ?hy ?_);case hy=>rfl)|((with_reducible first|refine jX ?hy ?_|refine jZ ?hy ?_);case hy=>rfl)|((with_reducible refine jF ?hy ?_);case hy=>decide))
  refine turn_ok hF hk hu ?_
  intro H1 hF1 hf1
  repeat' (first|(with_reducible first|refine jA ?_|(refine hK _ _ ?_;clear hK K)|refine jJ fun K hK=>?_|refine jK ?_|refine jL ?_|refine jM ?_|refine jN ?_|refine jO ?_|refine jP ?_|refine jQ ?_|(refine jB ?_;clear hK K)|(refine jC ?_;clear hK K)|refine jD ?_|refine jE ?_|refine jG ?_|refine jH ?_|refine jI ?_)|((with_reducible refine jR ?hq ?_);case hq=>rfl)|((first|(with_reducible first|refine jS fun K hK=>?_|refine jT ?_|refine jU ?_)|((with_reducible refine jV ?hy fun K hK=>?_);case hy=>rfl));simp only [go_sem, Nat.reduceEqDiff, Nat.reduceAdd, Nat.reduceMul, Nat.reduceLeDiff, Nat.reduceLT, Int.reduceLT, Int.reduceLE, Int.reduceEq, Int.reduceNeg, Int.reduceToNat, Nat.reducePow, reduceIte, reduceCtorEq])|((with_reducible first|refine jW ?hy ?_|refine jY ?hy ?_);case hy=>rfl)|((with_reducible first|refine jX ?hy ?_|refine jZ ?hy ?_);case hy=>rfl)|((with_reducible refine jF ?hy ?_);case hy=>decide))
  exact fin _ hF1 hf1
 ·have t1 : (((N (N k).up).up : Int) == 0) = false := by simp [h0]
  have hut := (hF.cl.up _ hu).resolve_left h0
  have e : stepN N k = turnN (first N k) k := by
   unfold stepN first
   rw [if_neg h0]
   split <;> rfl
  rw [e] at fin
  have h2 := hs.2 h0
  repeat' (first|(with_reducible first|refine jA ?_|(refine hK _ _ ?_;clear hK K)|refine jJ fun K hK=>?_|refine jK ?_|refine jL ?_|refine jM ?_|refine jN ?_|refine jO ?_|refine jP ?_|refine jQ ?_|(refine jB ?_;clear hK K)|(refine jC ?_;clear hK K)|refine jD ?_|refine jE ?_|refine jG ?_|refine jH ?_|refine jI ?_)|((with_reducible refine jR ?hq ?_);case hq=>rfl)|((first|(with_reducible first|refine jS fun K hK=>?_|refine jT ?_|refine jU ?_)|((with_reducible refine jV ?hy fun K hK=>?_);case hy=>rfl));simp only [go_sem, Nat.reduceEqDiff, Nat.reduceAdd, Nat.reduceMul, Nat.reduceLeDiff, Nat.reduceLT, Int.reduceLT, Int.reduceLE, Int.reduceEq, Int.reduceNeg, Int.reduceToNat, Nat.reducePow, reduceIte, reduceCtorEq, t1])|((with_reducible first|refine jW ?hy ?_|refine jY ?hy ?_);case hy=>rfl)|((with_reducible first|refine jX ?hy ?_|refine jZ ?hy ?_);case hy=>rfl)|((with_reducible refine jF ?hy ?_);case hy=>decide))
  refine x_drawS [] [0, 1, 2, 4, 5, 6, 3, 7, 8, 9] rfl (by kernel_rfl) (Cells _) hc ?_
  repeat' (first|(with_reducible refine xs_nil ?_)|((first|((with_reducible apply xs_rd);case hi=>rfl)|((with_reducible apply xs_guard_yes);(case hi=>rfl);(case hy=>rfl)));(case hr=>rfl);(case h1=>intro H' hS'; (try simp only [Cells, and_true] at hS');simp only [go_sem, Nat.reduceEqDiff, Nat.reduceAdd, Nat.reduceMul, Nat.reduceLeDiff, Nat.reduceLT, Int.reduceLT, Int.reduceLE, Int.reduceEq, Int.reduceNeg, Int.reduceToNat, Nat.reducePow, reduceIte, reduceCtorEq, hS']; rfl))|((with_reducible refine xs_tail ?hz ?_);case hz=>rfl)|((with_reducible refine xs_keep ?hz ?_);case hz=>first|(with_reducible assumption)|assumption|(simp only [go_sem, Nat.reduceEqDiff, Nat.reduceAdd, Nat.reduceMul, Nat.reduceLeDiff, Nat.reduceLT, Int.reduceLT, Int.reduceLE, Int.reduceEq, Int.reduceNeg, Int.reduceToNat, Nat.reducePow, reduceIte, reduceCtorEq, Cells, and_true]))|((with_reducible apply xs_guard_no);(case hi=>rfl);(case hy=>rfl);(case hS=>assumption))|((first|((with_reducible apply xs_op);(case hi=>rfl))|((with_reducible apply xs_op_yes);(case hi=>rfl);(case hy=>rfl)));(case hr=>rfl);intro K hK; simp only [go_sem, Nat.reduceEqDiff, Nat.reduceAdd, Nat.reduceMul, Nat.reduceLeDiff, Nat.reduceLT, Int.reduceLT, Int.reduceLE, Int.reduceEq, Int.reduceNeg, Int.reduceToNat, Nat.reducePow, reduceIte, reduceCtorEq])|(with_reducible first|refine jA ?_|(refine hK _ _ ?_;clear hK K)|refine jJ fun K hK=>?_|refine jK ?_|refine jL ?_|refine jM ?_|refine jN ?_|refine jO ?_|refine jP ?_|refine jQ ?_|(refine jB ?_;clear hK K)|(refine jC ?_;clear hK K)|refine jD ?_|refine jE ?_|refine jG ?_|refine jH ?_|refine jI ?_)|((with_reducible refine jR ?hq ?_);case hq=>rfl)|((first|(with_reducible first|refine jS fun K hK=>?_|refine jT ?_|refine jU ?_)|((with_reducible refine jV ?hy fun K hK=>?_);case hy=>rfl));simp only [go_sem, Nat.reduceEqDiff, Nat.reduceAdd, Nat.reduceMul, Nat.reduceLeDiff, Nat.reduceLT, Int.reduceLT, Int.reduceLE, Int.reduceEq, Int.reduceNeg, Int.reduceToNat, Nat.reducePow, reduceIte, reduceCtorEq])|((with_reducible first|refine jW ?hy ?_|refine jY ?hy ?_);case hy=>rfl)|((with_reducible first|refine jX ?hy ?_|refine jZ ?hy ?_);case hy=>rfl)|((with_reducible refine jF ?hy ?_);case hy=>decide))
  refine side_ok hF hut ?_
  repeat' (first|(with_reducible refine xs_nil ?_)|((first|((with_reducible apply xs_rd);case hi=>rfl)|((with_reducible apply xs_guard_yes);(case hi=>rfl);(case hy=>rfl)));(case hr=>rfl);(case h1=>intro H' hS'; (try simp only [Cells, and_true] at hS');simp only [go_sem, Nat.reduceEqDiff, Nat.reduceAdd, Nat.reduceMul, Nat.reduceLeDiff, Nat.reduceLT, Int.reduceLT, Int.reduceLE, Int.reduceEq, Int.reduceNeg, Int.reduceToNat, Nat.reducePow, reduceIte, reduceCtorEq, hS']; rfl))|((with_reducible refine xs_tail ?hz ?_);case hz=>rfl)|((with_reducible refine xs_keep ?hz ?_);case hz=>first|(with_reducible assumption)|assumption|(simp only [go_sem, Nat.reduceEqDiff, Nat.reduceAdd, Nat.reduceMul, Nat.reduceLeDiff, Nat.reduceLT, Int.reduceLT, Int.reduceLE, Int.reduceEq, Int.reduceNeg, Int.reduceToNat, Nat.reducePow, reduceIte, reduceCtorEq, Cells, and_true]))|((with_reducible apply xs_guard_no);(case hi=>rfl);(case hy=>rfl);(case hS=>assumption))|((first|((with_reducible apply xs_op);(case hi=>rfl))|((with_reducible apply xs_op_yes);(case hi=>rfl);(case hy=>rfl)));(case hr=>rfl);intro K hK; simp only [go_sem, Nat.reduceEqDiff, Nat.reduceAdd, Nat.reduceMul, Nat.reduceLeDiff, Nat.reduceLT, Int.reduceLT, Int.reduceLE, Int.reduceEq, Int.reduceNeg, Int.reduceToNat, Nat.reducePow, reduceIte, reduceCtorEq])|(with_reducible first|refine jA ?_|(refine hK _ _ ?_;clear hK K)|refine jJ fun K hK=>?_|refine jK ?_|refine jL ?_|refine jM ?_|refine jN ?_|refine jO ?_|refine jP ?_|refine jQ ?_|(refine jB ?_;clear hK K)|(refine jC ?_;clear hK K)|refine jD ?_|refine jE ?_|refine jG ?_|refine jH ?_|refine jI ?_)|((with_reducible refine jR ?hq ?_);case hq=>rfl)|((first|(with_reducible first|refine jS fun K hK=>?_|refine jT ?_|refine jU ?_)|((with_reducible refine jV ?hy fun K hK=>?_);case hy=>rfl));simp only [go_sem, Nat.reduceEqDiff, Nat.reduceAdd, Nat.reduceMul, Nat.reduceLeDiff, Nat.reduceLT, Int.reduceLT, Int.reduceLE, Int.reduceEq, Int.reduceNeg, Int.reduceToNat, Nat.reducePow, reduceIte, reduceCtorEq])|((with_reducible first|refine jW ?hy ?_|refine jY ?hy ?_);case hy=>rfl)|((with_reducible first|refine jX ?hy ?_|refine jZ ?hy ?_);case hy=>rfl)|((with_reducible refine jF ?hy ?_);case hy=>decide))
  refine side_ok hF hu ?_
  by_cases hsd : sideN N (N (N k).up).up (N k).up = sideN N (N k).up k
  ·have e1 : first N k = turnN N (N k).up := if_pos hsd
   rw [e1] at fin h2
   have t2 : ((sideN N (N (N k).up).up (N k).up : Int) == (sideN N (N k).up k : Int)) = true := by simp [hsd]
   repeat' (first|(with_reducible refine xs_nil ?_)|((first|((with_reducible apply xs_rd);case hi=>rfl)|((with_reducible apply xs_guard_yes);(case hi=>rfl);(case hy=>rfl)));(case hr=>rfl);(case h1=>intro H' hS'; (try simp only [Cells, and_true] at hS');simp only [go_sem, Nat.reduceEqDiff, Nat.reduceAdd, Nat.reduceMul, Nat.reduceLeDiff, Nat.reduceLT, Int.reduceLT, Int.reduceLE, Int.reduceEq, Int.reduceNeg, Int.reduceToNat, Nat.reducePow, reduceIte, reduceCtorEq, t2, q, hS']; rfl))|((with_reducible refine xs_tail ?hz ?_);case hz=>rfl)|((with_reducible refine xs_keep ?hz ?_);case hz=>first|(with_reducible assumption)|assumption|(simp only [go_sem, Nat.reduceEqDiff, Nat.reduceAdd, Nat.reduceMul, Nat.reduceLeDiff, Nat.reduceLT, Int.reduceLT, Int.reduceLE, Int.reduceEq, Int.reduceNeg, Int.reduceToNat, Nat.reducePow, reduceIte, reduceCtorEq, Cells, and_true, t2, q]))|((with_reducible apply xs_guard_no);(case hi=>rfl);(case hy=>rfl);(case hS=>assumption))|((first|((with_reducible apply xs_op);(case hi=>rfl))|((with_reducible apply xs_op_yes);(case hi=>rfl);(case hy=>rfl)));(case hr=>rfl);intro K hK; simp only [go_sem, Nat.reduceEqDiff, Nat.reduceAdd, Nat.reduceMul, Nat.reduceLeDiff, Nat.reduceLT, Int.reduceLT, Int.reduceLE, Int.reduceEq, Int.reduceNeg, Int.reduceToNat, Nat.reducePow, reduceIte, reduceCtorEq, t2, q])|(with_reducible first|refine jA ?_|(refine hK _ _ ?_;clear hK K)|refine jJ fun K hK=>?_|refine jK ?_|refine jL ?_|refine jM ?_|refine jN ?_|refine jO ?_|refine jP ?_|refine jQ ?_|(refine jB ?_;clear hK K)|(refine jC ?_;clear hK K)|refine jD ?_|refine jE ?_|refine jG ?_|refine jH ?_|refine jI ?_)|((with_reducible refine jR ?hq ?_);case hq=>rfl)|((first|(with_reducible first|refine jS fun K hK=>?_|refine jT ?_|refine jU ?_)|((with_reducible refine jV ?hy fun K hK=>?_);case hy=>rfl));simp only [go_sem, Nat.reduceEqDiff, Nat.reduceAdd, Nat.reduceMul, Nat.reduceLeDiff, Nat.reduceLT, Int.reduceLT, Int.reduceLE, Int.reduceEq, Int.reduceNeg, Int.reduceToNat, Nat.reducePow, reduceIte, reduceCtorEq, t2, q])|((with_reducible first|refine jW ?hy ?_|refine jY ?hy ?_);case hy=>rfl)|((with_reducible first|refine jX ?hy ?_|refine jZ ?hy ?_);case hy=>rfl)|((with_reducible refine jF ?hy ?_);case hy=>decide))
   refine turn_ok hF hu hut ?_
   intro H1 hF1 hf1
   have q1 := hc.frame hf1 hcn
   simp only [Cells, and_true] at q1
   have hu1 := (hF1.cl.up k hk).resolve_left h2
   repeat' (first|(with_reducible first|refine jA ?_|(refine hK _ _ ?_;clear hK K)|refine jJ fun K hK=>?_|refine jK ?_|refine jL ?_|refine jM ?_|refine jN ?_|refine jO ?_|refine jP ?_|refine jQ ?_|(refine jB ?_;clear hK K)|(refine jC ?_;clear hK K)|refine jD ?_|refine jE ?_|refine jG ?_|refine jH ?_|refine jI ?_)|((with_reducible refine jR ?hq ?_);case hq=>rfl)|((first|(with_reducible first|refine jS fun K hK=>?_|refine jT ?_|refine jU ?_)|((with_reducible refine jV ?hy fun K hK=>?_);case hy=>rfl));simp only [go_sem, Nat.reduceEqDiff, Nat.reduceAdd, Nat.reduceMul, Nat.reduceLeDiff, Nat.reduceLT, Int.reduceLT, Int.reduceLE, Int.reduceEq, Int.reduceNeg, Int.reduceToNat, Nat.reducePow, reduceIte, reduceCtorEq, q1])|((with_reducible first|refine jW ?hy ?_|refine jY ?hy ?_);case hy=>rfl)|((with_reducible first|refine jX ?hy ?_|refine jZ ?hy ?_);case hy=>rfl)|((with_reducible refine jF ?hy ?_);case hy=>decide))
   refine turn_ok hF1 hk hu1 ?_
   intro H2 hF2 hf2
   repeat' (first|(with_reducible first|refine jA ?_|(refine hK _ _ ?_;clear hK K)|refine jJ fun K hK=>?_|refine jK ?_|refine jL ?_|refine jM ?_|refine jN ?_|refine jO ?_|refine jP ?_|refine jQ ?_|(refine jB ?_;clear hK K)|(refine jC ?_;clear hK K)|refine jD ?_|refine jE ?_|refine jG ?_|refine jH ?_|refine jI ?_)|((with_reducible refine jR ?hq ?_);case hq=>rfl)|((first|(with_reducible first|refine jS fun K hK=>?_|refine jT ?_|refine jU ?_)|((with_reducible refine jV ?hy fun K hK=>?_);case hy=>rfl));simp only [go_sem, Nat.reduceEqDiff, Nat.reduceAdd, Nat.reduceMul, Nat.reduceLeDiff, Nat.reduceLT, Int.reduceLT, Int.reduceLE, Int.reduceEq, Int.reduceNeg, Int.reduceToNat, Nat.reducePow, reduceIte, reduceCtorEq])|((with_reducible first|refine jW ?hy ?_|refine jY ?hy ?_);case hy=>rfl)|((with_reducible first|refine jX ?hy ?_|refine jZ ?hy ?_);case hy=>rfl)|((with_reducible refine jF ?hy ?_);case hy=>decide))
   exact fin _ hF2 (hf1.trans hf2)
  ·have e1 : first N k = turnN N k := if_neg hsd
   rw [e1] at fin h2
   have t2 : ((sideN N (N (N k).up).up (N k).up : Int) == (sideN N (N k).up k : Int)) = false := by simp; omega
   repeat' (first|(with_reducible refine xs_nil ?_)|((first|((with_reducible apply xs_rd);case hi=>rfl)|((with_reducible apply xs_guard_yes);(case hi=>rfl);(case hy=>rfl)));(case hr=>rfl);(case h1=>intro H' hS'; (try simp only [Cells, and_true] at hS');simp only [go_sem, Nat.reduceEqDiff, Nat.reduceAdd, Nat.reduceMul, Nat.reduceLeDiff, Nat.reduceLT, Int.reduceLT, Int.reduceLE, Int.reduceEq, Int.reduceNeg, Int.reduceToNat, Nat.reducePow, reduceIte, reduceCtorEq, t2, q, hS']; rfl))|((with_reducible refine xs_tail ?hz ?_);case hz=>rfl)|((with_reducible refine xs_keep ?hz ?_);case hz=>first|(with_reducible assumption)|assumption|(simp only [go_sem, Nat.reduceEqDiff, Nat.reduceAdd, Nat.reduceMul, Nat.reduceLeDiff, Nat.reduceLT, Int.reduceLT, Int.reduceLE, Int.reduceEq, Int.reduceNeg, Int.reduceToNat, Nat.reducePow, reduceIte, reduceCtorEq, Cells, and_true, t2, q]))|((with_reducible apply xs_guard_no);(case hi=>rfl);(case hy=>rfl);(case hS=>assumption))|((first|((with_reducible apply xs_op);(case hi=>rfl))|((with_reducible apply xs_op_yes);(case hi=>rfl);(case hy=>rfl)));(case hr=>rfl);intro K hK; simp only [go_sem, Nat.reduceEqDiff, Nat.reduceAdd, Nat.reduceMul, Nat.reduceLeDiff, Nat.reduceLT, Int.reduceLT, Int.reduceLE, Int.reduceEq, Int.reduceNeg, Int.reduceToNat, Nat.reducePow, reduceIte, reduceCtorEq, t2, q])|(with_reducible first|refine jA ?_|(refine hK _ _ ?_;clear hK K)|refine jJ fun K hK=>?_|refine jK ?_|refine jL ?_|refine jM ?_|refine jN ?_|refine jO ?_|refine jP ?_|refine jQ ?_|(refine jB ?_;clear hK K)|(refine jC ?_;clear hK K)|refine jD ?_|refine jE ?_|refine jG ?_|refine jH ?_|refine jI ?_)|((with_reducible refine jR ?hq ?_);case hq=>rfl)|((first|(with_reducible first|refine jS fun K hK=>?_|refine jT ?_|refine jU ?_)|((with_reducible refine jV ?hy fun K hK=>?_);case hy=>rfl));simp only [go_sem, Nat.reduceEqDiff, Nat.reduceAdd, Nat.reduceMul, Nat.reduceLeDiff, Nat.reduceLT, Int.reduceLT, Int.reduceLE, Int.reduceEq, Int.reduceNeg, Int.reduceToNat, Nat.reducePow, reduceIte, reduceCtorEq, t2, q])|((with_reducible first|refine jW ?hy ?_|refine jY ?hy ?_);case hy=>rfl)|((with_reducible first|refine jX ?hy ?_|refine jZ ?hy ?_);case hy=>rfl)|((with_reducible refine jF ?hy ?_);case hy=>decide))
   refine turn_ok hF hk hu ?_
   intro H1 hF1 hf1
   have q1 := hc.frame hf1 hcn
   simp only [Cells, and_true] at q1
   have hu1 := (hF1.cl.up k hk).resolve_left h2
   repeat' (first|(with_reducible first|refine jA ?_|(refine hK _ _ ?_;clear hK K)|refine jJ fun K hK=>?_|refine jK ?_|refine jL ?_|refine jM ?_|refine jN ?_|refine jO ?_|refine jP ?_|refine jQ ?_|(refine jB ?_;clear hK K)|(refine jC ?_;clear hK K)|refine jD ?_|refine jE ?_|refine jG ?_|refine jH ?_|refine jI ?_)|((with_reducible refine jR ?hq ?_);case hq=>rfl)|((first|(with_reducible first|refine jS fun K hK=>?_|refine jT ?_|refine jU ?_)|((with_reducible refine jV ?hy fun K hK=>?_);case hy=>rfl));simp only [go_sem, Nat.reduceEqDiff, Nat.reduceAdd, Nat.reduceMul, Nat.reduceLeDiff, Nat.reduceLT, Int.reduceLT, Int.reduceLE, Int.reduceEq, Int.reduceNeg, Int.reduceToNat, Nat.reducePow, reduceIte, reduceCtorEq, q1])|((with_reducible first|refine jW ?hy ?_|refine jY ?hy ?_);case hy=>rfl)|((with_reducible first|refine jX ?hy ?_|refine jZ ?hy ?_);case hy=>rfl)|((with_reducible refine jF ?hy ?_);case hy=>decide))
   refine turn_ok hF1 hk hu1 ?_
   intro H2 hF2 hf2
   repeat' (first|(with_reducible first|refine jA ?_|(refine hK _ _ ?_;clear hK K)|refine jJ fun K hK=>?_|refine jK ?_|refine jL ?_|refine jM ?_|refine jN ?_|refine jO ?_|refine jP ?_|refine jQ ?_|(refine jB ?_;clear hK K)|(refine jC ?_;clear hK K)|refine jD ?_|refine jE ?_|refine jG ?_|refine jH ?_|refine jI ?_)|((with_reducible refine jR ?hq ?_);case hq=>rfl)|((first|(with_reducible first|refine jS fun K hK=>?_|refine jT ?_|refine jU ?_)|((with_reducible refine jV ?hy fun K hK=>?_);case hy=>rfl));simp only [go_sem, Nat.reduceEqDiff, Nat.reduceAdd, Nat.reduceMul, Nat.reduceLeDiff, Nat.reduceLT, Int.reduceLT, Int.reduceLE, Int.reduceEq, Int.reduceNeg, Int.reduceToNat, Nat.reducePow, reduceIte, reduceCtorEq])|((with_reducible first|refine jW ?hy ?_|refine jY ?hy ?_);case hy=>rfl)|((with_reducible first|refine jX ?hy ?_|refine jZ ?hy ?_);case hy=>rfl)|((with_reducible refine jF ?hy ?_);case hy=>decide))
   exact fin _ hF2 (hf1.trans hf2)
theorem rise_ok {K : Value → Heap → Prop} {P : Nat → Nodes → Prop} {m : Nat} (hF : FAt H f p g A nb N) {k c2 c3 : Nat} (hk : U A k) (hc : Cells [(c2, 0, .pointer (some ⟨f, 0, none⟩)), (c3, 0, .int .i64 (k : Nat))] H) (hn2 : ¬ NB A nb c2) (hn3 : ¬ NB A nb c3)
  (h0 : P m N) (hP : ∀ m N, P m N → (N k).up = 0 ∨ (stepOk N k ∧ ∃ m', m' < m ∧ P m' (stepN N k)))
  (fin : ∀ H' N' m', FAt H' f p g A nb N' → P m' N' → (N' k).up = 0 → Fr (NB A nb) H H' → K (.tuple #[]) H') :
  CallsH Try.prog 64 #[.pointer (some ⟨f, 0, none⟩), .int .i64 k, .func (.func 65) #[] #[.pointer (some ⟨c2, 0, none⟩), .pointer (some ⟨c3, 0, none⟩)]] H K := by
 have hcn : ∀ x ∈ [(c2, 0, Value.pointer (some ⟨f, 0, none⟩)), (c3, 0, Value.int .i64 (k : Nat))], ¬ NB A nb x.1 := fun x hx => by
  simp only [List.mem_cons, List.not_mem_nil, or_false] at hx
  rcases hx with rfl | rfl
  ·exact hn2
  ·exact hn3
 refine call64 (by simp) ?_
 simp only [Try.f64, Option.getD_some]
 repeat' (first|(with_reducible first|refine jA ?_|(refine hK _ _ ?_;clear hK K)|refine jJ fun K hK=>?_|refine jK ?_|refine jL ?_|refine jM ?_|refine jN ?_|refine jO ?_|refine jP ?_|refine jQ ?_|(refine jB ?_;clear hK K)|(refine jC ?_;clear hK K)|refine jD ?_|refine jE ?_|refine jG ?_|refine jH ?_|refine jI ?_)|((with_reducible refine jR ?hq ?_);case hq=>rfl)|((first|(with_reducible first|refine jS fun K hK=>?_|refine jT ?_|refine jU ?_)|((with_reducible refine jV ?hy fun K hK=>?_);case hy=>rfl));simp only [go_sem, Nat.reduceEqDiff, Nat.reduceAdd, Nat.reduceMul, Nat.reduceLeDiff, Nat.reduceLT, Int.reduceLT, Int.reduceLE, Int.reduceEq, Int.reduceNeg, Int.reduceToNat, Nat.reducePow, reduceIte, reduceCtorEq])|((with_reducible first|refine jW ?hy ?_|refine jY ?hy ?_);case hy=>rfl)|((with_reducible first|refine jX ?hy ?_|refine jZ ?hy ?_);case hy=>rfl)|((with_reducible refine jF ?hy ?_);case hy=>decide))
 refine x_loop (fun m e' H' => ∃ N', FAt H' f p g A nb N' ∧ P m N' ∧ Fr (NB A nb) H H') m ⟨N, hF, h0, .refl _ _⟩ ?_
 rintro m1 e1 H1 ⟨N1, hF1, hP1, hf1⟩ hoff
 have e0 := (hoff 0 rfl).trans rfl
 have e1' := (hoff 1 rfl).trans rfl
 have e2 := (hoff 2 rfl).trans rfl
 have hn := hF1.nd k hk
 have c3' := hn.cellOf (i := 3) rfl
 repeat' (first|(with_reducible first|refine jA ?_|(refine hK _ _ ?_;clear hK K)|refine jJ fun K hK=>?_|refine jK ?_|refine jL ?_|refine jM ?_|refine jN ?_|refine jO ?_|refine jP ?_|refine jQ ?_|(refine jB ?_;clear hK K)|(refine jC ?_;clear hK K)|refine jD ?_|refine jE ?_|refine jG ?_|refine jH ?_|refine jI ?_)|((with_reducible refine jR ?hq ?_);case hq=>rfl)|((first|(with_reducible first|refine jS fun K hK=>?_|refine jT ?_|refine jU ?_)|((with_reducible refine jV ?hy fun K hK=>?_);case hy=>rfl));simp only [go_sem, Nat.reduceEqDiff, Nat.reduceAdd, Nat.reduceMul, Nat.reduceLeDiff, Nat.reduceLT, Int.reduceLT, Int.reduceLE, Int.reduceEq, Int.reduceNeg, Int.reduceToNat, Nat.reducePow, reduceIte, reduceCtorEq, e0, e1', e2])|((with_reducible first|refine jW ?hy ?_|refine jY ?hy ?_);case hy=>rfl)|((with_reducible first|refine jX ?hy ?_|refine jZ ?hy ?_);case hy=>rfl)|((with_reducible refine jF ?hy ?_);case hy=>decide))
 refine node_ok hF1 hk ?_
 rcases hP m1 N1 hP1 with hz | ⟨hs, m', hm, hP'⟩
 ·have t1 : (((N1 k).up : Int) == 0) = true := by simp [hz]
  repeat' (first|(with_reducible first|refine jA ?_|(refine hK _ _ ?_;clear hK K)|refine jJ fun K hK=>?_|refine jK ?_|refine jL ?_|refine jM ?_|refine jN ?_|refine jO ?_|refine jP ?_|refine jQ ?_|(refine jB ?_;clear hK K)|(refine jC ?_;clear hK K)|refine jD ?_|refine jE ?_|refine jG ?_|refine jH ?_|refine jI ?_)|((with_reducible refine jR ?hq ?_);case hq=>rfl)|((first|(with_reducible first|refine jS fun K hK=>?_|refine jT ?_|refine jU ?_)|((with_reducible refine jV ?hy fun K hK=>?_);case hy=>rfl));simp only [go_sem, Nat.reduceEqDiff, Nat.reduceAdd, Nat.reduceMul, Nat.reduceLeDiff, Nat.reduceLT, Int.reduceLT, Int.reduceLE, Int.reduceEq, Int.reduceNeg, Int.reduceToNat, Nat.reducePow, reduceIte, reduceCtorEq, e0, e1', e2, c3', t1])|((with_reducible first|refine jW ?hy ?_|refine jY ?hy ?_);case hy=>rfl)|((with_reducible first|refine jX ?hy ?_|refine jZ ?hy ?_);case hy=>rfl)|((with_reducible refine jF ?hy ?_);case hy=>decide))
  exact fin _ _ _ hF1 hP1 hz hf1
 ·have t1 : (((N1 k).up : Int) == 0) = false := by simp [hs.1]
  have hu := (hF1.cl.up k hk).resolve_left hs.1
  have u3 := (hF1.nd _ hu).cellOf (i := 3) rfl
  repeat' (first|(with_reducible first|refine jA ?_|(refine hK _ _ ?_;clear hK K)|refine jJ fun K hK=>?_|refine jK ?_|refine jL ?_|refine jM ?_|refine jN ?_|refine jO ?_|refine jP ?_|refine jQ ?_|(refine jB ?_;clear hK K)|(refine jC ?_;clear hK K)|refine jD ?_|refine jE ?_|refine jG ?_|refine jH ?_|refine jI ?_)|((with_reducible refine jR ?hq ?_);case hq=>rfl)|((first|(with_reducible first|refine jS fun K hK=>?_|refine jT ?_|refine jU ?_)|((with_reducible refine jV ?hy fun K hK=>?_);case hy=>rfl));simp only [go_sem, Nat.reduceEqDiff, Nat.reduceAdd, Nat.reduceMul, Nat.reduceLeDiff, Nat.reduceLT, Int.reduceLT, Int.reduceLE, Int.reduceEq, Int.reduceNeg, Int.reduceToNat, Nat.reducePow, reduceIte, reduceCtorEq, e0, e1', e2, c3', t1])|((with_reducible first|refine jW ?hy ?_|refine jY ?hy ?_);case hy=>rfl)|((with_reducible first|refine jX ?hy ?_|refine jZ ?hy ?_);case hy=>rfl)|((with_reducible refine jF ?hy ?_);case hy=>decide))
  refine node_ok hF1 hu ?_
  repeat' (first|(with_reducible first|refine jA ?_|(refine hK _ _ ?_;clear hK K)|refine jJ fun K hK=>?_|refine jK ?_|refine jL ?_|refine jM ?_|refine jN ?_|refine jO ?_|refine jP ?_|refine jQ ?_|(refine jB ?_;clear hK K)|(refine jC ?_;clear hK K)|refine jD ?_|refine jE ?_|refine jG ?_|refine jH ?_|refine jI ?_)|((with_reducible refine jR ?hq ?_);case hq=>rfl)|((first|(with_reducible first|refine jS fun K hK=>?_|refine jT ?_|refine jU ?_)|((with_reducible refine jV ?hy fun K hK=>?_);case hy=>rfl));simp only [go_sem, Nat.reduceEqDiff, Nat.reduceAdd, Nat.reduceMul, Nat.reduceLeDiff, Nat.reduceLT, Int.reduceLT, Int.reduceLE, Int.reduceEq, Int.reduceNeg, Int.reduceToNat, Nat.reducePow, reduceIte, reduceCtorEq, e0, e1', e2, u3])|((with_reducible first|refine jW ?hy ?_|refine jY ?hy ?_);case hy=>rfl)|((with_reducible first|refine jX ?hy ?_|refine jZ ?hy ?_);case hy=>rfl)|((with_reducible refine jF ?hy ?_);case hy=>decide))
  refine step_ok hF1 hk hs (hc.frame hf1 hcn) hn2 hn3 ?_
  intro H2 hF2 hf2
  repeat' (first|(with_reducible first|refine jA ?_|(refine hK _ _ ?_;clear hK K)|refine jJ fun K hK=>?_|refine jK ?_|refine jL ?_|refine jM ?_|refine jN ?_|refine jO ?_|refine jP ?_|refine jQ ?_|(refine jB ?_;clear hK K)|(refine jC ?_;clear hK K)|refine jD ?_|refine jE ?_|refine jG ?_|refine jH ?_|refine jI ?_)|((with_reducible refine jR ?hq ?_);case hq=>rfl)|((first|(with_reducible first|refine jS fun K hK=>?_|refine jT ?_|refine jU ?_)|((with_reducible refine jV ?hy fun K hK=>?_);case hy=>rfl));simp only [go_sem, Nat.reduceEqDiff, Nat.reduceAdd, Nat.reduceMul, Nat.reduceLeDiff, Nat.reduceLT, Int.reduceLT, Int.reduceLE, Int.reduceEq, Int.reduceNeg, Int.reduceToNat, Nat.reducePow, reduceIte, reduceCtorEq])|((with_reducible first|refine jW ?hy ?_|refine jY ?hy ?_);case hy=>rfl)|((with_reducible first|refine jX ?hy ?_|refine jZ ?hy ?_);case hy=>rfl)|((with_reducible refine jF ?hy ?_);case hy=>decide))
  exact loop_normal hm ⟨_, hF2, hP', hf1.trans hf2⟩
theorem splay_ok {K : Value → Heap → Prop} {P : Nat → Nodes → Prop} {m : Nat} (hF : FAt H f p g A nb N) {k : Nat} (hk : U A k)
  (h0 : P m N) (hP : ∀ m N, P m N → (N k).up = 0 ∨ (stepOk N k ∧ ∃ m', m' < m ∧ P m' (stepN N k)))
  (fin : ∀ H' N' m', FAt H' f p g A nb N' → P m' N' → (N' k).up = 0 → Fr (NB A nb) H H' → K (.tuple #[]) H') :
  CallsH Try.prog 40 #[.pointer (some ⟨f, 0, none⟩), .int .i64 k] H K := by
 have hlt : ∀ h, U A h → nb h < H.size := fun h hh => (hF.nd h hh).lt
 refine call40 (by simp) ?_
 simp only [Try.f40, Option.getD_some]
 repeat' (first|(with_reducible first|refine jA ?_|(refine hK _ _ ?_;clear hK K)|refine jJ fun K hK=>?_|refine jK ?_|refine jL ?_|refine jM ?_|refine jN ?_|refine jO ?_|refine jP ?_|refine jQ ?_|(refine jB ?_;clear hK K)|(refine jC ?_;clear hK K)|refine jD ?_|refine jE ?_|refine jG ?_|refine jH ?_|refine jI ?_)|((with_reducible refine jR ?hq ?_);case hq=>rfl)|((first|(with_reducible first|refine jS fun K hK=>?_|refine jT ?_|refine jU ?_)|((with_reducible refine jV ?hy fun K hK=>?_);case hy=>rfl));simp only [go_sem, Nat.reduceEqDiff, Nat.reduceAdd, Nat.reduceMul, Nat.reduceLeDiff, Nat.reduceLT, Int.reduceLT, Int.reduceLE, Int.reduceEq, Int.reduceNeg, Int.reduceToNat, Nat.reducePow, reduceIte, reduceCtorEq, hcell_push, hcell_top, okW_push, okW_top, hcell_hset_ne, hcell_hset_off, hcell_hset_eq, okW_hset, hset_size, Array.size_push, Nat.lt_add_one, ne_add_one, add_one_ne, Nat.add_assoc, add_same, add_lt_same, Nat.reduceEqDiff, lt_add_k, add_k_ne, ne_add_k])|((with_reducible first|refine jW ?hy ?_|refine jY ?hy ?_);case hy=>rfl)|((with_reducible first|refine jX ?hy ?_|refine jZ ?hy ?_);case hy=>rfl)|((with_reducible refine jF ?hy ?_);case hy=>decide))
 refine rise_ok (P := P) (hF.grow ?_) hk (by simp only [go_sem, Nat.reduceEqDiff, Nat.reduceAdd, Nat.reduceMul, Nat.reduceLeDiff, Nat.reduceLT, Int.reduceLT, Int.reduceLE, Int.reduceEq, Int.reduceNeg, Int.reduceToNat, Nat.reducePow, reduceIte, reduceCtorEq, Cells, and_true, hcell_push, hcell_top, okW_push, okW_top, hcell_hset_ne, hcell_hset_off, hcell_hset_eq, okW_hset, hset_size, Array.size_push, Nat.lt_add_one, ne_add_one, add_one_ne, Nat.add_assoc, add_same, add_lt_same, Nat.reduceEqDiff, lt_add_k, add_k_ne, ne_add_k]) ?_ ?_ h0 hP ?_
 ·exact (by ((repeat (first | refine Fr.set ?_ (by simp) _ | refine Fr.push ?_ _)); exact Fr.refl _ _))
 ·rintro ⟨h, hh, e⟩
  have := hlt h hh
  omega
 ·rintro ⟨h, hh, e⟩
  have := hlt h hh
  omega
 ·intro H' N' m' hF' hP' hz hf
  repeat' (first|(with_reducible first|refine jA ?_|(refine hK _ _ ?_;clear hK K)|refine jJ fun K hK=>?_|refine jK ?_|refine jL ?_|refine jM ?_|refine jN ?_|refine jO ?_|refine jP ?_|refine jQ ?_|(refine jB ?_;clear hK K)|(refine jC ?_;clear hK K)|refine jD ?_|refine jE ?_|refine jG ?_|refine jH ?_|refine jI ?_)|((with_reducible refine jR ?hq ?_);case hq=>rfl)|((first|(with_reducible first|refine jS fun K hK=>?_|refine jT ?_|refine jU ?_)|((with_reducible refine jV ?hy fun K hK=>?_);case hy=>rfl));simp only [go_sem, Nat.reduceEqDiff, Nat.reduceAdd, Nat.reduceMul, Nat.reduceLeDiff, Nat.reduceLT, Int.reduceLT, Int.reduceLE, Int.reduceEq, Int.reduceNeg, Int.reduceToNat, Nat.reducePow, reduceIte, reduceCtorEq])|((with_reducible first|refine jW ?hy ?_|refine jY ?hy ?_);case hy=>rfl)|((with_reducible first|refine jX ?hy ?_|refine jZ ?hy ?_);case hy=>rfl)|((with_reducible refine jF ?hy ?_);case hy=>decide))
  exact fin _ _ _ hF' hP' hz (Fr.trans' (S' := NB A nb) (S := NB A nb) (Fr.mono (S := fun _ => False) (by exact (by ((repeat (first | refine Fr.set ?_ (by simp) _ | refine Fr.push ?_ _)); exact Fr.refl _ _))) (fun b _ h => h.elim)) hf (fun b _ h => h))
end
end Go.Proofs.Ytndkbhlfbeiniaa
namespace Go.Sp
open Go Go.Hp
set_option linter.unusedVariables false

structure May (x : Item) : Prop where
 lo : -1099511627776 ≤ x.value
 hi : x.value ≤ 1099511627776
 f0 : 0 ≤ x.flags
 f1 : x.flags < 256
def valsL (xs : List Item) : List Int := (xs.filter (·.counts)).map (·.value)
def minL : List Int → Int
 | [] => 0
 | [v] => v
 | v :: w :: vs => minI v (minL (w :: vs))
def maxL : List Int → Int
 | [] => 0
 | [v] => v
 | v :: w :: vs => maxI v (maxL (w :: vs))
def flagsL : List Item → Nat
 | [] => 0
 | x :: xs => x.flags.toNat ||| flagsL xs
def aggL (xs : List Item) : Agg := ⟨((valsL xs).length : Nat), (valsL xs).sum, minL (valsL xs), maxL (valsL xs), (flagsL xs : Nat)⟩
theorem minI_assoc (a b c : Int) : minI (minI a b) c = minI a (minI b c) := by unfold minI; split <;> split <;> (try split) <;> (try split) <;> omega
theorem maxI_assoc (a b c : Int) : maxI (maxI a b) c = maxI a (maxI b c) := by unfold maxI; split <;> split <;> (try split) <;> (try split) <;> omega
theorem minL_append : ∀ (xs ys : List Int), minL (xs ++ ys) = if xs = [] then minL ys else if ys = [] then minL xs else minI (minL xs) (minL ys)
 | [], ys => by simp
 | [v], [] => by simp
 | [v], w :: ys => by simp [minL]
 | v :: w :: xs, ys => by
  have ih := minL_append (w :: xs) ys
  simp only [List.cons_append, reduceCtorEq, if_false] at ih ⊢
  cases ys with
  | nil => simp
  | cons y ys =>
   simp only [reduceCtorEq, if_false] at ih ⊢
   simp only [minL]
   rw [ih, minI_assoc]
theorem maxL_append : ∀ (xs ys : List Int), maxL (xs ++ ys) = if xs = [] then maxL ys else if ys = [] then maxL xs else maxI (maxL xs) (maxL ys)
 | [], ys => by simp
 | [v], [] => by simp
 | [v], w :: ys => by simp [maxL]
 | v :: w :: xs, ys => by
  have ih := maxL_append (w :: xs) ys
  simp only [List.cons_append, reduceCtorEq, if_false] at ih ⊢
  cases ys with
  | nil => simp
  | cons y ys =>
   simp only [reduceCtorEq, if_false] at ih ⊢
   simp only [maxL]
   rw [ih, maxI_assoc]
theorem flagsL_append : ∀ (xs ys : List Item), flagsL (xs ++ ys) = flagsL xs ||| flagsL ys
 | [], ys => by simp [flagsL]
 | x :: xs, ys => by simp [flagsL, flagsL_append xs ys, Nat.or_assoc]
theorem flagsL_lt : ∀ {xs : List Item}, (∀ x ∈ xs, May x) → flagsL xs < 256
 | [], _ => by simp [flagsL]
 | x :: xs, h => by
  have h1 := h x (.head _)
  have h2 := flagsL_lt fun y hy => h y (.tail _ hy)
  unfold flagsL
  exact Nat.or_lt_two_pow (n := 8) (by have := h1.f0; have := h1.f1; omega) h2
theorem or64_nat {a b : Nat} (ha : a < 256) (hb : b < 256) : or64 (a : Int) (b : Int) = ((a ||| b : Nat) : Int) := by
 have h : a ||| b < 2 ^ 8 := Nat.or_lt_two_pow (n := 8) ha hb
 have e : (BitVec.ofInt IntKind.i64.bits (a : Int) ||| BitVec.ofInt IntKind.i64.bits (b : Int)).toNat = a ||| b := by
  have e1 : ∀ n : Nat, n < 256 → (BitVec.ofInt IntKind.i64.bits (n : Int)).toNat = n := fun n hn => by
   show (BitVec.ofInt 64 (n : Int)).toNat = n
   rw [BitVec.toNat_ofInt]
   omega
  rw [BitVec.toNat_or, e1 a ha, e1 b hb]
 unfold or64 bitOr
 rw [e, wrap_i64] <;> omega
theorem sum_bound : ∀ {xs : List Item}, (∀ x ∈ xs, May x) → -(1099511627776 * (xs.length : Int)) ≤ (valsL xs).sum ∧ (valsL xs).sum ≤ 1099511627776 * (xs.length : Int)
 | [], _ => by simp [valsL]
 | x :: xs, h => by
  have h1 := h x (.head _)
  have h2 := sum_bound fun y hy => h y (.tail _ hy)
  have := h1.lo
  have := h1.hi
  unfold valsL at h2 ⊢
  cases hc : x.counts <;> simp only [List.filter_cons, hc, if_true, if_false, Bool.false_eq_true, List.map_cons, List.sum_cons, List.length_cons] <;> omega
theorem valsL_append (xs ys : List Item) : valsL (xs ++ ys) = valsL xs ++ valsL ys := by simp [valsL]
theorem valsL_length (xs : List Item) : (valsL xs).length ≤ xs.length := by unfold valsL; rw [List.length_map]; exact List.length_filter_le _ _
theorem plusA_aggL {xs ys : List Item} (hx : ∀ x ∈ xs, May x) (hy : ∀ y ∈ ys, May y) (hl : xs.length + ys.length ≤ 1048576) : plusA (aggL xs) (aggL ys) = aggL (xs ++ ys) := by
 have lx := valsL_length xs
 have ly := valsL_length ys
 have sx := sum_bound hx
 have sy := sum_bound hy
 unfold plusA aggL
 simp only [valsL_append, minL_append, maxL_append, flagsL_append, List.length_append, List.sum_append, Agg.mk.injEq]
 have zx : (((valsL xs).length : Nat) : Int) = 0 ↔ valsL xs = [] := by rw [← List.length_eq_zero_iff]; omega
 have zy : (((valsL ys).length : Nat) : Int) = 0 ↔ valsL ys = [] := by rw [← List.length_eq_zero_iff]; omega
 refine ⟨?_, ?_, ?_, ?_, or64_nat (flagsL_lt hx) (flagsL_lt hy)⟩
 ·unfold w64; rw [wrap_i64] <;> omega
 ·unfold w64; rw [wrap_i64] <;> omega
 ·simp only [zx, zy]
 ·simp only [zx, zy]
theorem ownA_aggL {x : Item} (h : May x) : ownA x = aggL [x] := by
 have := h.f0
 unfold ownA aggL valsL flagsL flagsL
 cases hc : x.counts <;> simp [hc, minL, maxL] <;> omega
inductive Tr where
 | nil
 | node (l : Tr) (h : Nat) (r : Tr)
namespace Tr
def root : Tr → Nat
 | nil => 0
 | node _ h _ => h
def list : Tr → List Nat
 | nil => []
 | node l h r => l.list ++ h :: r.list
end Tr
def aggOf (it : Nat → Item) (l : List Nat) : Agg := aggL (l.map it)
def recOf (it : Nat → Item) (up l h r : Nat) (xs : List Nat) : Rec := ⟨it h, up, l, r, (xs.length : Nat), aggOf it xs⟩
def TrAt (N : Nodes) (it : Nat → Item) : Nat → Tr → Prop
 | _, .nil => True
 | up, .node l h r => h ≠ 0 ∧ N h = recOf it up l.root h r.root (l.list ++ h :: r.list) ∧ TrAt N it h l ∧ TrAt N it h r
structure Fm where
 side : Bool
 h : Nat
 sib : Tr
def plug : Tr → List Fm → Tr
 | t, [] => t
 | t, ⟨false, h, s⟩ :: ps => plug (.node t h s) ps
 | t, ⟨true, h, s⟩ :: ps => plug (.node s h t) ps
def upOf : List Fm → Nat
 | [] => 0
 | f :: _ => f.h
def PathAt (N : Nodes) (it : Nat → Item) : Nat → List Nat → List Fm → Prop
 | _, _, [] => True
 | x, xs, ⟨false, h, s⟩ :: ps => h ≠ 0 ∧ N h = recOf it (upOf ps) x h s.root (xs ++ h :: s.list) ∧ TrAt N it h s ∧ PathAt N it h (xs ++ h :: s.list) ps
 | x, xs, ⟨true, h, s⟩ :: ps => h ≠ 0 ∧ N h = recOf it (upOf ps) s.root h x (s.list ++ h :: xs) ∧ TrAt N it h s ∧ PathAt N it h (s.list ++ h :: xs) ps
theorem trAt_plug {N : Nodes} {it : Nat → Item} : ∀ (ps : List Fm) (t : Tr), TrAt N it 0 (plug t ps) ↔ TrAt N it (upOf ps) t ∧ PathAt N it t.root t.list ps
 | [], t => by simp [plug, upOf, PathAt]
 | ⟨false, h, s⟩ :: ps, t => by
  have := trAt_plug (N := N) (it := it) ps (.node t h s)
  simp only [plug, upOf, PathAt] at this ⊢
  rw [this]
  simp only [TrAt, Tr.root, Tr.list]
  constructor
  ·rintro ⟨⟨a, b, c, d⟩, e⟩; exact ⟨c, a, b, d, e⟩
  ·rintro ⟨c, a, b, d, e⟩; exact ⟨⟨a, b, c, d⟩, e⟩
 | ⟨true, h, s⟩ :: ps, t => by
  have := trAt_plug (N := N) (it := it) ps (.node s h t)
  simp only [plug, upOf, PathAt] at this ⊢
  rw [this]
  simp only [TrAt, Tr.root, Tr.list]
  constructor
  ·rintro ⟨⟨a, b, c, d⟩, e⟩; exact ⟨d, a, b, c, e⟩
  ·rintro ⟨d, a, b, c, e⟩; exact ⟨⟨a, b, c, d⟩, e⟩
theorem TrAt.congr {N N' : Nodes} {it : Nat → Item} : ∀ {t : Tr} {up : Nat}, TrAt N it up t → (∀ h ∈ t.list, N' h = N h) → TrAt N' it up t
 | .nil, _, _, _ => trivial
 | .node l h r, up, ⟨a, b, c, d⟩, hN => by
  simp only [Tr.list, List.mem_append, List.mem_cons] at hN
  exact ⟨a, by rw [hN h (.inr (.inl rfl))]; exact b, c.congr fun k hk => hN k (.inl hk), d.congr fun k hk => hN k (.inr (.inr hk))⟩
theorem TrAt.hung {N N' : Nodes} {it : Nat → Item} {t : Tr} {up up' : Nat} (h : TrAt N it up t) (hd : t.list.Nodup) (h1 : t.root ≠ 0 → N' t.root = { N t.root with up := up' }) (h2 : ∀ k ∈ t.list, k ≠ t.root → N' k = N k) : TrAt N' it up' t := by
 cases t with
 | nil => trivial
 | node l k r =>
  obtain ⟨a, b, c, d⟩ := h
  simp only [Tr.list, Tr.root, List.mem_append, List.mem_cons] at hd h1 h2
  rw [List.nodup_append] at hd
  obtain ⟨n1, n2, n3⟩ := hd
  rw [List.nodup_cons] at n2
  refine ⟨a, ?_, c.congr fun i hi => h2 i (.inl hi) (fun e => n3 i hi k (.head _) e), d.congr fun i hi => h2 i (.inr (.inr hi)) (fun e => n2.1 (e ▸ hi))⟩
  rw [h1 a, b]
  rfl
theorem TrAt.ne_zero {N : Nodes} {it : Nat → Item} : ∀ {t : Tr} {up : Nat}, TrAt N it up t → 0 ∉ t.list
 | .nil, _, _ => by simp [Tr.list]
 | .node l h r, up, ⟨a, b, c, d⟩ => by
  simp only [Tr.list, List.mem_append, List.mem_cons, not_or]
  exact ⟨c.ne_zero, Ne.symm a, d.ne_zero⟩
theorem Tr.root_mem {t : Tr} (h : t.root ≠ 0) : t.root ∈ t.list := by
 cases t with
 | nil => exact absurd rfl h
 | node l k r => simp [Tr.root, Tr.list]
end Go.Sp
namespace Go.Sp
open Go Go.Hp
set_option linter.unusedVariables false
set_option linter.unusedSimpArgs false

def hung (N : Nodes) (k u top x s : Nat) : Nodes := hangN (setUp (turn2 (hangN N u s x) top u k) k top) k (1 - s) u
theorem turnN_eq (N : Nodes) {k u top x s : Nat} (hu : (N k).up = u) (ht : (N u).up = top) (hs : sideN N u k = s) (hx : (N k).kid (1 - s) = x) : turnN N k = pullN (pullN (hung N k u top x s) u) k := by
 unfold turnN hung
 rw [hu, ht, hs, hx]
theorem hung_k {N : Nodes} {k u top x s : Nat} (h1 : k ≠ u) (h2 : k ≠ top) (h3 : k ≠ x) (hu : u ≠ 0) : hung N k u top x s k = { (N k).setKid (1 - s) u with up := top } := by
 unfold hung hangN turn2 setUp
 by_cases hx : x = 0 <;> by_cases ht : top = 0 <;> simp only [hx, ht, hu, if_true, if_false, upd, h1, h2, h3, Ne.symm h1, h1.symm, ne_eq, not_false_eq_true] <;> (unfold Rec.setKid; split <;> rfl)
theorem hung_u {N : Nodes} {k u top x s : Nat} (h1 : k ≠ u) (h2 : u ≠ top) (h3 : u ≠ x) (hu : u ≠ 0) : hung N k u top x s u = { (N u).setKid s x with up := k } := by
 unfold hung hangN turn2 setUp
 by_cases hx : x = 0 <;> by_cases ht : top = 0 <;> simp only [hx, ht, hu, if_true, if_false, upd, h1, h2, h3, Ne.symm h1] <;> rfl
theorem hung_x {N : Nodes} {k u top x s : Nat} (h1 : k ≠ x) (h2 : u ≠ x) (h3 : top ≠ x) (hu : u ≠ 0) (hx : x ≠ 0) : hung N k u top x s x = { N x with up := u } := by
 unfold hung hangN turn2 setUp
 by_cases ht : top = 0 <;> simp only [hx, ht, hu, if_true, if_false, upd, h1.symm, h2.symm, Ne.symm h3, h1, h2, h3]
theorem hung_top {N : Nodes} {k u top x s : Nat} (h1 : k ≠ top) (h2 : u ≠ top) (h3 : top ≠ x) (hu : u ≠ 0) (ht : top ≠ 0) : hung N k u top x s top = (N top).setKid (sideN N top u) k := by
 unfold hung hangN turn2 setUp sideN
 by_cases hx : x = 0 <;> simp only [hx, ht, hu, if_true, if_false, upd, h1.symm, h2.symm, h3, h1, h2]
theorem hung_ne {N : Nodes} {k u top x s i : Nat} (h1 : i ≠ k) (h2 : i ≠ u) (h3 : i ≠ x ∨ x = 0) (h4 : i ≠ top ∨ top = 0) (hu : u ≠ 0) : hung N k u top x s i = N i := by
 unfold hung hangN turn2 setUp
 by_cases hx : x = 0 <;> by_cases ht : top = 0 <;> simp only [hx, ht, hu, if_true, if_false, upd, h1, h2, or_false, or_true] at h3 h4 ⊢ <;> simp only [h3, h4, if_false]
theorem belowN_congr {N N' : Nodes} {y : Nat} (h : y ≠ 0 → (N' y).many = (N y).many ∧ (N' y).total = (N y).total) : belowN N' y = belowN N y := by
 unfold belowN
 by_cases hy : y = 0
 ·rw [if_pos hy, if_pos hy]
 ·rw [if_neg hy, if_neg hy, (h hy).1, (h hy).2]
theorem TrAt.below {N : Nodes} {it : Nat → Item} {t : Tr} {up : Nat} (h : TrAt N it up t) : belowN N t.root = ((t.list.length : Int), aggOf it t.list) := by
 cases t with
 | nil => rfl
 | node l k r =>
  obtain ⟨a, b, _, _⟩ := h
  have e : belowN N k = ((N k).many, (N k).total) := if_neg a
  show belowN N k = _
  rw [e, b]
  rfl
theorem pullR_of {N : Nodes} {it : Nat → Item} {h up l r : Nat} {xs ys : List Nat} (hl : belowN N l = ((xs.length : Int), aggOf it xs)) (hr : belowN N r = ((ys.length : Int), aggOf it ys))
  (e1 : (N h).item = it h) (e2 : (N h).up = up) (e3 : (N h).l = l) (e4 : (N h).r = r) (hm : ∀ i ∈ xs ++ h :: ys, May (it i)) (hlen : (xs ++ h :: ys).length ≤ 4096) : pullR N h = recOf it up l h r (xs ++ h :: ys) := by
 simp only [List.length_append, List.length_cons] at hlen
 have mx : ∀ x ∈ xs.map it, May x := fun x hx => by
  obtain ⟨i, hi, rfl⟩ := List.mem_map.1 hx
  exact hm i (List.mem_append_left _ hi)
 have my : ∀ x ∈ ys.map it, May x := fun x hx => by
  obtain ⟨i, hi, rfl⟩ := List.mem_map.1 hx
  exact hm i (List.mem_append_right _ (.tail _ hi))
 have mh : May (it h) := hm h (List.mem_append_right _ (.head _))
 have t1 : plusA (aggOf it xs) (ownA (it h)) = aggL (xs.map it ++ [it h]) := by
  rw [ownA_aggL mh]
  exact plusA_aggL mx (fun y hy => by rw [List.mem_singleton.1 hy]; exact mh) (by simp; omega)
 have t2 : plusA (aggL (xs.map it ++ [it h])) (aggOf it ys) = aggL ((xs.map it ++ [it h]) ++ ys.map it) := by
  refine plusA_aggL (fun x hx => ?_) my (by simp; omega)
  rcases List.mem_append.1 hx with hx | hx
  ·exact mx x hx
  ·rw [List.mem_singleton.1 hx]; exact mh
 unfold pullR recOf
 rw [e1, e3, e4, hl, hr, t1, t2]
 have w1 : w64 (w64 ((xs.length : Int) + 1) + (ys.length : Int)) = (((xs ++ h :: ys).length : Nat) : Int) := by
  have : w64 ((xs.length : Int) + 1) = (xs.length : Int) + 1 := by unfold w64; rw [wrap_i64] <;> omega
  rw [this]
  unfold w64
  rw [wrap_i64]
  ·simp only [List.length_append, List.length_cons]; omega
  ·omega
  ·omega
 simp only [w1]
 have e5 : aggL ((xs.map it ++ [it h]) ++ ys.map it) = aggOf it (xs ++ h :: ys) := by unfold aggOf; simp
 rw [e5]
 cases hN : N h with
 | mk a b c d f g =>
  rw [hN] at e1 e2 e3 e4
  simp only [] at e1 e2 e3 e4
  subst e1 e2 e3 e4
  rfl
end Go.Sp
