/-
  A side of SplayPlays: asks, the others.
  A side of SplayPlays: asks All; asks, any kind.
  What (*isthmus/isthmuslaw03.side).ends does with the lists that came out: they read as they did; their owner marks all, grows them and looks at them again.
  A side of SplayPlays: ends.
  A call of a script of splay forests, as a value; slices of such calls that came in.
  SplayPlays returns true, whatever it is given, and writes nothing that was there.
  What a law's walk is told of slices that came in.
-/
import Derived.Test.YtndkbhlfbeiniaaG7
import Derived.Test.YtndkbhlfbeiniaaHpX
import Derived.Test.YtndkbhlfbeiniaaG4
import Derived.Test.YtndkbhlfbeiniaaG3
import Derived.Test.YtndkbhlfbeiniaaHpN
import Derived.WalkKit
import Derived.ProofKit
import Derived.OpenShut
import Derived.ShutString
import Derived.ChangeOld
import Derived.Below
import Derived.Deep.Fields
namespace Go.Proofs.Ytndkbhlfbeiniaa
open Go Go.Hp Go.Sp
set_option linter.all false
set_option maxRecDepth 100000
set_option maxHeartbeats 1600000
section
variable {H : Heap} {s : Nat} {col : Nat → Nat} {S : Sq} {N : Nat} {K : Value → Heap → Prop}
theorem asks_same {a b : Int} {z : Sp.Item} {ot : Bool} (hS : SsS H s col S N) (fin : ∀ H' col', SsS H' s col' S N → Nx col col' H H' → K (.bool true) H') :
  CallsH Try.prog 32 #[.pointer (some ⟨s, 0, none⟩), opV 7 a b z ot] H K := by
 have fr0 : Fr (fun _ => False) H (H.push (.cells #[.int .i64 7, .int .i64 a, .int .i64 b, .int .i64 z.value, .bool z.counts, .int .i64 z.flags, .bool ot] 68)) := (Fr.refl _ _).push _
 have hS1 := hS.grow fr0 (fun _ _ h => h)
 have n0 : Nx col col H (H.push (.cells #[.int .i64 7, .int .i64 a, .int .i64 b, .int .i64 z.value, .bool z.counts, .int .i64 z.flags, .bool ot] 68)) := Nx.same fr0 fun _ h => h.elim
 have b1 := Blk.new H [.int .i64 7, .int .i64 a, .int .i64 b, .int .i64 z.value, .bool z.counts, .int .i64 z.flags, .bool ot] 68
 have hc0 : col H.size = 0 := Decidable.byContradiction fun h => Nat.lt_irrefl _ (hS.lt h)
 have k0 := b1.cellOf (i := 0) rfl
 have k1 := b1.cellOf (i := 1) rfl
 have k2 := b1.cellOf (i := 2) rfl
 obtain ⟨L, f, T, x, cx, TA, va, TW, vw, P, hL1, hL2⟩ := hS1
 have c0 := P.b.cellOf (i := 0) rfl
 have c1 := P.b.cellOf (i := 1) rfl
 have ok := FoM.sqok P.fo
 refine call32 (by simp) ?_
 simp only [Try.f32, Option.getD_some]
 repeat' (first|(with_reducible first|refine jA ?_|(refine hK _ _ ?_;clear hK K)|refine jJ fun K hK=>?_|refine jK ?_|refine jL ?_|refine jM ?_|refine jN ?_|refine jO ?_|refine jP ?_|refine jQ ?_|(refine jB ?_;clear hK K)|(refine jC ?_;clear hK K)|refine jD ?_|refine jE ?_|refine jG ?_|refine jH ?_|refine jI ?_)|((with_reducible refine jR ?hq ?_);case hq=>rfl)|((first|(with_reducible first|refine jS fun K hK=>?_|refine jT ?_|refine jU ?_)|((with_reducible refine jV ?hy fun K hK=>?_);case hy=>rfl));simp only [go_sem, Nat.reduceEqDiff, Nat.reduceAdd, Nat.reduceMul, Nat.reduceLeDiff, Nat.reduceLT, Int.reduceLT, Int.reduceLE, Int.reduceEq, Int.reduceNeg, Int.reduceToNat, Nat.reducePow, reduceIte, reduceCtorEq, k0, opV])|((with_reducible first|refine jW ?hy ?_|refine jY ?hy ?_);case hy=>rfl)|((with_reducible first|refine jX ?hy ?_|refine jZ ?hy ?_);case hy=>rfl)|((with_reducible refine jF ?hy ?_);case hy=>decide))
 generalize hH1 : H.push (.cells #[.int .i64 7, .int .i64 a, .int .i64 b, .int .i64 z.value, .bool z.counts, .int .i64 z.flags, .bool ot] 68) = H1 at *
 simp only [go_sem, Nat.reduceEqDiff, Nat.reduceAdd, Nat.reduceMul, Nat.reduceLeDiff, Nat.reduceLT, Int.reduceLT, Int.reduceLE, Int.reduceEq, Int.reduceNeg, Int.reduceToNat, Nat.reducePow, reduceIte, reduceCtorEq, c0]
 repeat' (first|(with_reducible first|refine jA ?_|(refine hK _ _ ?_;clear hK K)|refine jJ fun K hK=>?_|refine jK ?_|refine jL ?_|refine jM ?_|refine jN ?_|refine jO ?_|refine jP ?_|refine jQ ?_|(refine jB ?_;clear hK K)|(refine jC ?_;clear hK K)|refine jD ?_|refine jE ?_|refine jG ?_|refine jH ?_|refine jI ?_)|((with_reducible refine jR ?hq ?_);case hq=>rfl)|((first|(with_reducible first|refine jS fun K hK=>?_|refine jT ?_|refine jU ?_)|((with_reducible refine jV ?hy fun K hK=>?_);case hy=>rfl));simp only [go_sem, Nat.reduceEqDiff, Nat.reduceAdd, Nat.reduceMul, Nat.reduceLeDiff, Nat.reduceLT, Int.reduceLT, Int.reduceLE, Int.reduceEq, Int.reduceNeg, Int.reduceToNat, Nat.reducePow, reduceIte, reduceCtorEq, c0, k1, k2])|((with_reducible first|refine jW ?hy ?_|refine jY ?hy ?_);case hy=>rfl)|((with_reducible first|refine jX ?hy ?_|refine jZ ?hy ?_);case hy=>rfl)|((with_reducible refine jF ?hy ?_);case hy=>decide))
 refine q_same P.fo fun H2 hF2 hf2 => ?_
 obtain ⟨P2, n2⟩ := P.setFo hf2 hF2 (fun b hb => .inl hb)
 have b2 := b1.frame hf2 (fun e => by have e1 := P.cf _ e; rw [hc0] at e1; cases e1)
 have d1 := P2.b.cellOf (i := 1) rfl
 have j1 := b2.cellOf (i := 1) rfl
 have j2 := b2.cellOf (i := 2) rfl
 repeat' (first|(with_reducible first|refine jA ?_|(refine hK _ _ ?_;clear hK K)|refine jJ fun K hK=>?_|refine jK ?_|refine jL ?_|refine jM ?_|refine jN ?_|refine jO ?_|refine jP ?_|refine jQ ?_|(refine jB ?_;clear hK K)|(refine jC ?_;clear hK K)|refine jD ?_|refine jE ?_|refine jG ?_|refine jH ?_|refine jI ?_)|((with_reducible refine jR ?hq ?_);case hq=>rfl)|((first|(with_reducible first|refine jS fun K hK=>?_|refine jT ?_|refine jU ?_)|((with_reducible refine jV ?hy fun K hK=>?_);case hy=>rfl));simp only [go_sem, Nat.reduceEqDiff, Nat.reduceAdd, Nat.reduceMul, Nat.reduceLeDiff, Nat.reduceLT, Int.reduceLT, Int.reduceLE, Int.reduceEq, Int.reduceNeg, Int.reduceToNat, Nat.reducePow, reduceIte, reduceCtorEq, d1, j1, j2])|((with_reducible first|refine jW ?hy ?_|refine jY ?hy ?_);case hy=>rfl)|((with_reducible first|refine jX ?hy ?_|refine jZ ?hy ?_);case hy=>rfl)|((with_reducible refine jF ?hy ?_);case hy=>decide))
 refine d_same P2.dc ok ?_
 have e1 : ((S.sameQ a b).1 == (S.sameQ a b).1) = true := by simp
 have e2 : ((S.sameQ a b).2 == (S.sameQ a b).2) = true := by simp
 repeat' (first|(with_reducible first|refine jA ?_|(refine hK _ _ ?_;clear hK K)|refine jJ fun K hK=>?_|refine jK ?_|refine jL ?_|refine jM ?_|refine jN ?_|refine jO ?_|refine jP ?_|refine jQ ?_|(refine jB ?_;clear hK K)|(refine jC ?_;clear hK K)|refine jD ?_|refine jE ?_|refine jG ?_|refine jH ?_|refine jI ?_)|((with_reducible refine jR ?hq ?_);case hq=>rfl)|((first|(with_reducible first|refine jS fun K hK=>?_|refine jT ?_|refine jU ?_)|((with_reducible refine jV ?hy fun K hK=>?_);case hy=>rfl));simp only [go_sem, Nat.reduceEqDiff, Nat.reduceAdd, Nat.reduceMul, Nat.reduceLeDiff, Nat.reduceLT, Int.reduceLT, Int.reduceLE, Int.reduceEq, Int.reduceNeg, Int.reduceToNat, Nat.reducePow, reduceIte, reduceCtorEq, e1, e2])|((with_reducible first|refine jW ?hy ?_|refine jY ?hy ?_);case hy=>rfl)|((with_reducible first|refine jX ?hy ?_|refine jZ ?hy ?_);case hy=>rfl)|((with_reducible refine jF ?hy ?_);case hy=>decide))
 exact fin _ _ ⟨L, f, _, x, _, TA, va, TW, vw, P2, hL1, hL2⟩ (n0.trans n2)
theorem asks_rank {a b : Int} {z : Sp.Item} {ot : Bool} (hS : SsS H s col S N) (fin : ∀ H' col', SsS H' s col' S N → Nx col col' H H' → K (.bool true) H') :
  CallsH Try.prog 32 #[.pointer (some ⟨s, 0, none⟩), opV 8 a b z ot] H K := by
 have fr0 : Fr (fun _ => False) H (H.push (.cells #[.int .i64 8, .int .i64 a, .int .i64 b, .int .i64 z.value, .bool z.counts, .int .i64 z.flags, .bool ot] 68)) := (Fr.refl _ _).push _
 have hS1 := hS.grow fr0 (fun _ _ h => h)
 have n0 : Nx col col H (H.push (.cells #[.int .i64 8, .int .i64 a, .int .i64 b, .int .i64 z.value, .bool z.counts, .int .i64 z.flags, .bool ot] 68)) := Nx.same fr0 fun _ h => h.elim
 have b1 := Blk.new H [.int .i64 8, .int .i64 a, .int .i64 b, .int .i64 z.value, .bool z.counts, .int .i64 z.flags, .bool ot] 68
 have hc0 : col H.size = 0 := Decidable.byContradiction fun h => Nat.lt_irrefl _ (hS.lt h)
 have k0 := b1.cellOf (i := 0) rfl
 have k1 := b1.cellOf (i := 1) rfl
 have k2 := b1.cellOf (i := 2) rfl
 obtain ⟨L, f, T, x, cx, TA, va, TW, vw, P, hL1, hL2⟩ := hS1
 have c0 := P.b.cellOf (i := 0) rfl
 have c1 := P.b.cellOf (i := 1) rfl
 have ok := FoM.sqok P.fo
 refine call32 (by simp) ?_
 simp only [Try.f32, Option.getD_some]
 repeat' (first|(with_reducible first|refine jA ?_|(refine hK _ _ ?_;clear hK K)|refine jJ fun K hK=>?_|refine jK ?_|refine jL ?_|refine jM ?_|refine jN ?_|refine jO ?_|refine jP ?_|refine jQ ?_|(refine jB ?_;clear hK K)|(refine jC ?_;clear hK K)|refine jD ?_|refine jE ?_|refine jG ?_|refine jH ?_|refine jI ?_)|((with_reducible refine jR ?hq ?_);case hq=>rfl)|((first|(with_reducible first|refine jS fun K hK=>?_|refine jT ?_|refine jU ?_)|((with_reducible refine jV ?hy fun K hK=>?_);case hy=>rfl));simp only [go_sem, Nat.reduceEqDiff, Nat.reduceAdd, Nat.reduceMul, Nat.reduceLeDiff, Nat.reduceLT, Int.reduceLT, Int.reduceLE, Int.reduceEq, Int.reduceNeg, Int.reduceToNat, Nat.reducePow, reduceIte, reduceCtorEq, k0, opV])|((with_reducible first|refine jW ?hy ?_|refine jY ?hy ?_);case hy=>rfl)|((with_reducible first|refine jX ?hy ?_|refine jZ ?hy ?_);case hy=>rfl)|((with_reducible refine jF ?hy ?_);case hy=>decide))
 generalize hH1 : H.push (.cells #[.int .i64 8, .int .i64 a, .int .i64 b, .int .i64 z.value, .bool z.counts, .int .i64 z.flags, .bool ot] 68) = H1 at *
 simp only [go_sem, Nat.reduceEqDiff, Nat.reduceAdd, Nat.reduceMul, Nat.reduceLeDiff, Nat.reduceLT, Int.reduceLT, Int.reduceLE, Int.reduceEq, Int.reduceNeg, Int.reduceToNat, Nat.reducePow, reduceIte, reduceCtorEq, c0]
 repeat' (first|(with_reducible first|refine jA ?_|(refine hK _ _ ?_;clear hK K)|refine jJ fun K hK=>?_|refine jK ?_|refine jL ?_|refine jM ?_|refine jN ?_|refine jO ?_|refine jP ?_|refine jQ ?_|(refine jB ?_;clear hK K)|(refine jC ?_;clear hK K)|refine jD ?_|refine jE ?_|refine jG ?_|refine jH ?_|refine jI ?_)|((with_reducible refine jR ?hq ?_);case hq=>rfl)|((first|(with_reducible first|refine jS fun K hK=>?_|refine jT ?_|refine jU ?_)|((with_reducible refine jV ?hy fun K hK=>?_);case hy=>rfl));simp only [go_sem, Nat.reduceEqDiff, Nat.reduceAdd, Nat.reduceMul, Nat.reduceLeDiff, Nat.reduceLT, Int.reduceLT, Int.reduceLE, Int.reduceEq, Int.reduceNeg, Int.reduceToNat, Nat.reducePow, reduceIte, reduceCtorEq, c0, k1, k2])|((with_reducible first|refine jW ?hy ?_|refine jY ?hy ?_);case hy=>rfl)|((with_reducible first|refine jX ?hy ?_|refine jZ ?hy ?_);case hy=>rfl)|((with_reducible refine jF ?hy ?_);case hy=>decide))
 refine q_rank P.fo fun H2 hF2 hf2 => ?_
 obtain ⟨P2, n2⟩ := P.setFo hf2 hF2 (fun b hb => .inl hb)
 have b2 := b1.frame hf2 (fun e => by have e1 := P.cf _ e; rw [hc0] at e1; cases e1)
 have d1 := P2.b.cellOf (i := 1) rfl
 have j1 := b2.cellOf (i := 1) rfl
 have j2 := b2.cellOf (i := 2) rfl
 repeat' (first|(with_reducible first|refine jA ?_|(refine hK _ _ ?_;clear hK K)|refine jJ fun K hK=>?_|refine jK ?_|refine jL ?_|refine jM ?_|refine jN ?_|refine jO ?_|refine jP ?_|refine jQ ?_|(refine jB ?_;clear hK K)|(refine jC ?_;clear hK K)|refine jD ?_|refine jE ?_|refine jG ?_|refine jH ?_|refine jI ?_)|((with_reducible refine jR ?hq ?_);case hq=>rfl)|((first|(with_reducible first|refine jS fun K hK=>?_|refine jT ?_|refine jU ?_)|((with_reducible refine jV ?hy fun K hK=>?_);case hy=>rfl));simp only [go_sem, Nat.reduceEqDiff, Nat.reduceAdd, Nat.reduceMul, Nat.reduceLeDiff, Nat.reduceLT, Int.reduceLT, Int.reduceLE, Int.reduceEq, Int.reduceNeg, Int.reduceToNat, Nat.reducePow, reduceIte, reduceCtorEq, d1, j1, j2])|((with_reducible first|refine jW ?hy ?_|refine jY ?hy ?_);case hy=>rfl)|((with_reducible first|refine jX ?hy ?_|refine jZ ?hy ?_);case hy=>rfl)|((with_reducible refine jF ?hy ?_);case hy=>decide))
 refine d_rank P2.dc ok ?_
 have e1 : ((S.rankQ a).1 == (S.rankQ a).1) = true := by simp
 have e2 : ((S.rankQ a).2 == (S.rankQ a).2) = true := by simp
 repeat' (first|(with_reducible first|refine jA ?_|(refine hK _ _ ?_;clear hK K)|refine jJ fun K hK=>?_|refine jK ?_|refine jL ?_|refine jM ?_|refine jN ?_|refine jO ?_|refine jP ?_|refine jQ ?_|(refine jB ?_;clear hK K)|(refine jC ?_;clear hK K)|refine jD ?_|refine jE ?_|refine jG ?_|refine jH ?_|refine jI ?_)|((with_reducible refine jR ?hq ?_);case hq=>rfl)|((first|(with_reducible first|refine jS fun K hK=>?_|refine jT ?_|refine jU ?_)|((with_reducible refine jV ?hy fun K hK=>?_);case hy=>rfl));simp only [go_sem, Nat.reduceEqDiff, Nat.reduceAdd, Nat.reduceMul, Nat.reduceLeDiff, Nat.reduceLT, Int.reduceLT, Int.reduceLE, Int.reduceEq, Int.reduceNeg, Int.reduceToNat, Nat.reducePow, reduceIte, reduceCtorEq, e1, e2])|((with_reducible first|refine jW ?hy ?_|refine jY ?hy ?_);case hy=>rfl)|((with_reducible first|refine jX ?hy ?_|refine jZ ?hy ?_);case hy=>rfl)|((with_reducible refine jF ?hy ?_);case hy=>decide))
 exact fin _ _ ⟨L, f, _, x, _, TA, va, TW, vw, P2, hL1, hL2⟩ (n0.trans n2)
theorem asks_at {a b : Int} {z : Sp.Item} {ot : Bool} (hS : SsS H s col S N) (fin : ∀ H' col', SsS H' s col' S N → Nx col col' H H' → K (.bool true) H') :
  CallsH Try.prog 32 #[.pointer (some ⟨s, 0, none⟩), opV 9 a b z ot] H K := by
 have fr0 : Fr (fun _ => False) H (H.push (.cells #[.int .i64 9, .int .i64 a, .int .i64 b, .int .i64 z.value, .bool z.counts, .int .i64 z.flags, .bool ot] 68)) := (Fr.refl _ _).push _
 have hS1 := hS.grow fr0 (fun _ _ h => h)
 have n0 : Nx col col H (H.push (.cells #[.int .i64 9, .int .i64 a, .int .i64 b, .int .i64 z.value, .bool z.counts, .int .i64 z.flags, .bool ot] 68)) := Nx.same fr0 fun _ h => h.elim
 have b1 := Blk.new H [.int .i64 9, .int .i64 a, .int .i64 b, .int .i64 z.value, .bool z.counts, .int .i64 z.flags, .bool ot] 68
 have hc0 : col H.size = 0 := Decidable.byContradiction fun h => Nat.lt_irrefl _ (hS.lt h)
 have k0 := b1.cellOf (i := 0) rfl
 have k1 := b1.cellOf (i := 1) rfl
 have k2 := b1.cellOf (i := 2) rfl
 obtain ⟨L, f, T, x, cx, TA, va, TW, vw, P, hL1, hL2⟩ := hS1
 have c0 := P.b.cellOf (i := 0) rfl
 have c1 := P.b.cellOf (i := 1) rfl
 have ok := FoM.sqok P.fo
 refine call32 (by simp) ?_
 simp only [Try.f32, Option.getD_some]
 repeat' (first|(with_reducible first|refine jA ?_|(refine hK _ _ ?_;clear hK K)|refine jJ fun K hK=>?_|refine jK ?_|refine jL ?_|refine jM ?_|refine jN ?_|refine jO ?_|refine jP ?_|refine jQ ?_|(refine jB ?_;clear hK K)|(refine jC ?_;clear hK K)|refine jD ?_|refine jE ?_|refine jG ?_|refine jH ?_|refine jI ?_)|((with_reducible refine jR ?hq ?_);case hq=>rfl)|((first|(with_reducible first|refine jS fun K hK=>?_|refine jT ?_|refine jU ?_)|((with_reducible refine jV ?hy fun K hK=>?_);case hy=>rfl));simp only [go_sem, Nat.reduceEqDiff, Nat.reduceAdd, Nat.reduceMul, Nat.reduceLeDiff, Nat.reduceLT, Int.reduceLT, Int.reduceLE, Int.reduceEq, Int.reduceNeg, Int.reduceToNat, Nat.reducePow, reduceIte, reduceCtorEq, k0, opV])|((with_reducible first|refine jW ?hy ?_|refine jY ?hy ?_);case hy=>rfl)|((with_reducible first|refine jX ?hy ?_|refine jZ ?hy ?_);case hy=>rfl)|((with_reducible refine jF ?hy ?_);case hy=>decide))
 generalize hH1 : H.push (.cells #[.int .i64 9, .int .i64 a, .int .i64 b, .int .i64 z.value, .bool z.counts, .int .i64 z.flags, .bool ot] 68) = H1 at *
 simp only [go_sem, Nat.reduceEqDiff, Nat.reduceAdd, Nat.reduceMul, Nat.reduceLeDiff, Nat.reduceLT, Int.reduceLT, Int.reduceLE, Int.reduceEq, Int.reduceNeg, Int.reduceToNat, Nat.reducePow, reduceIte, reduceCtorEq, c0]
 repeat' (first|(with_reducible first|refine jA ?_|(refine hK _ _ ?_;clear hK K)|refine jJ fun K hK=>?_|refine jK ?_|refine jL ?_|refine jM ?_|refine jN ?_|refine jO ?_|refine jP ?_|refine jQ ?_|(refine jB ?_;clear hK K)|(refine jC ?_;clear hK K)|refine jD ?_|refine jE ?_|refine jG ?_|refine jH ?_|refine jI ?_)|((with_reducible refine jR ?hq ?_);case hq=>rfl)|((first|(with_reducible first|refine jS fun K hK=>?_|refine jT ?_|refine jU ?_)|((with_reducible refine jV ?hy fun K hK=>?_);case hy=>rfl));simp only [go_sem, Nat.reduceEqDiff, Nat.reduceAdd, Nat.reduceMul, Nat.reduceLeDiff, Nat.reduceLT, Int.reduceLT, Int.reduceLE, Int.reduceEq, Int.reduceNeg, Int.reduceToNat, Nat.reducePow, reduceIte, reduceCtorEq, c0, k1, k2])|((with_reducible first|refine jW ?hy ?_|refine jY ?hy ?_);case hy=>rfl)|((with_reducible first|refine jX ?hy ?_|refine jZ ?hy ?_);case hy=>rfl)|((with_reducible refine jF ?hy ?_);case hy=>decide))
 refine q_at P.fo fun H2 hF2 hf2 => ?_
 obtain ⟨P2, n2⟩ := P.setFo hf2 hF2 (fun b hb => .inl hb)
 have b2 := b1.frame hf2 (fun e => by have e1 := P.cf _ e; rw [hc0] at e1; cases e1)
 have d1 := P2.b.cellOf (i := 1) rfl
 have j1 := b2.cellOf (i := 1) rfl
 have j2 := b2.cellOf (i := 2) rfl
 repeat' (first|(with_reducible first|refine jA ?_|(refine hK _ _ ?_;clear hK K)|refine jJ fun K hK=>?_|refine jK ?_|refine jL ?_|refine jM ?_|refine jN ?_|refine jO ?_|refine jP ?_|refine jQ ?_|(refine jB ?_;clear hK K)|(refine jC ?_;clear hK K)|refine jD ?_|refine jE ?_|refine jG ?_|refine jH ?_|refine jI ?_)|((with_reducible refine jR ?hq ?_);case hq=>rfl)|((first|(with_reducible first|refine jS fun K hK=>?_|refine jT ?_|refine jU ?_)|((with_reducible refine jV ?hy fun K hK=>?_);case hy=>rfl));simp only [go_sem, Nat.reduceEqDiff, Nat.reduceAdd, Nat.reduceMul, Nat.reduceLeDiff, Nat.reduceLT, Int.reduceLT, Int.reduceLE, Int.reduceEq, Int.reduceNeg, Int.reduceToNat, Nat.reducePow, reduceIte, reduceCtorEq, d1, j1, j2])|((with_reducible first|refine jW ?hy ?_|refine jY ?hy ?_);case hy=>rfl)|((with_reducible first|refine jX ?hy ?_|refine jZ ?hy ?_);case hy=>rfl)|((with_reducible refine jF ?hy ?_);case hy=>decide))
 refine d_at P2.dc ok ?_
 have e1 : ((S.atQ a b).1 == (S.atQ a b).1) = true := by simp
 have e2 : ((S.atQ a b).2 == (S.atQ a b).2) = true := by simp
 repeat' (first|(with_reducible first|refine jA ?_|(refine hK _ _ ?_;clear hK K)|refine jJ fun K hK=>?_|refine jK ?_|refine jL ?_|refine jM ?_|refine jN ?_|refine jO ?_|refine jP ?_|refine jQ ?_|(refine jB ?_;clear hK K)|(refine jC ?_;clear hK K)|refine jD ?_|refine jE ?_|refine jG ?_|refine jH ?_|refine jI ?_)|((with_reducible refine jR ?hq ?_);case hq=>rfl)|((first|(with_reducible first|refine jS fun K hK=>?_|refine jT ?_|refine jU ?_)|((with_reducible refine jV ?hy fun K hK=>?_);case hy=>rfl));simp only [go_sem, Nat.reduceEqDiff, Nat.reduceAdd, Nat.reduceMul, Nat.reduceLeDiff, Nat.reduceLT, Int.reduceLT, Int.reduceLE, Int.reduceEq, Int.reduceNeg, Int.reduceToNat, Nat.reducePow, reduceIte, reduceCtorEq, e1, e2])|((with_reducible first|refine jW ?hy ?_|refine jY ?hy ?_);case hy=>rfl)|((with_reducible first|refine jX ?hy ?_|refine jZ ?hy ?_);case hy=>rfl)|((with_reducible refine jF ?hy ?_);case hy=>decide))
 exact fin _ _ ⟨L, f, _, x, _, TA, va, TW, vw, P2, hL1, hL2⟩ (n0.trans n2)
theorem asks_flagged {a b : Int} {z : Sp.Item} {ot : Bool} (hb1 : -9223372036854775808 ≤ b) (hb2 : b ≤ 9223372036854775807) (hS : SsS H s col S N) (fin : ∀ H' col', SsS H' s col' S N → Nx col col' H H' → K (.bool true) H') :
  CallsH Try.prog 32 #[.pointer (some ⟨s, 0, none⟩), opV 11 a b z ot] H K := by
 have fr0 : Fr (fun _ => False) H (H.push (.cells #[.int .i64 11, .int .i64 a, .int .i64 b, .int .i64 z.value, .bool z.counts, .int .i64 z.flags, .bool ot] 68)) := (Fr.refl _ _).push _
 have hS1 := hS.grow fr0 (fun _ _ h => h)
 have n0 : Nx col col H (H.push (.cells #[.int .i64 11, .int .i64 a, .int .i64 b, .int .i64 z.value, .bool z.counts, .int .i64 z.flags, .bool ot] 68)) := Nx.same fr0 fun _ h => h.elim
 have b1 := Blk.new H [.int .i64 11, .int .i64 a, .int .i64 b, .int .i64 z.value, .bool z.counts, .int .i64 z.flags, .bool ot] 68
 have hc0 : col H.size = 0 := Decidable.byContradiction fun h => Nat.lt_irrefl _ (hS.lt h)
 have k0 := b1.cellOf (i := 0) rfl
 have k1 := b1.cellOf (i := 1) rfl
 have k2 := b1.cellOf (i := 2) rfl
 obtain ⟨L, f, T, x, cx, TA, va, TW, vw, P, hL1, hL2⟩ := hS1
 have c0 := P.b.cellOf (i := 0) rfl
 have c1 := P.b.cellOf (i := 1) rfl
 have ok := FoM.sqok P.fo
 refine call32 (by simp) ?_
 simp only [Try.f32, Option.getD_some]
 repeat' (first|(with_reducible first|refine jA ?_|(refine hK _ _ ?_;clear hK K)|refine jJ fun K hK=>?_|refine jK ?_|refine jL ?_|refine jM ?_|refine jN ?_|refine jO ?_|refine jP ?_|refine jQ ?_|(refine jB ?_;clear hK K)|(refine jC ?_;clear hK K)|refine jD ?_|refine jE ?_|refine jG ?_|refine jH ?_|refine jI ?_)|((with_reducible refine jR ?hq ?_);case hq=>rfl)|((first|(with_reducible first|refine jS fun K hK=>?_|refine jT ?_|refine jU ?_)|((with_reducible refine jV ?hy fun K hK=>?_);case hy=>rfl));simp only [go_sem, Nat.reduceEqDiff, Nat.reduceAdd, Nat.reduceMul, Nat.reduceLeDiff, Nat.reduceLT, Int.reduceLT, Int.reduceLE, Int.reduceEq, Int.reduceNeg, Int.reduceToNat, Nat.reducePow, reduceIte, reduceCtorEq, k0, opV])|((with_reducible first|refine jW ?hy ?_|refine jY ?hy ?_);case hy=>rfl)|((with_reducible first|refine jX ?hy ?_|refine jZ ?hy ?_);case hy=>rfl)|((with_reducible refine jF ?hy ?_);case hy=>decide))
 generalize hH1 : H.push (.cells #[.int .i64 11, .int .i64 a, .int .i64 b, .int .i64 z.value, .bool z.counts, .int .i64 z.flags, .bool ot] 68) = H1 at *
 simp only [go_sem, Nat.reduceEqDiff, Nat.reduceAdd, Nat.reduceMul, Nat.reduceLeDiff, Nat.reduceLT, Int.reduceLT, Int.reduceLE, Int.reduceEq, Int.reduceNeg, Int.reduceToNat, Nat.reducePow, reduceIte, reduceCtorEq, c0]
 repeat' (first|(with_reducible first|refine jA ?_|(refine hK _ _ ?_;clear hK K)|refine jJ fun K hK=>?_|refine jK ?_|refine jL ?_|refine jM ?_|refine jN ?_|refine jO ?_|refine jP ?_|refine jQ ?_|(refine jB ?_;clear hK K)|(refine jC ?_;clear hK K)|refine jD ?_|refine jE ?_|refine jG ?_|refine jH ?_|refine jI ?_)|((with_reducible refine jR ?hq ?_);case hq=>rfl)|((first|(with_reducible first|refine jS fun K hK=>?_|refine jT ?_|refine jU ?_)|((with_reducible refine jV ?hy fun K hK=>?_);case hy=>rfl));simp only [go_sem, Nat.reduceEqDiff, Nat.reduceAdd, Nat.reduceMul, Nat.reduceLeDiff, Nat.reduceLT, Int.reduceLT, Int.reduceLE, Int.reduceEq, Int.reduceNeg, Int.reduceToNat, Nat.reducePow, reduceIte, reduceCtorEq, c0, k1, k2])|((with_reducible first|refine jW ?hy ?_|refine jY ?hy ?_);case hy=>rfl)|((with_reducible first|refine jX ?hy ?_|refine jZ ?hy ?_);case hy=>rfl)|((with_reducible refine jF ?hy ?_);case hy=>decide))
 refine q_flagged P.fo hb1 hb2 fun H2 hF2 hf2 => ?_
 obtain ⟨P2, n2⟩ := P.setFo hf2 hF2 (fun b hb => .inl hb)
 have b2 := b1.frame hf2 (fun e => by have e1 := P.cf _ e; rw [hc0] at e1; cases e1)
 have d1 := P2.b.cellOf (i := 1) rfl
 have j1 := b2.cellOf (i := 1) rfl
 have j2 := b2.cellOf (i := 2) rfl
 repeat' (first|(with_reducible first|refine jA ?_|(refine hK _ _ ?_;clear hK K)|refine jJ fun K hK=>?_|refine jK ?_|refine jL ?_|refine jM ?_|refine jN ?_|refine jO ?_|refine jP ?_|refine jQ ?_|(refine jB ?_;clear hK K)|(refine jC ?_;clear hK K)|refine jD ?_|refine jE ?_|refine jG ?_|refine jH ?_|refine jI ?_)|((with_reducible refine jR ?hq ?_);case hq=>rfl)|((first|(with_reducible first|refine jS fun K hK=>?_|refine jT ?_|refine jU ?_)|((with_reducible refine jV ?hy fun K hK=>?_);case hy=>rfl));simp only [go_sem, Nat.reduceEqDiff, Nat.reduceAdd, Nat.reduceMul, Nat.reduceLeDiff, Nat.reduceLT, Int.reduceLT, Int.reduceLE, Int.reduceEq, Int.reduceNeg, Int.reduceToNat, Nat.reducePow, reduceIte, reduceCtorEq, d1, j1, j2])|((with_reducible first|refine jW ?hy ?_|refine jY ?hy ?_);case hy=>rfl)|((with_reducible first|refine jX ?hy ?_|refine jZ ?hy ?_);case hy=>rfl)|((with_reducible refine jF ?hy ?_);case hy=>decide))
 refine d_flagged P2.dc ok ?_
 have e1 : ((S.flaggedQ a b).1 == (S.flaggedQ a b).1) = true := by simp
 have e2 : ((S.flaggedQ a b).2 == (S.flaggedQ a b).2) = true := by simp
 repeat' (first|(with_reducible first|refine jA ?_|(refine hK _ _ ?_;clear hK K)|refine jJ fun K hK=>?_|refine jK ?_|refine jL ?_|refine jM ?_|refine jN ?_|refine jO ?_|refine jP ?_|refine jQ ?_|(refine jB ?_;clear hK K)|(refine jC ?_;clear hK K)|refine jD ?_|refine jE ?_|refine jG ?_|refine jH ?_|refine jI ?_)|((with_reducible refine jR ?hq ?_);case hq=>rfl)|((first|(with_reducible first|refine jS fun K hK=>?_|refine jT ?_|refine jU ?_)|((with_reducible refine jV ?hy fun K hK=>?_);case hy=>rfl));simp only [go_sem, Nat.reduceEqDiff, Nat.reduceAdd, Nat.reduceMul, Nat.reduceLeDiff, Nat.reduceLT, Int.reduceLT, Int.reduceLE, Int.reduceEq, Int.reduceNeg, Int.reduceToNat, Nat.reducePow, reduceIte, reduceCtorEq, e1, e2])|((with_reducible first|refine jW ?hy ?_|refine jY ?hy ?_);case hy=>rfl)|((with_reducible first|refine jX ?hy ?_|refine jZ ?hy ?_);case hy=>rfl)|((with_reducible refine jF ?hy ?_);case hy=>decide))
 exact fin _ _ ⟨L, f, _, x, _, TA, va, TW, vw, P2, hL1, hL2⟩ (n0.trans n2)
end
def adC (col : Nat → Nat) (B : Option Nat) (k : Nat) (b : Nat) : Nat := if B = some b then k else col b
theorem nx_adopt {col col' : Nat → Nat} {H H' : Heap} {B : Option Nat} {k : Nat} (n : Nx col col' H H') (hB : ∀ b, B = some b → H.size ≤ b) : Nx col (adC col' B k) H H' := by
 refine ⟨n.fr, fun b hb => ?_⟩
 by_cases e : B = some b
 ·exact .inr (hB b e)
 ·unfold adC at hb; rw [if_neg e] at hb; exact n.own b hb
section
variable {H : Heap} {s : Nat} {col : Nat → Nat} {S S' : Sq} {N : Nat} {L L' : List (List Int)} {f : Nat} {T : Nat → Prop} {x : Nat} {cx : Nat → Nat} {TA : Nat → Prop} {va : Value} {TW : Nat → Prop} {vw : Value}
theorem adC_old {B : Option Nat} {k b j : Nat} (hB : ∀ b, B = some b → col b = 0) (hj : col b = j) (h0 : j ≠ 0) : adC col B k b = j := by
 unfold adC
 by_cases e : B = some b
 ·exact absurd ((hB b e) ▸ hj) (fun e => h0 e.symm)
 ·rw [if_neg e]; exact hj
theorem SsP.setFo0 {H' : Heap} {S1 : Sq} (h : SsP H s col S S' N L L' f T x cx TA va TW vw) (hf : Fr T H H') (ho : FoM H' f T S1) : SsP H' s col S1 S' N L L' f T x cx TA va TW vw ∧ Nx col col H H' := by
 have hne : ∀ b, col b ≠ 2 → ¬ T b := fun b hb e => hb (h.cf b e)
 exact ⟨⟨h.b.frame hf (hne _ (by rw [h.cs]; decide)), ho, h.dc.grow hf fun b hb => hne b (by rw [h.cd b hb]; decide), h.la.frame hf fun b hb => hne b (by rw [h.ca b hb]; decide), h.lw.frame hf fun b hb => hne b (by rw [h.cw b hb]; decide),
  h.cs, h.cf, h.cd, h.ca, h.cw, fun b hb => Nat.lt_of_lt_of_le (h.lt b hb) hf.size⟩, Nx.same hf fun b hb => by rw [h.cf b hb]; decide⟩
theorem SsP.adoptA {B : Option Nat} (h : SsP H s col S S' N L L' f T x cx TA va TW vw) (hB : ∀ b, B = some b → col b = 0 ∧ b < H.size) :
  SsP H s (adC col B 4) S S' N L L' f T x cx (fun b => TA b ∨ B = some b) va TW vw := by
 have h0 : ∀ b, B = some b → col b = 0 := fun b e => (hB b e).1
 obtain ⟨Ba, es, h1, h2, h3, h4, h5, h6, h7⟩ := h.la
 refine ⟨h.b, h.fo, h.dc, ⟨Ba, es, h1, h2, h3, h4, fun i e g he hg => ⟨(h5 i e g he hg).1, .inl (h5 i e g he hg).2⟩, fun g hg => .inl (h6 g hg), fun b hb => hb.elim (h7 b) fun e => (hB b e).2⟩, h.lw,
  adC_old h0 h.cs (by decide), fun b hb => adC_old h0 (h.cf b hb) (by decide), fun b hb => adC_old h0 (h.cd b hb) (by decide), fun b hb => ?_, fun b hb => adC_old h0 (h.cw b hb) (by decide), fun b hb => ?_⟩
 ·rcases hb with hb | hb
  ·exact adC_old h0 (h.ca b hb) (by decide)
  ·exact if_pos hb
 ·by_cases e : B = some b
  ·exact (hB b e).2
  ·unfold adC at hb; rw [if_neg e] at hb; exact h.lt b hb
theorem SsP.adoptW {B : Option Nat} (h : SsP H s col S S' N L L' f T x cx TA va TW vw) (hB : ∀ b, B = some b → col b = 0 ∧ b < H.size) :
  SsP H s (adC col B 5) S S' N L L' f T x cx TA va (fun b => TW b ∨ B = some b) vw := by
 have h0 : ∀ b, B = some b → col b = 0 := fun b e => (hB b e).1
 obtain ⟨Ba, es, h1, h2, h3, h4, h5, h6, h7⟩ := h.lw
 refine ⟨h.b, h.fo, h.dc, h.la, ⟨Ba, es, h1, h2, h3, h4, fun i e g he hg => ⟨(h5 i e g he hg).1, .inl (h5 i e g he hg).2⟩, fun g hg => .inl (h6 g hg), fun b hb => hb.elim (h7 b) fun e => (hB b e).2⟩,
  adC_old h0 h.cs (by decide), fun b hb => adC_old h0 (h.cf b hb) (by decide), fun b hb => adC_old h0 (h.cd b hb) (by decide), fun b hb => adC_old h0 (h.ca b hb) (by decide), fun b hb => ?_, fun b hb => ?_⟩
 ·rcases hb with hb | hb
  ·exact adC_old h0 (h.cw b hb) (by decide)
  ·exact if_pos hb
 ·by_cases e : B = some b
  ·exact (hB b e).2
  ·unfold adC at hb; rw [if_neg e] at hb; exact h.lt b hb
end
section
variable {H : Heap} {s : Nat} {col : Nat → Nat} {S : Sq} {N : Nat} {K : Value → Heap → Prop}
theorem asks_all {a b : Int} {z : Sp.Item} {ot : Bool} (hS : SsS H s col S N) (fin : ∀ H' col', SsS H' s col' S N → Nx col col' H H' → K (.bool true) H') :
  CallsH Try.prog 32 #[.pointer (some ⟨s, 0, none⟩), opV 12 a b z ot] H K := by
 have fr0 : Fr (fun _ => False) H (H.push (.cells #[.int .i64 12, .int .i64 a, .int .i64 b, .int .i64 z.value, .bool z.counts, .int .i64 z.flags, .bool ot] 68)) := (Fr.refl _ _).push _
 have hS1 := hS.grow fr0 (fun _ _ h => h)
 have n0 : Nx col col H (H.push (.cells #[.int .i64 12, .int .i64 a, .int .i64 b, .int .i64 z.value, .bool z.counts, .int .i64 z.flags, .bool ot] 68)) := Nx.same fr0 fun _ h => h.elim
 have b1 := Blk.new H [.int .i64 12, .int .i64 a, .int .i64 b, .int .i64 z.value, .bool z.counts, .int .i64 z.flags, .bool ot] 68
 have hc0 : col H.size = 0 := Decidable.byContradiction fun h => Nat.lt_irrefl _ (hS.lt h)
 have k0 := b1.cellOf (i := 0) rfl
 have k1 := b1.cellOf (i := 1) rfl
 obtain ⟨L, f, T, x, cx, TA, va, TW, vw, P, hL1, hL2⟩ := hS1
 have c0 := P.b.cellOf (i := 0) rfl
 have ok := FoM.sqok P.fo
 have hlen : ((S.allQ a).1.map Int.ofNat).length ≤ 5000 := by
  rw [List.length_map]
  unfold Sq.allQ
  cases h : S.hasB a with
  | false => simp
  | true =>
   obtain ⟨k, rfl, hk, e⟩ := has_nat h
   have := ok.rlen (Sq.rowOf_spec hk).1
   simp only [if_true, e]
   omega
 refine call32 (by simp) ?_
 simp only [Try.f32, Option.getD_some]
 repeat' (first|(with_reducible first|refine jA ?_|(refine hK _ _ ?_;clear hK K)|refine jJ fun K hK=>?_|refine jK ?_|refine jL ?_|refine jM ?_|refine jN ?_|refine jO ?_|refine jP ?_|refine jQ ?_|(refine jB ?_;clear hK K)|(refine jC ?_;clear hK K)|refine jD ?_|refine jE ?_|refine jG ?_|refine jH ?_|refine jI ?_)|((with_reducible refine jR ?hq ?_);case hq=>rfl)|((first|(with_reducible first|refine jS fun K hK=>?_|refine jT ?_|refine jU ?_)|((with_reducible refine jV ?hy fun K hK=>?_);case hy=>rfl));simp only [go_sem, Nat.reduceEqDiff, Nat.reduceAdd, Nat.reduceMul, Nat.reduceLeDiff, Nat.reduceLT, Int.reduceLT, Int.reduceLE, Int.reduceEq, Int.reduceNeg, Int.reduceToNat, Nat.reducePow, reduceIte, reduceCtorEq, k0, opV])|((with_reducible first|refine jW ?hy ?_|refine jY ?hy ?_);case hy=>rfl)|((with_reducible first|refine jX ?hy ?_|refine jZ ?hy ?_);case hy=>rfl)|((with_reducible refine jF ?hy ?_);case hy=>decide))
 generalize hH1 : H.push (.cells #[.int .i64 12, .int .i64 a, .int .i64 b, .int .i64 z.value, .bool z.counts, .int .i64 z.flags, .bool ot] 68) = H1 at *
 simp only [go_sem, Nat.reduceEqDiff, Nat.reduceAdd, Nat.reduceMul, Nat.reduceLeDiff, Nat.reduceLT, Int.reduceLT, Int.reduceLE, Int.reduceEq, Int.reduceNeg, Int.reduceToNat, Nat.reducePow, reduceIte, reduceCtorEq, c0]
 repeat' (first|(with_reducible first|refine jA ?_|(refine hK _ _ ?_;clear hK K)|refine jJ fun K hK=>?_|refine jK ?_|refine jL ?_|refine jM ?_|refine jN ?_|refine jO ?_|refine jP ?_|refine jQ ?_|(refine jB ?_;clear hK K)|(refine jC ?_;clear hK K)|refine jD ?_|refine jE ?_|refine jG ?_|refine jH ?_|refine jI ?_)|((with_reducible refine jR ?hq ?_);case hq=>rfl)|((first|(with_reducible first|refine jS fun K hK=>?_|refine jT ?_|refine jU ?_)|((with_reducible refine jV ?hy fun K hK=>?_);case hy=>rfl));simp only [go_sem, Nat.reduceEqDiff, Nat.reduceAdd, Nat.reduceMul, Nat.reduceLeDiff, Nat.reduceLT, Int.reduceLT, Int.reduceLE, Int.reduceEq, Int.reduceNeg, Int.reduceToNat, Nat.reducePow, reduceIte, reduceCtorEq, c0, k1])|((with_reducible first|refine jW ?hy ?_|refine jY ?hy ?_);case hy=>rfl)|((with_reducible first|refine jX ?hy ?_|refine jZ ?hy ?_);case hy=>rfl)|((with_reducible refine jF ?hy ?_);case hy=>decide))
 refine q_all P.fo fun H2 B2 v2 hF2 hv2 hB2 hf2 => ?_
 obtain ⟨P2, n2⟩ := P.setFo0 hf2 hF2
 have b2 := b1.frame hf2 (fun e => by have e1 := P.cf _ e; rw [hc0] at e1; cases e1)
 have d1 := P2.b.cellOf (i := 1) rfl
 have j1 := b2.cellOf (i := 1) rfl
 obtain ⟨a2, l2, rfl⟩ := hv2.slice
 repeat' (first|(with_reducible first|refine jA ?_|(refine hK _ _ ?_;clear hK K)|refine jJ fun K hK=>?_|refine jK ?_|refine jL ?_|refine jM ?_|refine jN ?_|refine jO ?_|refine jP ?_|refine jQ ?_|(refine jB ?_;clear hK K)|(refine jC ?_;clear hK K)|refine jD ?_|refine jE ?_|refine jG ?_|refine jH ?_|refine jI ?_)|((with_reducible refine jR ?hq ?_);case hq=>rfl)|((first|(with_reducible first|refine jS fun K hK=>?_|refine jT ?_|refine jU ?_)|((with_reducible refine jV ?hy fun K hK=>?_);case hy=>rfl));simp only [go_sem, Nat.reduceEqDiff, Nat.reduceAdd, Nat.reduceMul, Nat.reduceLeDiff, Nat.reduceLT, Int.reduceLT, Int.reduceLE, Int.reduceEq, Int.reduceNeg, Int.reduceToNat, Nat.reducePow, reduceIte, reduceCtorEq, d1, j1])|((with_reducible first|refine jW ?hy ?_|refine jY ?hy ?_);case hy=>rfl)|((with_reducible first|refine jX ?hy ?_|refine jZ ?hy ?_);case hy=>rfl)|((with_reducible refine jF ?hy ?_);case hy=>decide))
 refine d_all P2.dc ok fun v3 H3 B3 hv3 hf3 hB3 => ?_
 have P3 := P2.grow hf3 (fun _ _ h => h)
 have n3 : Nx col col H1 H3 := n2.trans (Nx.same hf3 fun _ h => h.elim)
 have hb2l : ∀ b, B2 = some b → b < H2.size := fun b hb => hv2.lt hb
 have hb3l : ∀ b, B3 = some b → b < H3.size := fun b hb => hv3.lt hb
 have hv2 := hv2.frame hf3 (fun _ _ h => h)
 have c2 := P3.b.cellOf (i := 2) rfl
 obtain ⟨a3, l3, rfl⟩ := hv3.slice
 obtain ⟨aa, ca, rfl⟩ := P3.la.slice
 have hc2 : ∀ b, B2 = some b → col b = 0 := fun b hb => Decidable.byContradiction fun h => by have := P.lt b h; have := hB2 b hb; omega
 have hc3 : ∀ b, B3 = some b → col b = 0 := fun b hb => Decidable.byContradiction fun h => by have := P2.lt b h; have := hB3 b hb; omega
 generalize hxs : (S.allQ a).1.map Int.ofNat = xs at *
 have e1 : ((S.allQ a).2 == (S.allQ a).2) = true := by simp
 have hs2 := hf2.size
 have hs3 := hf3.size
 by_cases hL : L.length < 30
 ·have tL : ((L.length : Int) < 30) = True := by simp; omega
  repeat' (first|(with_reducible first|refine jA ?_|(refine hK _ _ ?_;clear hK K)|refine jJ fun K hK=>?_|refine jK ?_|refine jL ?_|refine jM ?_|refine jN ?_|refine jO ?_|refine jP ?_|refine jQ ?_|(refine jB ?_;clear hK K)|(refine jC ?_;clear hK K)|refine jD ?_|refine jE ?_|refine jG ?_|refine jH ?_|refine jI ?_)|((with_reducible refine jR ?hq ?_);case hq=>rfl)|((first|(with_reducible first|refine jS fun K hK=>?_|refine jT ?_|refine jU ?_)|((with_reducible refine jV ?hy fun K hK=>?_);case hy=>rfl));simp only [go_sem, Nat.reduceEqDiff, Nat.reduceAdd, Nat.reduceMul, Nat.reduceLeDiff, Nat.reduceLT, Int.reduceLT, Int.reduceLE, Int.reduceEq, Int.reduceNeg, Int.reduceToNat, Nat.reducePow, reduceIte, reduceCtorEq, c2, tL])|((with_reducible first|refine jW ?hy ?_|refine jY ?hy ?_);case hy=>rfl)|((with_reducible first|refine jX ?hy ?_|refine jZ ?hy ?_);case hy=>rfl)|((with_reducible refine jF ?hy ?_);case hy=>decide))
  refine append_ll elems64 tl23 P3.la hv2 (fun b hb h => ?_) rfl (by decide) (by simp; omega) rfl ?_
  ·have := P3.ca b h
   rw [hc2 b hb] at this; cases this
  intro v4 H4 TA4 hl4 hf4 hT4
  have PA := P3.adoptA (B := B2) fun b hb => ⟨hc2 b hb, hv2.lt hb⟩
  have nA : Nx col (adC col B2 4) H1 H3 := nx_adopt n3 hB2
  obtain ⟨w4, P5, n5⟩ := PA.setLa (hf4.mono fun b _ h => .inl h) hl4 (fun b hb => by
   rcases hT4 b hb with h | h | h
   ·exact .inl (.inl h)
   ·exact .inl (.inr h)
   ·exact .inr h)
  obtain ⟨a4, l4, rfl⟩ := hl4.slice
  have hsc := P.cs
  have fs : Fr (· = s) H4 (hset H4 ⟨s, 2, none⟩ (.slice a4 (L ++ [xs]).length l4)) := Fr.set (S := (· = s)) (a := ⟨s, 2, none⟩) (Fr.refl _ H4) (.inl rfl) _
  have hv2 := (hv2.frame hf4 (fun b hb h => by have := P3.ca b h; rw [hc2 b hb] at this; cases this)).frame fs (fun b hb (e : b = s) => by have := hc2 b hb; rw [e, hsc] at this; cases this)
  have hv3 := (hv3.frame hf4 (fun b hb h => by have := P3.ca b h; rw [hc3 b hb] at this; cases this)).frame fs (fun b hb (e : b = s) => by have := hc3 b hb; rw [e, hsc] at this; cases this)
  have hc5 : ∀ b, B3 = some b → extC (adC col B2 4) H3.size H4.size 4 b = 0 := fun b hb => by
   rw [extC_old (hb3l b hb)]
   unfold adC
   rw [if_neg ?_]
   ·exact hc3 b hb
   ·intro e
    have := hb2l b e
    have := hB3 b hb
    omega
  have hc25 : ∀ b, B2 = some b → extC (adC col B2 4) H3.size H4.size 4 b = 4 := fun b hb => by
   rw [extC_old (Nat.lt_of_lt_of_le (hb2l b hb) hs3)]
   exact if_pos hb
  repeat' (first|(with_reducible first|refine jA ?_|(refine hK _ _ ?_;clear hK K)|refine jJ fun K hK=>?_|refine jK ?_|refine jL ?_|refine jM ?_|refine jN ?_|refine jO ?_|refine jP ?_|refine jQ ?_|(refine jB ?_;clear hK K)|(refine jC ?_;clear hK K)|refine jD ?_|refine jE ?_|refine jG ?_|refine jH ?_|refine jI ?_)|((with_reducible refine jR ?hq ?_);case hq=>rfl)|((first|(with_reducible first|refine jS fun K hK=>?_|refine jT ?_|refine jU ?_)|((with_reducible refine jV ?hy fun K hK=>?_);case hy=>rfl));simp only [go_sem, Nat.reduceEqDiff, Nat.reduceAdd, Nat.reduceMul, Nat.reduceLeDiff, Nat.reduceLT, Int.reduceLT, Int.reduceLE, Int.reduceEq, Int.reduceNeg, Int.reduceToNat, Nat.reducePow, reduceIte, reduceCtorEq, w4])|((with_reducible first|refine jW ?hy ?_|refine jY ?hy ?_);case hy=>rfl)|((with_reducible first|refine jX ?hy ?_|refine jZ ?hy ?_);case hy=>rfl)|((with_reducible refine jF ?hy ?_);case hy=>decide))
  have n15 := (n0.trans nA).trans n5
  clear n5
  generalize extC (adC col B2 4) H3.size H4.size 4 = col5 at P5 n15 hc5 hc25
  generalize hset H4 ⟨s, 2, none⟩ (.slice a4 (L ++ [xs]).length l4) = H5 at P5 n15 hv2 hv3 ⊢
  have d3 := P5.b.cellOf (i := 3) rfl
  obtain ⟨aw, cw, rfl⟩ := P5.lw.slice
  simp only [go_sem, Nat.reduceEqDiff, Nat.reduceAdd, Nat.reduceMul, Nat.reduceLeDiff, Nat.reduceLT, Int.reduceLT, Int.reduceLE, Int.reduceEq, Int.reduceNeg, Int.reduceToNat, Nat.reducePow, reduceIte, reduceCtorEq, d3]
  repeat' (first|(with_reducible first|refine jA ?_|(refine hK _ _ ?_;clear hK K)|refine jJ fun K hK=>?_|refine jK ?_|refine jL ?_|refine jM ?_|refine jN ?_|refine jO ?_|refine jP ?_|refine jQ ?_|(refine jB ?_;clear hK K)|(refine jC ?_;clear hK K)|refine jD ?_|refine jE ?_|refine jG ?_|refine jH ?_|refine jI ?_)|((with_reducible refine jR ?hq ?_);case hq=>rfl)|((first|(with_reducible first|refine jS fun K hK=>?_|refine jT ?_|refine jU ?_)|((with_reducible refine jV ?hy fun K hK=>?_);case hy=>rfl));simp only [go_sem, Nat.reduceEqDiff, Nat.reduceAdd, Nat.reduceMul, Nat.reduceLeDiff, Nat.reduceLT, Int.reduceLT, Int.reduceLE, Int.reduceEq, Int.reduceNeg, Int.reduceToNat, Nat.reducePow, reduceIte, reduceCtorEq, d3])|((with_reducible first|refine jW ?hy ?_|refine jY ?hy ?_);case hy=>rfl)|((with_reducible first|refine jX ?hy ?_|refine jZ ?hy ?_);case hy=>rfl)|((with_reducible refine jF ?hy ?_);case hy=>decide))
  refine append_ll elems64 tl23 P5.lw hv3 (fun b hb h => ?_) rfl (by decide) (by simp; omega) rfl ?_
  ·have := P5.cw b h
   rw [hc5 b hb] at this; cases this
  intro v6 H6 TW6 hl6 hf6 hT6
  have PW := P5.adoptW (B := B3) fun b hb => ⟨hc5 b hb, hv3.lt hb⟩
  have nW := nx_adopt (B := B3) (k := 5) n15 fun b hb => by have := hB3 b hb; have := b1.lt; omega
  obtain ⟨w6, P7, n7⟩ := PW.setLw (hf6.mono fun b _ h => .inl h) hl6 (fun b hb => by
   rcases hT6 b hb with h | h | h
   ·exact .inl (.inl h)
   ·exact .inl (.inr h)
   ·exact .inr h)
  obtain ⟨a6, l6, rfl⟩ := hl6.slice
  have hsc5 := P5.cs
  have fs6 : Fr (· = s) H6 (hset H6 ⟨s, 3, none⟩ (.slice a6 (L ++ [xs]).length l6)) := Fr.set (S := (· = s)) (a := ⟨s, 3, none⟩) (Fr.refl _ H6) (.inl rfl) _
  have hv2 := (hv2.frame hf6 (fun b hb h => by have := P5.cw b h; rw [hc25 b hb] at this; cases this)).frame fs6 (fun b hb (e : b = s) => by have := hc25 b hb; rw [e, hsc5] at this; cases this)
  have hv3 := (hv3.frame hf6 (fun b hb h => by have := P5.cw b h; rw [hc5 b hb] at this; cases this)).frame fs6 (fun b hb (e : b = s) => by have := hc5 b hb; rw [e, hsc5] at this; cases this)
  repeat' (first|(with_reducible first|refine jA ?_|(refine hK _ _ ?_;clear hK K)|refine jJ fun K hK=>?_|refine jK ?_|refine jL ?_|refine jM ?_|refine jN ?_|refine jO ?_|refine jP ?_|refine jQ ?_|(refine jB ?_;clear hK K)|(refine jC ?_;clear hK K)|refine jD ?_|refine jE ?_|refine jG ?_|refine jH ?_|refine jI ?_)|((with_reducible refine jR ?hq ?_);case hq=>rfl)|((first|(with_reducible first|refine jS fun K hK=>?_|refine jT ?_|refine jU ?_)|((with_reducible refine jV ?hy fun K hK=>?_);case hy=>rfl));simp only [go_sem, Nat.reduceEqDiff, Nat.reduceAdd, Nat.reduceMul, Nat.reduceLeDiff, Nat.reduceLT, Int.reduceLT, Int.reduceLE, Int.reduceEq, Int.reduceNeg, Int.reduceToNat, Nat.reducePow, reduceIte, reduceCtorEq, w6])|((with_reducible first|refine jW ?hy ?_|refine jY ?hy ?_);case hy=>rfl)|((with_reducible first|refine jX ?hy ?_|refine jZ ?hy ?_);case hy=>rfl)|((with_reducible refine jF ?hy ?_);case hy=>decide))
  refine Pkisthmuslaw03.same_ok hv2.rds hv3.rds (by omega) ?_
  rw [decide_eq_true rfl]
  repeat' (first|(with_reducible first|refine jA ?_|(refine hK _ _ ?_;clear hK K)|refine jJ fun K hK=>?_|refine jK ?_|refine jL ?_|refine jM ?_|refine jN ?_|refine jO ?_|refine jP ?_|refine jQ ?_|(refine jB ?_;clear hK K)|(refine jC ?_;clear hK K)|refine jD ?_|refine jE ?_|refine jG ?_|refine jH ?_|refine jI ?_)|((with_reducible refine jR ?hq ?_);case hq=>rfl)|((first|(with_reducible first|refine jS fun K hK=>?_|refine jT ?_|refine jU ?_)|((with_reducible refine jV ?hy fun K hK=>?_);case hy=>rfl));simp only [go_sem, Nat.reduceEqDiff, Nat.reduceAdd, Nat.reduceMul, Nat.reduceLeDiff, Nat.reduceLT, Int.reduceLT, Int.reduceLE, Int.reduceEq, Int.reduceNeg, Int.reduceToNat, Nat.reducePow, reduceIte, reduceCtorEq, e1])|((with_reducible first|refine jW ?hy ?_|refine jY ?hy ?_);case hy=>rfl)|((with_reducible first|refine jX ?hy ?_|refine jZ ?hy ?_);case hy=>rfl)|((with_reducible refine jF ?hy ?_);case hy=>decide))
  refine fin _ _ ⟨L ++ [xs], f, T, x, cx, _, _, _, _, P7, by simp; omega, fun j ys hj => ?_⟩ (nW.trans n7)
  rcases Nat.lt_trichotomy j L.length with h | h | h
  ·rw [List.getElem?_append_left h] at hj
   exact hL2 j ys hj
  ·rw [h, List.getElem?_append_right (Nat.le_refl _)] at hj
   simp at hj
   rw [← hj]
   exact hlen
  ·rw [List.getElem?_append_right (by omega), List.getElem?_eq_none (by simp; omega)] at hj
   cases hj
 ·have tL : ((L.length : Int) < 30) = False := by simp; omega
  repeat' (first|(with_reducible first|refine jA ?_|(refine hK _ _ ?_;clear hK K)|refine jJ fun K hK=>?_|refine jK ?_|refine jL ?_|refine jM ?_|refine jN ?_|refine jO ?_|refine jP ?_|refine jQ ?_|(refine jB ?_;clear hK K)|(refine jC ?_;clear hK K)|refine jD ?_|refine jE ?_|refine jG ?_|refine jH ?_|refine jI ?_)|((with_reducible refine jR ?hq ?_);case hq=>rfl)|((first|(with_reducible first|refine jS fun K hK=>?_|refine jT ?_|refine jU ?_)|((with_reducible refine jV ?hy fun K hK=>?_);case hy=>rfl));simp only [go_sem, Nat.reduceEqDiff, Nat.reduceAdd, Nat.reduceMul, Nat.reduceLeDiff, Nat.reduceLT, Int.reduceLT, Int.reduceLE, Int.reduceEq, Int.reduceNeg, Int.reduceToNat, Nat.reducePow, reduceIte, reduceCtorEq, c2, tL])|((with_reducible first|refine jW ?hy ?_|refine jY ?hy ?_);case hy=>rfl)|((with_reducible first|refine jX ?hy ?_|refine jZ ?hy ?_);case hy=>rfl)|((with_reducible refine jF ?hy ?_);case hy=>decide))
  refine Pkisthmuslaw03.same_ok hv2.rds hv3.rds (by omega) ?_
  rw [decide_eq_true rfl]
  repeat' (first|(with_reducible first|refine jA ?_|(refine hK _ _ ?_;clear hK K)|refine jJ fun K hK=>?_|refine jK ?_|refine jL ?_|refine jM ?_|refine jN ?_|refine jO ?_|refine jP ?_|refine jQ ?_|(refine jB ?_;clear hK K)|(refine jC ?_;clear hK K)|refine jD ?_|refine jE ?_|refine jG ?_|refine jH ?_|refine jI ?_)|((with_reducible refine jR ?hq ?_);case hq=>rfl)|((first|(with_reducible first|refine jS fun K hK=>?_|refine jT ?_|refine jU ?_)|((with_reducible refine jV ?hy fun K hK=>?_);case hy=>rfl));simp only [go_sem, Nat.reduceEqDiff, Nat.reduceAdd, Nat.reduceMul, Nat.reduceLeDiff, Nat.reduceLT, Int.reduceLT, Int.reduceLE, Int.reduceEq, Int.reduceNeg, Int.reduceToNat, Nat.reducePow, reduceIte, reduceCtorEq, e1])|((with_reducible first|refine jW ?hy ?_|refine jY ?hy ?_);case hy=>rfl)|((with_reducible first|refine jX ?hy ?_|refine jZ ?hy ?_);case hy=>rfl)|((with_reducible refine jF ?hy ?_);case hy=>decide))
  exact fin _ _ ⟨L, f, T, x, cx, TA, _, TW, vw, P3, hL1, hL2⟩ (n0.trans n3)
theorem asks_ok {k a b : Int} {z : Sp.Item} {ot : Bool} (hb1 : -9223372036854775808 ≤ b) (hb2 : b ≤ 9223372036854775807) (hS : SsS H s col S N) (fin : ∀ H' col', SsS H' s col' S N → Nx col col' H H' → K (.bool true) H') :
  CallsH Try.prog 32 #[.pointer (some ⟨s, 0, none⟩), opV k a b z ot] H K := by
 by_cases h3 : k = 3
 ·subst h3; exact asks_get hS fin
 by_cases h7 : k = 7
 ·subst h7; exact asks_same hS fin
 by_cases h8 : k = 8
 ·subst h8; exact asks_rank hS fin
 by_cases h9 : k = 9
 ·subst h9; exact asks_at hS fin
 by_cases h10 : k = 10
 ·subst h10; exact asks_sum hS fin
 by_cases h11 : k = 11
 ·subst h11; exact asks_flagged hb1 hb2 hS fin
 by_cases h12 : k = 12
 ·subst h12; exact asks_all hS fin
 have t3 : (k == 3) = false := by simp [h3]
 have t7 : (k == 7) = false := by simp [h7]
 have t8 : (k == 8) = false := by simp [h8]
 have t9 : (k == 9) = false := by simp [h9]
 have t10 : (k == 10) = false := by simp [h10]
 have t11 : (k == 11) = false := by simp [h11]
 have t12 : (k == 12) = false := by simp [h12]
 have fr0 : Fr (fun _ => False) H (H.push (.cells #[.int .i64 k, .int .i64 a, .int .i64 b, .int .i64 z.value, .bool z.counts, .int .i64 z.flags, .bool ot] 68)) := (Fr.refl _ _).push _
 have b1 := Blk.new H [.int .i64 k, .int .i64 a, .int .i64 b, .int .i64 z.value, .bool z.counts, .int .i64 z.flags, .bool ot] 68
 have k0 := b1.cellOf (i := 0) rfl
 refine call32 (by simp) ?_
 simp only [Try.f32, Option.getD_some]
 repeat' (first|(with_reducible first|refine jA ?_|(refine hK _ _ ?_;clear hK K)|refine jJ fun K hK=>?_|refine jK ?_|refine jL ?_|refine jM ?_|refine jN ?_|refine jO ?_|refine jP ?_|refine jQ ?_|(refine jB ?_;clear hK K)|(refine jC ?_;clear hK K)|refine jD ?_|refine jE ?_|refine jG ?_|refine jH ?_|refine jI ?_)|((with_reducible refine jR ?hq ?_);case hq=>rfl)|((first|(with_reducible first|refine jS fun K hK=>?_|refine jT ?_|refine jU ?_)|((with_reducible refine jV ?hy fun K hK=>?_);case hy=>rfl));simp only [go_sem, Nat.reduceEqDiff, Nat.reduceAdd, Nat.reduceMul, Nat.reduceLeDiff, Nat.reduceLT, Int.reduceLT, Int.reduceLE, Int.reduceEq, Int.reduceNeg, Int.reduceToNat, Nat.reducePow, reduceIte, reduceCtorEq, k0, opV, t3, t7, t8, t9, t10, t11, t12])|((with_reducible first|refine jW ?hy ?_|refine jY ?hy ?_);case hy=>rfl)|((with_reducible first|refine jX ?hy ?_|refine jZ ?hy ?_);case hy=>rfl)|((with_reducible refine jF ?hy ?_);case hy=>decide))
 exact fin _ _ (hS.grow fr0 (fun _ _ h => h)) (Nx.same fr0 fun _ h => h.elim)
end
end Go.Proofs.Ytndkbhlfbeiniaa
namespace Go.Proofs.Ytndkbhlfbeiniaa.LsSp
open Go Go.Hp
set_option linter.all false
set_option maxRecDepth 100000
set_option maxHeartbeats 1600000
abbrev I : Int → Value := Value.int .i64
def Mk (L : List (List Int)) (n : Nat) : Prop := ∀ (j : Nat) xs, j < n → L[j]? = some xs → ∀ x ∈ xs, x = -1 - (j : Int)
def Short (L : List (List Int)) (M : Nat) : Prop := ∀ (j : Nat) xs, L[j]? = some xs → xs.length ≤ M
variable {H : Heap} {e : Env} {Q : HX → Env → Heap → Prop} {s : Nat} {hdr : List Value} {T T' : Nat → Prop} {va vw : Value} {L : List (List Int)} {M : Nat}
theorem same (e0 : e 0 = .pointer (some ⟨s, 0, none⟩)) (es : e 7 = .int .i64 0) (hb : Blk H s hdr) (ha : hdr[2]? = some va) (hw : hdr[3]? = some vw) (hL : LL I H T va L) (hL' : LL I H T' vw L)
  (hlen : L.length ≤ 1000) (hM : Short L M) (hMM : M ≤ 1099511627776) (fin : ∀ e', e' 0 = .pointer (some ⟨s, 0, none⟩) → Q .normal e' H) : codeX Try.prog [14] (loopAt Try.f33.body 2) (blockQ 4 Q) e H := by
 have ca := hb.cellOf ha
 have cw := hb.cellOf hw
 refine x_loop (fun m e' H' => ∃ i : Nat, H' = H ∧ e' 7 = .int .i64 (i : Nat) ∧ i ≤ L.length ∧ m = L.length - i) L.length ⟨0, rfl, es, Nat.zero_le _, rfl⟩ ?_
 rintro m e1 H1 ⟨i, rfl, i7, hi, rfl⟩ hoff
 have i0 := (hoff 0 rfl).trans e0
 clear hoff
 by_cases hlt : i < L.length
 ·obtain ⟨xs, hx⟩ : ∃ xs, L[i]? = some xs := ⟨_, List.getElem?_eq_getElem hlt⟩
  obtain ⟨g, c, B, v, rfl, c1, o1, -⟩ := hL.at hx
  obtain ⟨g', c', B', v', rfl, c2, o2, -⟩ := hL'.at hx
  obtain ⟨a1, k1, rfl⟩ := o1.slice
  obtain ⟨a2, k2, rfl⟩ := o2.slice
  have ew : IntKind.i64.wrap ((i : Int) + 1) = ((i + 1 : Nat) : Int) := by rw [wrap_i64] <;> omega
  have hxM := hM i xs hx
  repeat' (first
   | (with_reducible first | refine seq_normal ?_ | (refine hK _ _ ?_; clear hK K) | refine x_seq (fun K hK => ?_) | refine x_nil ?_ | refine x_block ?_ | refine x_skip ?_ | refine x_exit ?_ | refine x_ret ?_ | refine x_label ?_ | refine x_scope ?_ | (refine seq_ret ?_; clear hK K) | (refine seq_exit ?_; clear hK K) | refine block_normal ?_ | refine block_ret ?_ | refine block_exit ?_ | refine loop_exit ?_ | refine loop_ret ?_)
   | ((with_reducible refine x_reg_lit ?hq ?_); case hq => rfl)
   | ((first | (with_reducible first | refine x_op (fun K hK => ?_) | refine end_ret ?_ | refine end_normal ?_) | ((with_reducible refine x_guard_yes ?hy (fun K hK => ?_)); case hy => rfl)); simp only [go_sem, Int.cast_ofNat_Int, Nat.reduceEqDiff, Nat.reduceAdd, Nat.reduceMul, Nat.reduceLeDiff, Nat.reduceLT, Int.reduceLT, Int.reduceLE, Int.reduceEq, Int.reduceNeg, Int.reduceToNat, Nat.reducePow, reduceIte, reduceCtorEq, i7, i0, ca, cw, hlt, c1, c2])
   | ((with_reducible first | refine x_guard_no ?hy ?_ | refine x_cond_true ?hy ?_); case hy => rfl)
   | ((with_reducible first | refine x_guard_none ?hy ?_ | refine x_cond_false ?hy ?_); case hy => rfl)
   | ((with_reducible refine block_exit_ne ?hy ?_); case hy => decide))
  refine Pkisthmuslaw03.same_ok (IR.rds o1) (IR.rds o2) (by omega) ?_
  rw [decide_eq_true rfl]
  repeat' (first
   | (with_reducible first | refine seq_normal ?_ | (refine hK _ _ ?_; clear hK K) | refine x_seq (fun K hK => ?_) | refine x_nil ?_ | refine x_block ?_ | refine x_skip ?_ | refine x_exit ?_ | refine x_ret ?_ | refine x_label ?_ | refine x_scope ?_ | (refine seq_ret ?_; clear hK K) | (refine seq_exit ?_; clear hK K) | refine block_normal ?_ | refine block_ret ?_ | refine block_exit ?_ | refine loop_exit ?_ | refine loop_ret ?_)
   | ((with_reducible refine x_reg_lit ?hq ?_); case hq => rfl)
   | ((first | (with_reducible first | refine x_op (fun K hK => ?_) | refine end_ret ?_ | refine end_normal ?_) | ((with_reducible refine x_guard_yes ?hy (fun K hK => ?_)); case hy => rfl)); simp only [go_sem, Int.cast_ofNat_Int, Nat.reduceEqDiff, Nat.reduceAdd, Nat.reduceMul, Nat.reduceLeDiff, Nat.reduceLT, Int.reduceLT, Int.reduceLE, Int.reduceEq, Int.reduceNeg, Int.reduceToNat, Nat.reducePow, reduceIte, reduceCtorEq, i7, ew])
   | ((with_reducible first | refine x_guard_no ?hy ?_ | refine x_cond_true ?hy ?_); case hy => rfl)
   | ((with_reducible first | refine x_guard_none ?hy ?_ | refine x_cond_false ?hy ?_); case hy => rfl)
   | ((with_reducible refine block_exit_ne ?hy ?_); case hy => decide))
  exact loop_normal (m' := L.length - (i + 1)) (by omega) ⟨i + 1, rfl, rfl, hlt, rfl⟩
 ·have t1 : (i < L.length) = False := by simp [hlt]
  obtain ⟨a, c, rfl⟩ := hL.slice
  repeat' (first
   | (with_reducible first | refine seq_normal ?_ | (refine hK _ _ ?_; clear hK K) | refine x_seq (fun K hK => ?_) | refine x_nil ?_ | refine x_block ?_ | refine x_skip ?_ | refine x_exit ?_ | refine x_ret ?_ | refine x_label ?_ | refine x_scope ?_ | (refine seq_ret ?_; clear hK K) | (refine seq_exit ?_; clear hK K) | refine block_normal ?_ | refine block_ret ?_ | refine block_exit ?_ | refine loop_exit ?_ | refine loop_ret ?_)
   | ((with_reducible refine x_reg_lit ?hq ?_); case hq => rfl)
   | ((first | (with_reducible first | refine x_op (fun K hK => ?_) | refine end_ret ?_ | refine end_normal ?_) | ((with_reducible refine x_guard_yes ?hy (fun K hK => ?_)); case hy => rfl)); simp only [go_sem, Int.cast_ofNat_Int, Nat.reduceEqDiff, Nat.reduceAdd, Nat.reduceMul, Nat.reduceLeDiff, Nat.reduceLT, Int.reduceLT, Int.reduceLE, Int.reduceEq, Int.reduceNeg, Int.reduceToNat, Nat.reducePow, reduceIte, reduceCtorEq, i7, i0, ca, t1])
   | ((with_reducible first | refine x_guard_no ?hy ?_ | refine x_cond_true ?hy ?_); case hy => rfl)
   | ((with_reducible first | refine x_guard_none ?hy ?_ | refine x_cond_false ?hy ?_); case hy => rfl)
   | ((with_reducible refine block_exit_ne ?hy ?_); case hy => decide))
  exact fin _ i0
theorem mark (e0 : e 0 = .pointer (some ⟨s, 0, none⟩)) (es : e 9 = .int .i64 0) (hb : Blk H s hdr) (ha : hdr[2]? = some va) (hL : LL I H T va L) (hs : ¬ T s)
  (hlen : L.length ≤ 1000) (hM : Short L M) (hMM : M ≤ 1099511627776)
  (fin : ∀ e' H' L', e' 0 = .pointer (some ⟨s, 0, none⟩) → LL I H' T va L' → L'.length = L.length → Short L' M → Mk L' L.length → Fr T H H' → Q .normal e' H') : codeX Try.prog [14] (loopAt Try.f33.body 3) (blockQ 6 Q) e H := by
 refine x_loop (fun m e' H' => ∃ (i : Nat) (L' : List (List Int)), e' 9 = .int .i64 (i : Nat) ∧ i ≤ L.length ∧ LL I H' T va L' ∧ L'.length = L.length ∧ Short L' M ∧ Mk L' i ∧ Fr T H H' ∧ m = L.length - i) L.length
  ⟨0, L, es, Nat.zero_le _, hL, rfl, hM, (fun j xs h => absurd h (Nat.not_lt_zero _)), Fr.refl _ _, rfl⟩ ?_
 rintro m e1 H1 ⟨i, L1, i9, hi, hL1, hl1, hM1, hk1, hf1, rfl⟩ hoff
 have i0 := (hoff 0 rfl).trans e0
 clear hoff
 have ca := (hb.frame hf1 hs).cellOf ha
 obtain ⟨a, c, rfl⟩ := hL1.slice
 by_cases hlt : i < L1.length
 ·obtain ⟨xs, hx⟩ : ∃ xs, L1[i]? = some xs := ⟨_, List.getElem?_eq_getElem hlt⟩
  have ew : IntKind.i64.wrap ((i : Int) + 1) = ((i + 1 : Nat) : Int) := by rw [wrap_i64] <;> omega
  have ey : IntKind.i64.wrap (-1 - (i : Int)) = -1 - (i : Int) := by rw [wrap_i64] <;> omega
  have hxM := hM1 i xs hx
  repeat' (first
   | (with_reducible first | refine seq_normal ?_ | (refine hK _ _ ?_; clear hK K) | refine x_seq (fun K hK => ?_) | refine x_nil ?_ | refine x_block ?_ | refine x_skip ?_ | refine x_exit ?_ | refine x_ret ?_ | refine x_label ?_ | refine x_scope ?_ | (refine seq_ret ?_; clear hK K) | (refine seq_exit ?_; clear hK K) | refine block_normal ?_ | refine block_ret ?_ | refine block_exit ?_ | refine loop_exit ?_ | refine loop_ret ?_)
   | ((with_reducible refine x_reg_lit ?hq ?_); case hq => rfl)
   | ((first | (with_reducible first | refine x_op (fun K hK => ?_) | refine end_ret ?_ | refine end_normal ?_) | ((with_reducible refine x_guard_yes ?hy (fun K hK => ?_)); case hy => rfl)); simp only [go_sem, Int.cast_ofNat_Int, Nat.reduceEqDiff, Nat.reduceAdd, Nat.reduceMul, Nat.reduceLeDiff, Nat.reduceLT, Int.reduceLT, Int.reduceLE, Int.reduceEq, Int.reduceNeg, Int.reduceToNat, Nat.reducePow, reduceIte, reduceCtorEq, i9, i0, ca, hlt])
   | ((with_reducible first | refine x_guard_no ?hy ?_ | refine x_cond_true ?hy ?_); case hy => rfl)
   | ((with_reducible first | refine x_guard_none ?hy ?_ | refine x_cond_false ?hy ?_); case hy => rfl)
   | ((with_reducible refine block_exit_ne ?hy ?_); case hy => decide))
  refine x_loop (fun m e' H' => ∃ (k : Nat) (L' : List (List Int)) (ys : List Int), e' 10 = .int .i64 (k : Nat) ∧ k ≤ xs.length ∧ ys.length = xs.length ∧ LL I H' T (.slice a L1.length c) L' ∧ L' = L1.set i ys ∧ (∀ p x, p < k → ys[p]? = some x → x = -1 - (i : Int)) ∧ Fr T H H' ∧ m = xs.length - k) xs.length
   ⟨0, L1, xs, rfl, Nat.zero_le _, rfl, hL1, ?_, (fun p x h => absurd h (Nat.not_lt_zero _)), hf1, rfl⟩ ?_
  ·apply List.ext_getElem?
   intro j
   rw [List.getElem?_set]
   by_cases hij : i = j
   ·subst hij; rw [if_pos rfl, if_pos hlt, hx]
   ·rw [if_neg hij]
  rintro m e2 H2 ⟨k, L2, ys, i10, hk, hly, hL2, rfl, hmk, hf2, rfl⟩ hoff
  have i0 := (hoff 0 rfl).trans i0
  have i9 := (hoff 9 rfl).trans i9
  clear hoff
  have ca := (hb.frame hf2 hs).cellOf ha
  have hx2 : (L1.set i ys)[i]? = some ys := by rw [List.getElem?_set, if_pos rfl, if_pos hlt]
  obtain ⟨g, c', B, v, hv, c1, o1, hg, hB, hwr, -⟩ := hL2.at hx2
  rw [List.length_set] at hv
  simp only [Value.slice.injEq, true_and] at hv
  obtain ⟨rfl, rfl⟩ := hv
  obtain ⟨a1, k1, rfl⟩ := o1.slice
  by_cases hkl : k < ys.length
  ·obtain ⟨b, n, rfl, hv', w, hL3⟩ := hwr k (-1 - (i : Int)) hkl
   simp only [Value.slice.injEq, true_and] at hv'
   obtain ⟨rfl, rfl⟩ := hv'
   have ewk : IntKind.i64.wrap ((k : Int) + 1) = ((k + 1 : Nat) : Int) := by rw [wrap_i64] <;> omega
   repeat' (first
    | (with_reducible first | refine seq_normal ?_ | (refine hK _ _ ?_; clear hK K) | refine x_seq (fun K hK => ?_) | refine x_nil ?_ | refine x_block ?_ | refine x_skip ?_ | refine x_exit ?_ | refine x_ret ?_ | refine x_label ?_ | refine x_scope ?_ | (refine seq_ret ?_; clear hK K) | (refine seq_exit ?_; clear hK K) | refine block_normal ?_ | refine block_ret ?_ | refine block_exit ?_ | refine loop_exit ?_ | refine loop_ret ?_)
    | ((with_reducible refine x_reg_lit ?hq ?_); case hq => rfl)
    | ((first | (with_reducible first | refine x_op (fun K hK => ?_) | refine end_ret ?_ | refine end_normal ?_) | ((with_reducible refine x_guard_yes ?hy (fun K hK => ?_)); case hy => rfl)); simp only [go_sem, Int.cast_ofNat_Int, Nat.reduceEqDiff, Nat.reduceAdd, Nat.reduceMul, Nat.reduceLeDiff, Nat.reduceLT, Int.reduceLT, Int.reduceLE, Int.reduceEq, Int.reduceNeg, Int.reduceToNat, Nat.reducePow, reduceIte, reduceCtorEq, i9, i10, i0, ca, hlt, c1, hkl, ey, w, ewk])
    | ((with_reducible first | refine x_guard_no ?hy ?_ | refine x_cond_true ?hy ?_); case hy => rfl)
    | ((with_reducible first | refine x_guard_none ?hy ?_ | refine x_cond_false ?hy ?_); case hy => rfl)
    | ((with_reducible refine block_exit_ne ?hy ?_); case hy => decide))
   refine loop_normal (m' := xs.length - (k + 1)) (by omega) ⟨k + 1, _, ys.set k (-1 - (i : Int)), rfl, by omega, by simp [hly], hL3, ?_, ?_, ?_, rfl⟩
   ·rw [List.set_set]
   ·intro p x hp hpx
    rw [List.getElem?_set] at hpx
    by_cases hpk : k = p
    ·rw [if_pos hpk, if_pos (by omega)] at hpx
     exact (Option.some.inj hpx).symm
    ·rw [if_neg hpk] at hpx
     exact hmk p x (by omega) hpx
   ·exact Fr.set (S := T) (a := ⟨b, k, none⟩) hf2 (.inl (hB b rfl).1) _
  ·have t1 : (k < ys.length) = False := by simp [hkl]
   repeat' (first
    | (with_reducible first | refine seq_normal ?_ | (refine hK _ _ ?_; clear hK K) | refine x_seq (fun K hK => ?_) | refine x_nil ?_ | refine x_block ?_ | refine x_skip ?_ | refine x_exit ?_ | refine x_ret ?_ | refine x_label ?_ | refine x_scope ?_ | (refine seq_ret ?_; clear hK K) | (refine seq_exit ?_; clear hK K) | refine block_normal ?_ | refine block_ret ?_ | refine block_exit ?_ | refine loop_exit ?_ | refine loop_ret ?_)
    | ((with_reducible refine x_reg_lit ?hq ?_); case hq => rfl)
    | ((first | (with_reducible first | refine x_op (fun K hK => ?_) | refine end_ret ?_ | refine end_normal ?_) | ((with_reducible refine x_guard_yes ?hy (fun K hK => ?_)); case hy => rfl)); simp only [go_sem, Int.cast_ofNat_Int, Nat.reduceEqDiff, Nat.reduceAdd, Nat.reduceMul, Nat.reduceLeDiff, Nat.reduceLT, Int.reduceLT, Int.reduceLE, Int.reduceEq, Int.reduceNeg, Int.reduceToNat, Nat.reducePow, reduceIte, reduceCtorEq, i9, i10, i0, ca, hlt, c1, t1, ew])
    | ((with_reducible first | refine x_guard_no ?hy ?_ | refine x_cond_true ?hy ?_); case hy => rfl)
    | ((with_reducible first | refine x_guard_none ?hy ?_ | refine x_cond_false ?hy ?_); case hy => rfl)
    | ((with_reducible refine block_exit_ne ?hy ?_); case hy => decide))
   have hLL : (L1.set i ys).length = L.length := by simpa using hl1
   refine loop_normal (m' := L.length - (i + 1)) (by omega) ⟨i + 1, L1.set i ys, rfl, by omega, by rw [hl1] at hL2 ⊢; exact hL2, hLL, ?_, ?_, hf2, rfl⟩
   ·intro j zs hz
    rw [List.getElem?_set] at hz
    by_cases hij : i = j
    ·rw [if_pos hij, if_pos hlt] at hz
     rw [← Option.some.inj hz, hly]; exact hxM
    ·rw [if_neg hij] at hz
     exact hM1 j zs hz
   ·intro j zs hj hz x hxz
    rw [List.getElem?_set] at hz
    by_cases hij : i = j
    ·rw [if_pos hij, if_pos hlt] at hz
     obtain rfl := Option.some.inj hz
     obtain ⟨p, hp⟩ := List.getElem?_of_mem hxz
     have hpl := (List.getElem?_eq_some_iff.1 hp).1
     rw [← hij]
     exact hmk p x (by omega) hp
    ·rw [if_neg hij] at hz
     exact hk1 j zs (by omega) hz x hxz
 ·have t1 : (i < L1.length) = False := by simp [hlt]
  repeat' (first
   | (with_reducible first | refine seq_normal ?_ | (refine hK _ _ ?_; clear hK K) | refine x_seq (fun K hK => ?_) | refine x_nil ?_ | refine x_block ?_ | refine x_skip ?_ | refine x_exit ?_ | refine x_ret ?_ | refine x_label ?_ | refine x_scope ?_ | (refine seq_ret ?_; clear hK K) | (refine seq_exit ?_; clear hK K) | refine block_normal ?_ | refine block_ret ?_ | refine block_exit ?_ | refine loop_exit ?_ | refine loop_ret ?_)
   | ((with_reducible refine x_reg_lit ?hq ?_); case hq => rfl)
   | ((first | (with_reducible first | refine x_op (fun K hK => ?_) | refine end_ret ?_ | refine end_normal ?_) | ((with_reducible refine x_guard_yes ?hy (fun K hK => ?_)); case hy => rfl)); simp only [go_sem, Int.cast_ofNat_Int, Nat.reduceEqDiff, Nat.reduceAdd, Nat.reduceMul, Nat.reduceLeDiff, Nat.reduceLT, Int.reduceLT, Int.reduceLE, Int.reduceEq, Int.reduceNeg, Int.reduceToNat, Nat.reducePow, reduceIte, reduceCtorEq, i9, i0, ca, t1])
   | ((with_reducible first | refine x_guard_no ?hy ?_ | refine x_cond_true ?hy ?_); case hy => rfl)
   | ((with_reducible first | refine x_guard_none ?hy ?_ | refine x_cond_false ?hy ?_); case hy => rfl)
   | ((with_reducible refine block_exit_ne ?hy ?_); case hy => decide))
  have : i = L.length := by omega
  exact fin _ _ L1 i0 hL1 hl1 hM1 (by rw [← this]; exact hk1) hf1
theorem grow (e0 : e 0 = .pointer (some ⟨s, 0, none⟩)) (es : e 11 = .int .i64 0) (hb : Blk H s hdr) (ha : hdr[2]? = some va) (hL : LL I H T va L) (hs : ¬ T s)
  (hlen : L.length ≤ 1000) (hM : Short L M) (hMM : M ≤ 1099511627776) (hk : Mk L L.length)
  (fin : ∀ e' H' T' L', e' 0 = .pointer (some ⟨s, 0, none⟩) → LL I H' T' va L' → L'.length = L.length → Mk L' L.length → Short L' (M + 12) → (∀ b, T' b → T b ∨ H.size ≤ b) → Fr T H H' → Q .normal e' H') : codeX Try.prog [14] (loopAt Try.f33.body 5) (blockQ 10 Q) e H := by
 have hsl := hb.lt
 refine x_loop (fun m e' H' => ∃ (n : Nat) (T' : Nat → Prop) (L' : List (List Int)), e' 11 = .int .i64 (n : Nat) ∧ n ≤ 12 ∧ LL I H' T' va L' ∧ L'.length = L.length ∧ Short L' (M + n) ∧ Mk L' L.length ∧ (∀ b, T' b → T b ∨ H.size ≤ b) ∧ Fr T H H' ∧ m = 12 - n) 12
  ⟨0, T, L, es, Nat.zero_le _, hL, rfl, hM, hk, (fun b h => .inl h), Fr.refl _ _, rfl⟩ ?_
 rintro m e1 H1 ⟨n, T1, L1, i11, hn, hL1, hl1, hM1, hk1, hT1, hf1, rfl⟩ hoff
 have i0 := (hoff 0 rfl).trans e0
 clear hoff
 by_cases hlt : n < 12
 ·have ew : IntKind.i64.wrap ((n : Int) + 1) = ((n + 1 : Nat) : Int) := by rw [wrap_i64] <;> omega
  have tn : ((n : Int) < 12) = True := by simp; omega
  repeat' (first
   | (with_reducible first | refine seq_normal ?_ | (refine hK _ _ ?_; clear hK K) | refine x_seq (fun K hK => ?_) | refine x_nil ?_ | refine x_block ?_ | refine x_skip ?_ | refine x_exit ?_ | refine x_ret ?_ | refine x_label ?_ | refine x_scope ?_ | (refine seq_ret ?_; clear hK K) | (refine seq_exit ?_; clear hK K) | refine block_normal ?_ | refine block_ret ?_ | refine block_exit ?_ | refine loop_exit ?_ | refine loop_ret ?_)
   | ((with_reducible refine x_reg_lit ?hq ?_); case hq => rfl)
   | ((first | (with_reducible first | refine x_op (fun K hK => ?_) | refine end_ret ?_ | refine end_normal ?_) | ((with_reducible refine x_guard_yes ?hy (fun K hK => ?_)); case hy => rfl)); simp only [go_sem, Int.cast_ofNat_Int, Nat.reduceEqDiff, Nat.reduceAdd, Nat.reduceMul, Nat.reduceLeDiff, Nat.reduceLT, Int.reduceLT, Int.reduceLE, Int.reduceEq, Int.reduceNeg, Int.reduceToNat, Nat.reducePow, reduceIte, reduceCtorEq, i11, tn])
   | ((with_reducible first | refine x_guard_no ?hy ?_ | refine x_cond_true ?hy ?_); case hy => rfl)
   | ((with_reducible first | refine x_guard_none ?hy ?_ | refine x_cond_false ?hy ?_); case hy => rfl)
   | ((with_reducible refine block_exit_ne ?hy ?_); case hy => decide))
  refine x_loop (fun m e' H' => ∃ (i : Nat) (T' : Nat → Prop) (L' : List (List Int)), e' 12 = .int .i64 (i : Nat) ∧ i ≤ L.length ∧ LL I H' T' va L' ∧ L'.length = L.length ∧ (∀ (j : Nat) xs, L'[j]? = some xs → xs.length ≤ M + n + 1 ∧ (i ≤ j → xs.length ≤ M + n)) ∧ Mk L' L.length ∧ (∀ b, T' b → T b ∨ H.size ≤ b) ∧ Fr T H H' ∧ m = L.length - i) L.length
   ⟨0, T1, L1, rfl, Nat.zero_le _, hL1, hl1, (fun j xs h => ⟨Nat.le_succ_of_le (hM1 j xs h), fun _ => hM1 j xs h⟩), hk1, hT1, hf1, rfl⟩ ?_
  rintro m e2 H2 ⟨i, T2, L2, i12, hi, hL2, hl2, hM2, hk2, hT2, hf2, rfl⟩ hoff
  have i0 := (hoff 0 rfl).trans i0
  have i11 := (hoff 11 rfl).trans i11
  clear hoff
  have hs2 := hf2.size
  have ca := (hb.frame hf2 hs).cellOf ha
  by_cases hil : i < L2.length
  ·obtain ⟨xs, hx⟩ : ∃ xs, L2[i]? = some xs := ⟨_, List.getElem?_eq_getElem hil⟩
   obtain ⟨g, c, B, v, rfl, c1, o1, hg, hB, -, hput⟩ := hL2.at hx
   obtain ⟨a1, k1, rfl⟩ := o1.slice
   have hsg : s ≠ g := fun e => by
    rcases hT2 g hg with h | h
    ·exact hs (by rw [e]; exact h)
    ·omega
   have hsB : B ≠ some s := fun e => by
    rcases hT2 s (hB s e).1 with h | h
    ·exact hs h
    ·omega
   have hgB : B ≠ some g := fun e => (hB g e).2 rfl
   have hxM := (hM2 i xs hx).2 (Nat.le_refl _)
   have ewi : IntKind.i64.wrap ((i : Int) + 1) = ((i + 1 : Nat) : Int) := by rw [wrap_i64] <;> omega
   have ey : IntKind.i64.wrap (-1 - (i : Int)) = -1 - (i : Int) := by rw [wrap_i64] <;> omega
   have q : Cells [(s, 2, .slice (some ⟨g, 0, none⟩) L2.length c), (g, i, .slice a1 xs.length k1)] H2 := ⟨ca, c1, trivial⟩
   have qp : Cells [(s, 2, .slice (some ⟨g, 0, none⟩) L2.length c), (g, i, .slice a1 xs.length k1)] (H2.push (.cells #[.int .i64 (-1 - (i : Int))] 3)) := q.grow ((Fr.refl _ _).push _)
   repeat' (first
    | (with_reducible first | refine seq_normal ?_ | (refine hK _ _ ?_; clear hK K) | refine x_seq (fun K hK => ?_) | refine x_nil ?_ | refine x_block ?_ | refine x_skip ?_ | refine x_exit ?_ | refine x_ret ?_ | refine x_label ?_ | refine x_scope ?_ | (refine seq_ret ?_; clear hK K) | (refine seq_exit ?_; clear hK K) | refine block_normal ?_ | refine block_ret ?_ | refine block_exit ?_ | refine loop_exit ?_ | refine loop_ret ?_)
    | ((with_reducible refine x_reg_lit ?hq ?_); case hq => rfl)
    | ((first | (with_reducible first | refine x_op (fun K hK => ?_) | refine end_ret ?_ | refine end_normal ?_) | ((with_reducible refine x_guard_yes ?hy (fun K hK => ?_)); case hy => rfl)); simp only [go_sem, Int.cast_ofNat_Int, Nat.reduceEqDiff, Nat.reduceAdd, Nat.reduceMul, Nat.reduceLeDiff, Nat.reduceLT, Int.reduceLT, Int.reduceLE, Int.reduceEq, Int.reduceNeg, Int.reduceToNat, Nat.reducePow, reduceIte, reduceCtorEq, i12, i0, ca, hil])
    | ((with_reducible first | refine x_guard_no ?hy ?_ | refine x_cond_true ?hy ?_); case hy => rfl)
    | ((with_reducible first | refine x_guard_none ?hy ?_ | refine x_cond_false ?hy ?_); case hy => rfl)
    | ((with_reducible refine block_exit_ne ?hy ?_); case hy => decide))
   refine x_drawS [17] [0, 1, 2, 3, 4, 5, 6, 7, 8, 9, 10, 11, 12, 13, 14, 15, 16, 17] rfl (by kernel_rfl) (Cells _) q ?_
   repeat' (first
    | (with_reducible refine xs_nil ?_)
    | ((with_reducible apply xs_rd); (case hi => rfl); (case hr => rfl); (case h1 => intro H' hS'; (try simp only [Cells, and_true] at hS'); simp only [go_sem, Int.cast_ofNat_Int, Nat.reduceEqDiff, Nat.reduceAdd, Nat.reduceMul, Nat.reduceLeDiff, Nat.reduceLT, Int.reduceLT, Int.reduceLE, Int.reduceEq, Int.reduceNeg, Int.reduceToNat, Nat.reducePow, reduceIte, reduceCtorEq, i12, i0, hil, ey, qp, hS']; rfl))
    | ((with_reducible apply xs_guard_yes); (case hi => rfl); (case hr => rfl); (case hy => rfl); (case h1 => intro H' hS'; (try simp only [Cells, and_true] at hS'); simp only [go_sem, Int.cast_ofNat_Int, Nat.reduceEqDiff, Nat.reduceAdd, Nat.reduceMul, Nat.reduceLeDiff, Nat.reduceLT, Int.reduceLT, Int.reduceLE, Int.reduceEq, Int.reduceNeg, Int.reduceToNat, Nat.reducePow, reduceIte, reduceCtorEq, i12, i0, hil, ey, qp, hS']; rfl))
    | ((with_reducible refine xs_tail ?hz ?_); case hz => rfl)
    | ((with_reducible refine xs_keep ?hz ?_); case hz => first | (with_reducible assumption) | assumption | (simp only [go_sem, Int.cast_ofNat_Int, Nat.reduceEqDiff, Nat.reduceAdd, Nat.reduceMul, Nat.reduceLeDiff, Nat.reduceLT, Int.reduceLT, Int.reduceLE, Int.reduceEq, Int.reduceNeg, Int.reduceToNat, Nat.reducePow, reduceIte, reduceCtorEq, Cells, and_true, i12, i0, hil, ey, qp]))
    | ((with_reducible apply xs_guard_no); (case hi => rfl); (case hy => rfl); (case hS => assumption))
    | ((first | ((with_reducible apply xs_op); (case hi => rfl)) | ((with_reducible apply xs_op_yes); (case hi => rfl); (case hy => rfl))); (case hr => rfl); intro K hK; simp only [go_sem, Int.cast_ofNat_Int, Nat.reduceEqDiff, Nat.reduceAdd, Nat.reduceMul, Nat.reduceLeDiff, Nat.reduceLT, Int.reduceLT, Int.reduceLE, Int.reduceEq, Int.reduceNeg, Int.reduceToNat, Nat.reducePow, reduceIte, reduceCtorEq, i12, i0, hil, ey, qp])
    | (with_reducible first | refine seq_normal ?_ | (refine hK _ _ ?_; clear hK K) | refine x_seq (fun K hK => ?_) | refine x_nil ?_ | refine x_block ?_ | refine x_skip ?_ | refine x_exit ?_ | refine x_ret ?_ | refine x_label ?_ | refine x_scope ?_ | (refine seq_ret ?_; clear hK K) | (refine seq_exit ?_; clear hK K) | refine block_normal ?_ | refine block_ret ?_ | refine block_exit ?_ | refine loop_exit ?_ | refine loop_ret ?_)
    | ((with_reducible refine x_reg_lit ?hq ?_); case hq => rfl)
    | ((first | (with_reducible first | refine x_op (fun K hK => ?_) | refine end_ret ?_ | refine end_normal ?_) | ((with_reducible refine x_guard_yes ?hy (fun K hK => ?_)); case hy => rfl)); simp only [go_sem, Int.cast_ofNat_Int, Nat.reduceEqDiff, Nat.reduceAdd, Nat.reduceMul, Nat.reduceLeDiff, Nat.reduceLT, Int.reduceLT, Int.reduceLE, Int.reduceEq, Int.reduceNeg, Int.reduceToNat, Nat.reducePow, reduceIte, reduceCtorEq, i12, i0, hil, ey, qp])
    | ((with_reducible first | refine x_guard_no ?hy ?_ | refine x_cond_true ?hy ?_); case hy => rfl)
    | ((with_reducible first | refine x_guard_none ?hy ?_ | refine x_cond_false ?hy ?_); case hy => rfl)
    | ((with_reducible refine block_exit_ne ?hy ?_); case hy => decide))
   refine append_or (C := I) elems23 tl3 o1 rfl rfl (by decide) (by simp; omega) rfl ?_
   intro v3 H3 B3 o3 hf3 hB3
   have q3 : Cells [(s, 2, .slice (some ⟨g, 0, none⟩) L2.length c), (g, i, .slice a1 xs.length k1)] H3 := q.frame hf3 (by
    intro b hb
    simp only [List.mem_cons, List.not_mem_nil, or_false] at hb
    rcases hb with rfl | rfl
    ·exact hsB
    ·exact hgB)
   obtain ⟨w3, hL3⟩ := hput H3 B3 v3 _ o3 hf3 hB3
   obtain ⟨a3, k3, rfl⟩ := o3.slice
   repeat' (first
    | (with_reducible refine xs_nil ?_)
    | ((with_reducible apply xs_rd); (case hi => rfl); (case hr => rfl); (case h1 => intro H' hS'; (try simp only [Cells, and_true] at hS'); simp only [go_sem, Int.cast_ofNat_Int, Nat.reduceEqDiff, Nat.reduceAdd, Nat.reduceMul, Nat.reduceLeDiff, Nat.reduceLT, Int.reduceLT, Int.reduceLE, Int.reduceEq, Int.reduceNeg, Int.reduceToNat, Nat.reducePow, reduceIte, reduceCtorEq, i12, i0, hil, q3, w3, ewi, hS']; rfl))
    | ((with_reducible apply xs_guard_yes); (case hi => rfl); (case hr => rfl); (case hy => rfl); (case h1 => intro H' hS'; (try simp only [Cells, and_true] at hS'); simp only [go_sem, Int.cast_ofNat_Int, Nat.reduceEqDiff, Nat.reduceAdd, Nat.reduceMul, Nat.reduceLeDiff, Nat.reduceLT, Int.reduceLT, Int.reduceLE, Int.reduceEq, Int.reduceNeg, Int.reduceToNat, Nat.reducePow, reduceIte, reduceCtorEq, i12, i0, hil, q3, w3, ewi, hS']; rfl))
    | ((with_reducible refine xs_tail ?hz ?_); case hz => rfl)
    | ((with_reducible refine xs_keep ?hz ?_); case hz => first | (with_reducible assumption) | assumption | (simp only [go_sem, Int.cast_ofNat_Int, Nat.reduceEqDiff, Nat.reduceAdd, Nat.reduceMul, Nat.reduceLeDiff, Nat.reduceLT, Int.reduceLT, Int.reduceLE, Int.reduceEq, Int.reduceNeg, Int.reduceToNat, Nat.reducePow, reduceIte, reduceCtorEq, Cells, and_true, i12, i0, hil, q3, w3, ewi]))
    | ((with_reducible apply xs_guard_no); (case hi => rfl); (case hy => rfl); (case hS => assumption))
    | ((first | ((with_reducible apply xs_op); (case hi => rfl)) | ((with_reducible apply xs_op_yes); (case hi => rfl); (case hy => rfl))); (case hr => rfl); intro K hK; simp only [go_sem, Int.cast_ofNat_Int, Nat.reduceEqDiff, Nat.reduceAdd, Nat.reduceMul, Nat.reduceLeDiff, Nat.reduceLT, Int.reduceLT, Int.reduceLE, Int.reduceEq, Int.reduceNeg, Int.reduceToNat, Nat.reducePow, reduceIte, reduceCtorEq, i12, i0, hil, q3, w3, ewi])
    | (with_reducible first | refine seq_normal ?_ | (refine hK _ _ ?_; clear hK K) | refine x_seq (fun K hK => ?_) | refine x_nil ?_ | refine x_block ?_ | refine x_skip ?_ | refine x_exit ?_ | refine x_ret ?_ | refine x_label ?_ | refine x_scope ?_ | (refine seq_ret ?_; clear hK K) | (refine seq_exit ?_; clear hK K) | refine block_normal ?_ | refine block_ret ?_ | refine block_exit ?_ | refine loop_exit ?_ | refine loop_ret ?_)
    | ((with_reducible refine x_reg_lit ?hq ?_); case hq => rfl)
    | ((first | (with_reducible first | refine x_op (fun K hK => ?_) | refine end_ret ?_ | refine end_normal ?_) | ((with_reducible refine x_guard_yes ?hy (fun K hK => ?_)); case hy => rfl)); simp only [go_sem, Int.cast_ofNat_Int, Nat.reduceEqDiff, Nat.reduceAdd, Nat.reduceMul, Nat.reduceLeDiff, Nat.reduceLT, Int.reduceLT, Int.reduceLE, Int.reduceEq, Int.reduceNeg, Int.reduceToNat, Nat.reducePow, reduceIte, reduceCtorEq, i12, i0, hil, q3, w3, ewi])
    | ((with_reducible first | refine x_guard_no ?hy ?_ | refine x_cond_true ?hy ?_); case hy => rfl)
    | ((with_reducible first | refine x_guard_none ?hy ?_ | refine x_cond_false ?hy ?_); case hy => rfl)
    | ((with_reducible refine block_exit_ne ?hy ?_); case hy => decide))
   have hs3 := hf3.size
   refine loop_normal (m' := L.length - (i + 1)) (by omega) ⟨i + 1, _, _, rfl, by omega, hL3, by simpa using hl2, ?_, ?_, ?_, ?_, rfl⟩
   ·intro j zs hz
    rw [List.getElem?_set] at hz
    by_cases hij : i = j
    ·rw [if_pos hij, if_pos hil] at hz
     rw [← Option.some.inj hz, List.length_append, List.length_singleton]
     exact ⟨by omega, fun h => by omega⟩
    ·rw [if_neg hij] at hz
     exact ⟨(hM2 j zs hz).1, fun h => (hM2 j zs hz).2 (by omega)⟩
   ·intro j zs hj hz x hxz
    rw [List.getElem?_set] at hz
    by_cases hij : i = j
    ·rw [if_pos hij, if_pos hil] at hz
     rw [← Option.some.inj hz] at hxz
     rcases List.mem_append.1 hxz with h | h
     ·rw [← hij]; exact hk2 i xs (by omega) hx x h
     ·rw [List.mem_singleton] at h
      rw [← hij]; exact h
    ·rw [if_neg hij] at hz
     exact hk2 j zs hj hz x hxz
   ·intro b hb
    rcases hb with hb | hb
    ·exact hT2 b hb
    ·rcases hB3 with rfl | ⟨g', rfl, hg'⟩
     ·exact hT2 b (hB b hb).1
     ·rw [← Option.some.inj hb]; right; omega
   ·refine Fr.set (S := T) (a := ⟨g, i, none⟩) (hf2.trans' hf3 fun b hb h => ?_) ?_ _
    ·rcases hT2 b (hB b h).1 with h | h
     ·exact h
     ·omega
    ·rcases hT2 g hg with h | h
     ·exact .inl h
     ·exact .inr h
  ·have t1 : (i < L2.length) = False := by simp [hil]
   obtain ⟨a, c, rfl⟩ := hL2.slice
   repeat' (first
    | (with_reducible first | refine seq_normal ?_ | (refine hK _ _ ?_; clear hK K) | refine x_seq (fun K hK => ?_) | refine x_nil ?_ | refine x_block ?_ | refine x_skip ?_ | refine x_exit ?_ | refine x_ret ?_ | refine x_label ?_ | refine x_scope ?_ | (refine seq_ret ?_; clear hK K) | (refine seq_exit ?_; clear hK K) | refine block_normal ?_ | refine block_ret ?_ | refine block_exit ?_ | refine loop_exit ?_ | refine loop_ret ?_)
    | ((with_reducible refine x_reg_lit ?hq ?_); case hq => rfl)
    | ((first | (with_reducible first | refine x_op (fun K hK => ?_) | refine end_ret ?_ | refine end_normal ?_) | ((with_reducible refine x_guard_yes ?hy (fun K hK => ?_)); case hy => rfl)); simp only [go_sem, Int.cast_ofNat_Int, Nat.reduceEqDiff, Nat.reduceAdd, Nat.reduceMul, Nat.reduceLeDiff, Nat.reduceLT, Int.reduceLT, Int.reduceLE, Int.reduceEq, Int.reduceNeg, Int.reduceToNat, Nat.reducePow, reduceIte, reduceCtorEq, i12, i0, ca, t1, i11, ew])
    | ((with_reducible first | refine x_guard_no ?hy ?_ | refine x_cond_true ?hy ?_); case hy => rfl)
    | ((with_reducible first | refine x_guard_none ?hy ?_ | refine x_cond_false ?hy ?_); case hy => rfl)
    | ((with_reducible refine block_exit_ne ?hy ?_); case hy => decide))
   exact loop_normal (m' := 12 - (n + 1)) (by omega) ⟨n + 1, T2, L2, rfl, by omega, hL2, hl2, (fun j xs h => (hM2 j xs h).1), hk2, hT2, hf2, rfl⟩
 ·have tn : ((n : Int) < 12) = False := by simp; omega
  have hn12 : n = 12 := by omega
  subst hn12
  repeat' (first
   | (with_reducible first | refine seq_normal ?_ | (refine hK _ _ ?_; clear hK K) | refine x_seq (fun K hK => ?_) | refine x_nil ?_ | refine x_block ?_ | refine x_skip ?_ | refine x_exit ?_ | refine x_ret ?_ | refine x_label ?_ | refine x_scope ?_ | (refine seq_ret ?_; clear hK K) | (refine seq_exit ?_; clear hK K) | refine block_normal ?_ | refine block_ret ?_ | refine block_exit ?_ | refine loop_exit ?_ | refine loop_ret ?_)
   | ((with_reducible refine x_reg_lit ?hq ?_); case hq => rfl)
   | ((first | (with_reducible first | refine x_op (fun K hK => ?_) | refine end_ret ?_ | refine end_normal ?_) | ((with_reducible refine x_guard_yes ?hy (fun K hK => ?_)); case hy => rfl)); simp only [go_sem, Int.cast_ofNat_Int, Nat.reduceEqDiff, Nat.reduceAdd, Nat.reduceMul, Nat.reduceLeDiff, Nat.reduceLT, Int.reduceLT, Int.reduceLE, Int.reduceEq, Int.reduceNeg, Int.reduceToNat, Nat.reducePow, reduceIte, reduceCtorEq, i11, tn])
   | ((with_reducible first | refine x_guard_no ?hy ?_ | refine x_cond_true ?hy ?_); case hy => rfl)
   | ((with_reducible first | refine x_guard_none ?hy ?_ | refine x_cond_false ?hy ?_); case hy => rfl)
   | ((with_reducible refine block_exit_ne ?hy ?_); case hy => decide))
  exact fin _ _ T1 L1 i0 hL1 hl1 hk1 hM1 hT1 hf1
theorem check (e0 : e 0 = .pointer (some ⟨s, 0, none⟩)) (es : e 13 = .int .i64 0) (hb : Blk H s hdr) (ha : hdr[2]? = some va) (hL : LL I H T va L)
  (hlen : L.length ≤ 1000) (hM : Short L M) (hMM : M ≤ 2199023255552) (hk : Mk L L.length)
  (fin : ∀ e', e' 0 = .pointer (some ⟨s, 0, none⟩) → Q .normal e' H) : codeX Try.prog [14] (loopAt Try.f33.body 7) (blockQ 14 Q) e H := by
 have ca := hb.cellOf ha
 refine x_loop (fun m e' H' => ∃ i : Nat, H' = H ∧ e' 13 = .int .i64 (i : Nat) ∧ i ≤ L.length ∧ m = L.length - i) L.length ⟨0, rfl, es, Nat.zero_le _, rfl⟩ ?_
 rintro m e1 H1 ⟨i, rfl, i7, hi, rfl⟩ hoff
 have i0 := (hoff 0 rfl).trans e0
 clear hoff
 by_cases hlt : i < L.length
 ·obtain ⟨xs, hx⟩ : ∃ xs, L[i]? = some xs := ⟨_, List.getElem?_eq_getElem hlt⟩
  obtain ⟨g, c, B, v, rfl, c1, o1, -⟩ := hL.at hx
  obtain ⟨a1, k1, rfl⟩ := o1.slice
  have ew : IntKind.i64.wrap ((i : Int) + 1) = ((i + 1 : Nat) : Int) := by rw [wrap_i64] <;> omega
  have ey : IntKind.i64.wrap (-1 - (i : Int)) = -1 - (i : Int) := by rw [wrap_i64] <;> omega
  have hxM := hM i xs hx
  repeat' (first
   | (with_reducible first | refine seq_normal ?_ | (refine hK _ _ ?_; clear hK K) | refine x_seq (fun K hK => ?_) | refine x_nil ?_ | refine x_block ?_ | refine x_skip ?_ | refine x_exit ?_ | refine x_ret ?_ | refine x_label ?_ | refine x_scope ?_ | (refine seq_ret ?_; clear hK K) | (refine seq_exit ?_; clear hK K) | refine block_normal ?_ | refine block_ret ?_ | refine block_exit ?_ | refine loop_exit ?_ | refine loop_ret ?_)
   | ((with_reducible refine x_reg_lit ?hq ?_); case hq => rfl)
   | ((first | (with_reducible first | refine x_op (fun K hK => ?_) | refine end_ret ?_ | refine end_normal ?_) | ((with_reducible refine x_guard_yes ?hy (fun K hK => ?_)); case hy => rfl)); simp only [go_sem, Int.cast_ofNat_Int, Nat.reduceEqDiff, Nat.reduceAdd, Nat.reduceMul, Nat.reduceLeDiff, Nat.reduceLT, Int.reduceLT, Int.reduceLE, Int.reduceEq, Int.reduceNeg, Int.reduceToNat, Nat.reducePow, reduceIte, reduceCtorEq, i7, i0, ca, hlt])
   | ((with_reducible first | refine x_guard_no ?hy ?_ | refine x_cond_true ?hy ?_); case hy => rfl)
   | ((with_reducible first | refine x_guard_none ?hy ?_ | refine x_cond_false ?hy ?_); case hy => rfl)
   | ((with_reducible refine block_exit_ne ?hy ?_); case hy => decide))
  refine x_loop (fun m e' H' => ∃ k : Nat, H' = H1 ∧ e' 14 = .int .i64 (k : Nat) ∧ k ≤ xs.length ∧ m = xs.length - k) xs.length ⟨0, rfl, rfl, Nat.zero_le _, rfl⟩ ?_
  rintro m e2 H2 ⟨k, rfl, i8, hk8, rfl⟩ hoff
  have i0 := (hoff 0 rfl).trans i0
  have i7 := (hoff 13 rfl).trans i7
  clear hoff
  by_cases hkl : k < xs.length
  ·obtain ⟨x, hxk⟩ : ∃ x, xs[k]? = some x := ⟨_, List.getElem?_eq_getElem hkl⟩
   obtain ⟨b, n, rfl, hv, c2⟩ := o1.at hxk
   simp only [Value.slice.injEq, true_and] at hv
   obtain ⟨rfl, rfl⟩ := hv
   have hxe : x = -1 - (i : Int) := hk i xs hlt hx x (List.mem_of_getElem? hxk)
   have ewk : IntKind.i64.wrap ((k : Int) + 1) = ((k + 1 : Nat) : Int) := by rw [wrap_i64] <;> omega
   have t2 : (x != -1 - (i : Int)) = false := by simp [hxe]
   repeat' (first
    | (with_reducible first | refine seq_normal ?_ | (refine hK _ _ ?_; clear hK K) | refine x_seq (fun K hK => ?_) | refine x_nil ?_ | refine x_block ?_ | refine x_skip ?_ | refine x_exit ?_ | refine x_ret ?_ | refine x_label ?_ | refine x_scope ?_ | (refine seq_ret ?_; clear hK K) | (refine seq_exit ?_; clear hK K) | refine block_normal ?_ | refine block_ret ?_ | refine block_exit ?_ | refine loop_exit ?_ | refine loop_ret ?_)
    | ((with_reducible refine x_reg_lit ?hq ?_); case hq => rfl)
    | ((first | (with_reducible first | refine x_op (fun K hK => ?_) | refine end_ret ?_ | refine end_normal ?_) | ((with_reducible refine x_guard_yes ?hy (fun K hK => ?_)); case hy => rfl)); simp only [go_sem, Int.cast_ofNat_Int, Nat.reduceEqDiff, Nat.reduceAdd, Nat.reduceMul, Nat.reduceLeDiff, Nat.reduceLT, Int.reduceLT, Int.reduceLE, Int.reduceEq, Int.reduceNeg, Int.reduceToNat, Nat.reducePow, reduceIte, reduceCtorEq, i7, i8, i0, ca, hlt, c1, hkl, c2, ey, t2, ewk])
    | ((with_reducible first | refine x_guard_no ?hy ?_ | refine x_cond_true ?hy ?_); case hy => rfl)
    | ((with_reducible first | refine x_guard_none ?hy ?_ | refine x_cond_false ?hy ?_); case hy => rfl)
    | ((with_reducible refine block_exit_ne ?hy ?_); case hy => decide))
   exact loop_normal (m' := xs.length - (k + 1)) (by omega) ⟨k + 1, rfl, rfl, hkl, rfl⟩
  ·have t1 : (k < xs.length) = False := by simp [hkl]
   repeat' (first
    | (with_reducible first | refine seq_normal ?_ | (refine hK _ _ ?_; clear hK K) | refine x_seq (fun K hK => ?_) | refine x_nil ?_ | refine x_block ?_ | refine x_skip ?_ | refine x_exit ?_ | refine x_ret ?_ | refine x_label ?_ | refine x_scope ?_ | (refine seq_ret ?_; clear hK K) | (refine seq_exit ?_; clear hK K) | refine block_normal ?_ | refine block_ret ?_ | refine block_exit ?_ | refine loop_exit ?_ | refine loop_ret ?_)
    | ((with_reducible refine x_reg_lit ?hq ?_); case hq => rfl)
    | ((first | (with_reducible first | refine x_op (fun K hK => ?_) | refine end_ret ?_ | refine end_normal ?_) | ((with_reducible refine x_guard_yes ?hy (fun K hK => ?_)); case hy => rfl)); simp only [go_sem, Int.cast_ofNat_Int, Nat.reduceEqDiff, Nat.reduceAdd, Nat.reduceMul, Nat.reduceLeDiff, Nat.reduceLT, Int.reduceLT, Int.reduceLE, Int.reduceEq, Int.reduceNeg, Int.reduceToNat, Nat.reducePow, reduceIte, reduceCtorEq, i7, i8, i0, ca, hlt, c1, t1, ew])
    | ((with_reducible first | refine x_guard_no ?hy ?_ | refine x_cond_true ?hy ?_); case hy => rfl)
    | ((with_reducible first | refine x_guard_none ?hy ?_ | refine x_cond_false ?hy ?_); case hy => rfl)
    | ((with_reducible refine block_exit_ne ?hy ?_); case hy => decide))
   exact loop_normal (m' := L.length - (i + 1)) (by omega) ⟨i + 1, rfl, rfl, hlt, rfl⟩
 ·have t1 : (i < L.length) = False := by simp [hlt]
  obtain ⟨a, c, rfl⟩ := hL.slice
  repeat' (first
   | (with_reducible first | refine seq_normal ?_ | (refine hK _ _ ?_; clear hK K) | refine x_seq (fun K hK => ?_) | refine x_nil ?_ | refine x_block ?_ | refine x_skip ?_ | refine x_exit ?_ | refine x_ret ?_ | refine x_label ?_ | refine x_scope ?_ | (refine seq_ret ?_; clear hK K) | (refine seq_exit ?_; clear hK K) | refine block_normal ?_ | refine block_ret ?_ | refine block_exit ?_ | refine loop_exit ?_ | refine loop_ret ?_)
   | ((with_reducible refine x_reg_lit ?hq ?_); case hq => rfl)
   | ((first | (with_reducible first | refine x_op (fun K hK => ?_) | refine end_ret ?_ | refine end_normal ?_) | ((with_reducible refine x_guard_yes ?hy (fun K hK => ?_)); case hy => rfl)); simp only [go_sem, Int.cast_ofNat_Int, Nat.reduceEqDiff, Nat.reduceAdd, Nat.reduceMul, Nat.reduceLeDiff, Nat.reduceLT, Int.reduceLT, Int.reduceLE, Int.reduceEq, Int.reduceNeg, Int.reduceToNat, Nat.reducePow, reduceIte, reduceCtorEq, i7, i0, ca, t1])
   | ((with_reducible first | refine x_guard_no ?hy ?_ | refine x_cond_true ?hy ?_); case hy => rfl)
   | ((with_reducible first | refine x_guard_none ?hy ?_ | refine x_cond_false ?hy ?_); case hy => rfl)
   | ((with_reducible refine block_exit_ne ?hy ?_); case hy => decide))
  exact fin _ i0
end Go.Proofs.Ytndkbhlfbeiniaa.LsSp
namespace Go.Proofs.Ytndkbhlfbeiniaa
open Go Go.Hp Go.Sp
set_option linter.all false
set_option maxRecDepth 100000
set_option maxHeartbeats 1600000
theorem DocM.items {H : Heap} {x : Nat} {col : Nat → Nat} {S : Sq} {N : Nat} (h : DocM H x col S N) : S.top ≤ 4097 ∧ ∃ a c, hcell H ⟨x, 1, none⟩ = some (.slice a S.top c) := by
 obtain ⟨A, its, inn, L, q, TR, Bi, vi, Bn, vn, TL, vl, P, R, hN⟩ := h
 have h1 := P.b.cellOf (i := 1) rfl
 obtain ⟨a, c, rfl⟩ := P.it.slice
 rw [R.ilen] at h1
 exact ⟨by rw [← R.top]; exact R.ok.len_le, a, c, h1⟩
section
variable {H : Heap} {s : Nat} {col : Nat → Nat} {S : Sq} {N : Nat} {K : Value → Heap → Prop}
theorem ends_ok (hS : SsS H s col S N) (fin : ∀ H', Fr (fun b => col b ≠ 0) H H' → K (.bool true) H') :
  CallsH Try.prog 33 #[.pointer (some ⟨s, 0, none⟩)] H K := by
 have htop : S.top ≤ 4097 := by
  obtain ⟨L, f, T, x, cx, TA, va, TW, vw, P, hL1, hL2⟩ := hS
  exact P.dc.items.1
 refine call33 (by simp) ?_
 simp only [Try.f33, Option.getD_some]
 repeat' (first|(with_reducible first|refine jA ?_|(refine hK _ _ ?_;clear hK K)|refine jJ fun K hK=>?_|refine jK ?_|refine jL ?_|refine jM ?_|refine jN ?_|refine jO ?_|refine jP ?_|refine jQ ?_|(refine jB ?_;clear hK K)|(refine jC ?_;clear hK K)|refine jD ?_|refine jE ?_|refine jG ?_|refine jH ?_|refine jI ?_)|((with_reducible refine jR ?hq ?_);case hq=>rfl)|((first|(with_reducible first|refine jS fun K hK=>?_|refine jT ?_|refine jU ?_)|((with_reducible refine jV ?hy fun K hK=>?_);case hy=>rfl));simp only [go_sem, Nat.reduceEqDiff, Nat.reduceAdd, Nat.reduceMul, Nat.reduceLeDiff, Nat.reduceLT, Int.reduceLT, Int.reduceLE, Int.reduceEq, Int.reduceNeg, Int.reduceToNat, Nat.reducePow, reduceIte, reduceCtorEq])|((with_reducible first|refine jW ?hy ?_|refine jY ?hy ?_);case hy=>rfl)|((with_reducible first|refine jX ?hy ?_|refine jZ ?hy ?_);case hy=>rfl)|((with_reducible refine jF ?hy ?_);case hy=>decide))
 refine x_loop (fun m e' H' => ∃ (i : Nat) (col' : Nat → Nat), SsS H' s col' S N ∧ Nx col col' H H' ∧ e' 3 = .int .i64 (i : Nat) ∧ i ≤ S.top + 1 ∧ m = S.top + 1 - i) (S.top + 1) ⟨0, col, hS, Nx.refl _ _, rfl, Nat.zero_le _, rfl⟩ ?_
 rintro m e1 H1 ⟨i, col1, hS1, n1, i3, hi, rfl⟩ hoff
 have i0 := (hoff 0 rfl).trans rfl
 clear hoff hS
 have hS1' := hS1
 obtain ⟨L, f, T, x, cx, TA, va, TW, vw, P, hL1, hL2⟩ := hS1
 have c1 := P.b.cellOf (i := 1) rfl
 obtain ⟨-, a, c, ci⟩ := P.dc.items
 have et : IntKind.i64.wrap ((S.top : Int) + 1) = ((S.top + 1 : Nat) : Int) := by rw [wrap_i64] <;> omega
 by_cases hlt : i < S.top + 1
 ·have ew : IntKind.i64.wrap ((i : Int) + 1) = ((i + 1 : Nat) : Int) := by rw [wrap_i64] <;> omega
  repeat' (first|(with_reducible first|refine jA ?_|(refine hK _ _ ?_;clear hK K)|refine jJ fun K hK=>?_|refine jK ?_|refine jL ?_|refine jM ?_|refine jN ?_|refine jO ?_|refine jP ?_|refine jQ ?_|(refine jB ?_;clear hK K)|(refine jC ?_;clear hK K)|refine jD ?_|refine jE ?_|refine jG ?_|refine jH ?_|refine jI ?_)|((with_reducible refine jR ?hq ?_);case hq=>rfl)|((first|(with_reducible first|refine jS fun K hK=>?_|refine jT ?_|refine jU ?_)|((with_reducible refine jV ?hy fun K hK=>?_);case hy=>rfl));simp only [go_sem, Nat.reduceEqDiff, Nat.reduceAdd, Nat.reduceMul, Nat.reduceLeDiff, Nat.reduceLT, Int.reduceLT, Int.reduceLE, Int.reduceEq, Int.reduceNeg, Int.reduceToNat, Nat.reducePow, reduceIte, reduceCtorEq, i0, i3, c1, ci, et, hlt])|((with_reducible first|refine jW ?hy ?_|refine jY ?hy ?_);case hy=>rfl)|((with_reducible first|refine jX ?hy ?_|refine jZ ?hy ?_);case hy=>rfl)|((with_reducible refine jF ?hy ?_);case hy=>decide))
  refine x_loop (fun m e' H' => ∃ (k : Nat) (col' : Nat → Nat), SsS H' s col' S N ∧ Nx col col' H H' ∧ e' 4 = .int .i64 (k : Nat) ∧ k ≤ 13 ∧ m = 13 - k) 10 ⟨3, col1, hS1', n1, rfl, by omega, rfl⟩ ?_
  rintro m e2 H2 ⟨k, col2, hS2, n2, i4, hk, rfl⟩ hoff
  have i0 := (hoff 0 rfl).trans i0
  have i3 := (hoff 3 rfl).trans i3
  clear hoff P
  by_cases hkl : k ≤ 12
  ·have tk : ((k : Int) ≤ 12) = True := by simp; omega
   have ek : IntKind.i64.wrap ((k : Int) + 1) = ((k + 1 : Nat) : Int) := by rw [wrap_i64] <;> omega
   by_cases h3 : k = 3
   ·subst h3
    repeat' (first|(with_reducible first|refine jA ?_|(refine hK _ _ ?_;clear hK K)|refine jJ fun K hK=>?_|refine jK ?_|refine jL ?_|refine jM ?_|refine jN ?_|refine jO ?_|refine jP ?_|refine jQ ?_|(refine jB ?_;clear hK K)|(refine jC ?_;clear hK K)|refine jD ?_|refine jE ?_|refine jG ?_|refine jH ?_|refine jI ?_)|((with_reducible refine jR ?hq ?_);case hq=>rfl)|((first|(with_reducible first|refine jS fun K hK=>?_|refine jT ?_|refine jU ?_)|((with_reducible refine jV ?hy fun K hK=>?_);case hy=>rfl));simp only [go_sem, Nat.reduceEqDiff, Nat.reduceAdd, Nat.reduceMul, Nat.reduceLeDiff, Nat.reduceLT, Int.reduceLT, Int.reduceLE, Int.reduceEq, Int.reduceNeg, Int.reduceToNat, Nat.reducePow, reduceIte, reduceCtorEq, i0, i3, i4, tk])|((with_reducible first|refine jW ?hy ?_|refine jY ?hy ?_);case hy=>rfl)|((with_reducible first|refine jX ?hy ?_|refine jZ ?hy ?_);case hy=>rfl)|((with_reducible refine jF ?hy ?_);case hy=>decide))
    refine asks_get (a := (i : Int)) (b := 0) (z := Sp.Item.zero) (ot := false) hS2 fun H3 col3 hS3 n3 => ?_
    repeat' (first|(with_reducible first|refine jA ?_|(refine hK _ _ ?_;clear hK K)|refine jJ fun K hK=>?_|refine jK ?_|refine jL ?_|refine jM ?_|refine jN ?_|refine jO ?_|refine jP ?_|refine jQ ?_|(refine jB ?_;clear hK K)|(refine jC ?_;clear hK K)|refine jD ?_|refine jE ?_|refine jG ?_|refine jH ?_|refine jI ?_)|((with_reducible refine jR ?hq ?_);case hq=>rfl)|((first|(with_reducible first|refine jS fun K hK=>?_|refine jT ?_|refine jU ?_)|((with_reducible refine jV ?hy fun K hK=>?_);case hy=>rfl));simp only [go_sem, Nat.reduceEqDiff, Nat.reduceAdd, Nat.reduceMul, Nat.reduceLeDiff, Nat.reduceLT, Int.reduceLT, Int.reduceLE, Int.reduceEq, Int.reduceNeg, Int.reduceToNat, Nat.reducePow, reduceIte, reduceCtorEq, i0, i3, i4])|((with_reducible first|refine jW ?hy ?_|refine jY ?hy ?_);case hy=>rfl)|((with_reducible first|refine jX ?hy ?_|refine jZ ?hy ?_);case hy=>rfl)|((with_reducible refine jF ?hy ?_);case hy=>decide))
    exact loop_normal (m' := 9) (by omega) ⟨4, col3, hS3, n2.trans n3, rfl, by omega, rfl⟩
   have q83 : ((8 : Int) == 3) = false := rfl
   have q88 : ((8 : Int) == 8) = true := rfl
   have q103 : ((10 : Int) == 3) = false := rfl
   have q108 : ((10 : Int) == 8) = false := rfl
   have q1010 : ((10 : Int) == 10) = true := rfl
   by_cases h8 : k = 8
   ·subst h8
    repeat' (first|(with_reducible first|refine jA ?_|(refine hK _ _ ?_;clear hK K)|refine jJ fun K hK=>?_|refine jK ?_|refine jL ?_|refine jM ?_|refine jN ?_|refine jO ?_|refine jP ?_|refine jQ ?_|(refine jB ?_;clear hK K)|(refine jC ?_;clear hK K)|refine jD ?_|refine jE ?_|refine jG ?_|refine jH ?_|refine jI ?_)|((with_reducible refine jR ?hq ?_);case hq=>rfl)|((first|(with_reducible first|refine jS fun K hK=>?_|refine jT ?_|refine jU ?_)|((with_reducible refine jV ?hy fun K hK=>?_);case hy=>rfl));simp only [go_sem, Nat.reduceEqDiff, Nat.reduceAdd, Nat.reduceMul, Nat.reduceLeDiff, Nat.reduceLT, Int.reduceLT, Int.reduceLE, Int.reduceEq, Int.reduceNeg, Int.reduceToNat, Nat.reducePow, reduceIte, reduceCtorEq, i0, i3, i4, tk, q83, q88])|((with_reducible first|refine jW ?hy ?_|refine jY ?hy ?_);case hy=>rfl)|((with_reducible first|refine jX ?hy ?_|refine jZ ?hy ?_);case hy=>rfl)|((with_reducible refine jF ?hy ?_);case hy=>decide))
    refine asks_rank (a := (i : Int)) (b := 0) (z := Sp.Item.zero) (ot := false) hS2 fun H3 col3 hS3 n3 => ?_
    repeat' (first|(with_reducible first|refine jA ?_|(refine hK _ _ ?_;clear hK K)|refine jJ fun K hK=>?_|refine jK ?_|refine jL ?_|refine jM ?_|refine jN ?_|refine jO ?_|refine jP ?_|refine jQ ?_|(refine jB ?_;clear hK K)|(refine jC ?_;clear hK K)|refine jD ?_|refine jE ?_|refine jG ?_|refine jH ?_|refine jI ?_)|((with_reducible refine jR ?hq ?_);case hq=>rfl)|((first|(with_reducible first|refine jS fun K hK=>?_|refine jT ?_|refine jU ?_)|((with_reducible refine jV ?hy fun K hK=>?_);case hy=>rfl));simp only [go_sem, Nat.reduceEqDiff, Nat.reduceAdd, Nat.reduceMul, Nat.reduceLeDiff, Nat.reduceLT, Int.reduceLT, Int.reduceLE, Int.reduceEq, Int.reduceNeg, Int.reduceToNat, Nat.reducePow, reduceIte, reduceCtorEq, i0, i3, i4])|((with_reducible first|refine jW ?hy ?_|refine jY ?hy ?_);case hy=>rfl)|((with_reducible first|refine jX ?hy ?_|refine jZ ?hy ?_);case hy=>rfl)|((with_reducible refine jF ?hy ?_);case hy=>decide))
    exact loop_normal (m' := 4) (by omega) ⟨9, col3, hS3, n2.trans n3, rfl, by omega, rfl⟩
   by_cases h10 : k = 10
   ·subst h10
    repeat' (first|(with_reducible first|refine jA ?_|(refine hK _ _ ?_;clear hK K)|refine jJ fun K hK=>?_|refine jK ?_|refine jL ?_|refine jM ?_|refine jN ?_|refine jO ?_|refine jP ?_|refine jQ ?_|(refine jB ?_;clear hK K)|(refine jC ?_;clear hK K)|refine jD ?_|refine jE ?_|refine jG ?_|refine jH ?_|refine jI ?_)|((with_reducible refine jR ?hq ?_);case hq=>rfl)|((first|(with_reducible first|refine jS fun K hK=>?_|refine jT ?_|refine jU ?_)|((with_reducible refine jV ?hy fun K hK=>?_);case hy=>rfl));simp only [go_sem, Nat.reduceEqDiff, Nat.reduceAdd, Nat.reduceMul, Nat.reduceLeDiff, Nat.reduceLT, Int.reduceLT, Int.reduceLE, Int.reduceEq, Int.reduceNeg, Int.reduceToNat, Nat.reducePow, reduceIte, reduceCtorEq, i0, i3, i4, tk, q103, q108, q1010])|((with_reducible first|refine jW ?hy ?_|refine jY ?hy ?_);case hy=>rfl)|((with_reducible first|refine jX ?hy ?_|refine jZ ?hy ?_);case hy=>rfl)|((with_reducible refine jF ?hy ?_);case hy=>decide))
    refine asks_sum (a := (i : Int)) (b := 0) (z := Sp.Item.zero) (ot := false) hS2 fun H3 col3 hS3 n3 => ?_
    repeat' (first|(with_reducible first|refine jA ?_|(refine hK _ _ ?_;clear hK K)|refine jJ fun K hK=>?_|refine jK ?_|refine jL ?_|refine jM ?_|refine jN ?_|refine jO ?_|refine jP ?_|refine jQ ?_|(refine jB ?_;clear hK K)|(refine jC ?_;clear hK K)|refine jD ?_|refine jE ?_|refine jG ?_|refine jH ?_|refine jI ?_)|((with_reducible refine jR ?hq ?_);case hq=>rfl)|((first|(with_reducible first|refine jS fun K hK=>?_|refine jT ?_|refine jU ?_)|((with_reducible refine jV ?hy fun K hK=>?_);case hy=>rfl));simp only [go_sem, Nat.reduceEqDiff, Nat.reduceAdd, Nat.reduceMul, Nat.reduceLeDiff, Nat.reduceLT, Int.reduceLT, Int.reduceLE, Int.reduceEq, Int.reduceNeg, Int.reduceToNat, Nat.reducePow, reduceIte, reduceCtorEq, i0, i3, i4])|((with_reducible first|refine jW ?hy ?_|refine jY ?hy ?_);case hy=>rfl)|((with_reducible first|refine jX ?hy ?_|refine jZ ?hy ?_);case hy=>rfl)|((with_reducible refine jF ?hy ?_);case hy=>decide))
    exact loop_normal (m' := 2) (by omega) ⟨11, col3, hS3, n2.trans n3, rfl, by omega, rfl⟩
   have t3 : ((k : Int) == 3) = false := by simp; omega
   have t8 : ((k : Int) == 8) = false := by simp; omega
   have t10 : ((k : Int) == 10) = false := by simp; omega
   repeat' (first|(with_reducible first|refine jA ?_|(refine hK _ _ ?_;clear hK K)|refine jJ fun K hK=>?_|refine jK ?_|refine jL ?_|refine jM ?_|refine jN ?_|refine jO ?_|refine jP ?_|refine jQ ?_|(refine jB ?_;clear hK K)|(refine jC ?_;clear hK K)|refine jD ?_|refine jE ?_|refine jG ?_|refine jH ?_|refine jI ?_)|((with_reducible refine jR ?hq ?_);case hq=>rfl)|((first|(with_reducible first|refine jS fun K hK=>?_|refine jT ?_|refine jU ?_)|((with_reducible refine jV ?hy fun K hK=>?_);case hy=>rfl));simp only [go_sem, Nat.reduceEqDiff, Nat.reduceAdd, Nat.reduceMul, Nat.reduceLeDiff, Nat.reduceLT, Int.reduceLT, Int.reduceLE, Int.reduceEq, Int.reduceNeg, Int.reduceToNat, Nat.reducePow, reduceIte, reduceCtorEq, i0, i3, i4, tk, t3, t8, t10, ek])|((with_reducible first|refine jW ?hy ?_|refine jY ?hy ?_);case hy=>rfl)|((with_reducible first|refine jX ?hy ?_|refine jZ ?hy ?_);case hy=>rfl)|((with_reducible refine jF ?hy ?_);case hy=>decide))
   exact loop_normal (m' := 13 - (k + 1)) (by omega) ⟨k + 1, col2, hS2, n2, rfl, by omega, rfl⟩
  ·have tk : ((k : Int) ≤ 12) = False := by simp; omega
   repeat' (first|(with_reducible first|refine jA ?_|(refine hK _ _ ?_;clear hK K)|refine jJ fun K hK=>?_|refine jK ?_|refine jL ?_|refine jM ?_|refine jN ?_|refine jO ?_|refine jP ?_|refine jQ ?_|(refine jB ?_;clear hK K)|(refine jC ?_;clear hK K)|refine jD ?_|refine jE ?_|refine jG ?_|refine jH ?_|refine jI ?_)|((with_reducible refine jR ?hq ?_);case hq=>rfl)|((first|(with_reducible first|refine jS fun K hK=>?_|refine jT ?_|refine jU ?_)|((with_reducible refine jV ?hy fun K hK=>?_);case hy=>rfl));simp only [go_sem, Nat.reduceEqDiff, Nat.reduceAdd, Nat.reduceMul, Nat.reduceLeDiff, Nat.reduceLT, Int.reduceLT, Int.reduceLE, Int.reduceEq, Int.reduceNeg, Int.reduceToNat, Nat.reducePow, reduceIte, reduceCtorEq, i0, i3, i4, tk, ew])|((with_reducible first|refine jW ?hy ?_|refine jY ?hy ?_);case hy=>rfl)|((with_reducible first|refine jX ?hy ?_|refine jZ ?hy ?_);case hy=>rfl)|((with_reducible refine jF ?hy ?_);case hy=>decide))
   exact loop_normal (m' := S.top + 1 - (i + 1)) (by omega) ⟨i + 1, col2, hS2, n2, rfl, hlt, rfl⟩
 have hlt' : (i < S.top + 1) = False := by simp; omega
 repeat' (first|(with_reducible first|refine jA ?_|(refine hK _ _ ?_;clear hK K)|refine jJ fun K hK=>?_|refine jK ?_|refine jL ?_|refine jM ?_|refine jN ?_|refine jO ?_|refine jP ?_|refine jQ ?_|(refine jB ?_;clear hK K)|(refine jC ?_;clear hK K)|refine jD ?_|refine jE ?_|refine jG ?_|refine jH ?_|refine jI ?_)|((with_reducible refine jR ?hq ?_);case hq=>rfl)|((first|(with_reducible first|refine jS fun K hK=>?_|refine jT ?_|refine jU ?_)|((with_reducible refine jV ?hy fun K hK=>?_);case hy=>rfl));simp only [go_sem, Nat.reduceEqDiff, Nat.reduceAdd, Nat.reduceMul, Nat.reduceLeDiff, Nat.reduceLT, Int.reduceLT, Int.reduceLE, Int.reduceEq, Int.reduceNeg, Int.reduceToNat, Nat.reducePow, reduceIte, reduceCtorEq, i0, i3, c1, ci, et, hlt'])|((with_reducible first|refine jW ?hy ?_|refine jY ?hy ?_);case hy=>rfl)|((with_reducible first|refine jX ?hy ?_|refine jZ ?hy ?_);case hy=>rfl)|((with_reducible refine jF ?hy ?_);case hy=>decide))
 have hne4 : ∀ b, col1 b ≠ 4 → ¬ TA b := fun b hb e => hb (P.ca b e)
 have hnes := hne4 s (by rw [P.cs]; decide)
 refine LsSp.same (hdr := _) i0 rfl P.b rfl rfl P.la P.lw (by omega) hL2 (by decide) fun e2 i0 => ?_
 repeat' (first|(with_reducible first|refine jA ?_|(refine hK _ _ ?_;clear hK K)|refine jJ fun K hK=>?_|refine jK ?_|refine jL ?_|refine jM ?_|refine jN ?_|refine jO ?_|refine jP ?_|refine jQ ?_|(refine jB ?_;clear hK K)|(refine jC ?_;clear hK K)|refine jD ?_|refine jE ?_|refine jG ?_|refine jH ?_|refine jI ?_)|((with_reducible refine jR ?hq ?_);case hq=>rfl)|((first|(with_reducible first|refine jS fun K hK=>?_|refine jT ?_|refine jU ?_)|((with_reducible refine jV ?hy fun K hK=>?_);case hy=>rfl));simp only [go_sem, Nat.reduceEqDiff, Nat.reduceAdd, Nat.reduceMul, Nat.reduceLeDiff, Nat.reduceLT, Int.reduceLT, Int.reduceLE, Int.reduceEq, Int.reduceNeg, Int.reduceToNat, Nat.reducePow, reduceIte, reduceCtorEq])|((with_reducible first|refine jW ?hy ?_|refine jY ?hy ?_);case hy=>rfl)|((with_reducible first|refine jX ?hy ?_|refine jZ ?hy ?_);case hy=>rfl)|((with_reducible refine jF ?hy ?_);case hy=>decide))
 refine LsSp.mark (hdr := _) i0 rfl P.b rfl P.la hnes (by omega) hL2 (by decide) fun e3 H2 L2 i0 hL2' hl2 hs2 hk2 hf2 => ?_
 repeat' (first|(with_reducible first|refine jA ?_|(refine hK _ _ ?_;clear hK K)|refine jJ fun K hK=>?_|refine jK ?_|refine jL ?_|refine jM ?_|refine jN ?_|refine jO ?_|refine jP ?_|refine jQ ?_|(refine jB ?_;clear hK K)|(refine jC ?_;clear hK K)|refine jD ?_|refine jE ?_|refine jG ?_|refine jH ?_|refine jI ?_)|((with_reducible refine jR ?hq ?_);case hq=>rfl)|((first|(with_reducible first|refine jS fun K hK=>?_|refine jT ?_|refine jU ?_)|((with_reducible refine jV ?hy fun K hK=>?_);case hy=>rfl));simp only [go_sem, Nat.reduceEqDiff, Nat.reduceAdd, Nat.reduceMul, Nat.reduceLeDiff, Nat.reduceLT, Int.reduceLT, Int.reduceLE, Int.reduceEq, Int.reduceNeg, Int.reduceToNat, Nat.reducePow, reduceIte, reduceCtorEq])|((with_reducible first|refine jW ?hy ?_|refine jY ?hy ?_);case hy=>rfl)|((with_reducible first|refine jX ?hy ?_|refine jZ ?hy ?_);case hy=>rfl)|((with_reducible refine jF ?hy ?_);case hy=>decide))
 refine LsSp.grow (hdr := _) i0 rfl (P.b.frame hf2 hnes) rfl hL2' hnes (by omega) hs2 (by decide) (by rw [hl2]; exact hk2) fun e4 H3 T3 L3 i0 hL3 hl3 hk3 hs3 hT3 hf3 => ?_
 have hf13 : Fr TA H1 H3 := hf2.trans hf3
 repeat' (first|(with_reducible first|refine jA ?_|(refine hK _ _ ?_;clear hK K)|refine jJ fun K hK=>?_|refine jK ?_|refine jL ?_|refine jM ?_|refine jN ?_|refine jO ?_|refine jP ?_|refine jQ ?_|(refine jB ?_;clear hK K)|(refine jC ?_;clear hK K)|refine jD ?_|refine jE ?_|refine jG ?_|refine jH ?_|refine jI ?_)|((with_reducible refine jR ?hq ?_);case hq=>rfl)|((first|(with_reducible first|refine jS fun K hK=>?_|refine jT ?_|refine jU ?_)|((with_reducible refine jV ?hy fun K hK=>?_);case hy=>rfl));simp only [go_sem, Nat.reduceEqDiff, Nat.reduceAdd, Nat.reduceMul, Nat.reduceLeDiff, Nat.reduceLT, Int.reduceLT, Int.reduceLE, Int.reduceEq, Int.reduceNeg, Int.reduceToNat, Nat.reducePow, reduceIte, reduceCtorEq])|((with_reducible first|refine jW ?hy ?_|refine jY ?hy ?_);case hy=>rfl)|((with_reducible first|refine jX ?hy ?_|refine jZ ?hy ?_);case hy=>rfl)|((with_reducible refine jF ?hy ?_);case hy=>decide))
 refine LsSp.check (hdr := _) i0 rfl (P.b.frame hf13 hnes) rfl hL3 (by omega) hs3 (by decide) (by rw [hl3]; exact hk3) fun e5 i0 => ?_
 repeat' (first|(with_reducible first|refine jA ?_|(refine hK _ _ ?_;clear hK K)|refine jJ fun K hK=>?_|refine jK ?_|refine jL ?_|refine jM ?_|refine jN ?_|refine jO ?_|refine jP ?_|refine jQ ?_|(refine jB ?_;clear hK K)|(refine jC ?_;clear hK K)|refine jD ?_|refine jE ?_|refine jG ?_|refine jH ?_|refine jI ?_)|((with_reducible refine jR ?hq ?_);case hq=>rfl)|((first|(with_reducible first|refine jS fun K hK=>?_|refine jT ?_|refine jU ?_)|((with_reducible refine jV ?hy fun K hK=>?_);case hy=>rfl));simp only [go_sem, Nat.reduceEqDiff, Nat.reduceAdd, Nat.reduceMul, Nat.reduceLeDiff, Nat.reduceLT, Int.reduceLT, Int.reduceLE, Int.reduceEq, Int.reduceNeg, Int.reduceToNat, Nat.reducePow, reduceIte, reduceCtorEq])|((with_reducible first|refine jW ?hy ?_|refine jY ?hy ?_);case hy=>rfl)|((with_reducible first|refine jX ?hy ?_|refine jZ ?hy ?_);case hy=>rfl)|((with_reducible refine jF ?hy ?_);case hy=>decide))
 refine fin _ (n1.fr.trans' hf13 fun b hb e => ?_)
 rcases n1.own b (by rw [P.ca b e]; decide) with h | h
 ·exact h
 ·omega
end
end Go.Proofs.Ytndkbhlfbeiniaa
namespace Go.Proofs.Ytndkbhlfbeiniaa
open Go Go.Hp Go.Sp
set_option linter.all false

structure OpR where
 kind : Int
 a : Int
 b : Int
 x : Sp.Item
 other : Bool
def OpR.val (o : OpR) : Value := .agg #[.int .i64 o.kind, .int .i64 o.a, .int .i64 o.b, .int .i64 o.x.value, .bool o.x.counts, .int .i64 o.x.flags, .bool o.other]
def OpR.cells (o : OpR) : List Value := [.int .i64 o.kind, .int .i64 o.a, .int .i64 o.b, .int .i64 o.x.value, .bool o.x.counts, .int .i64 o.x.flags, .bool o.other]
structure OpR.Fit (o : OpR) : Prop where
 x : Fits o.x
 b0 : -9223372036854775808 ≤ o.b
 b1 : o.b ≤ 9223372036854775807
def InOps (H : Heap) (a : Option Addr) (len : Nat) (zs : Nat → OpR) : Prop :=
 ∀ i, i < len → ∃ p : Addr, a = some p ∧ (hcell H (p.add (i * 7)) = some (.int .i64 (zs i).kind) ∧ hcell H ⟨(p.add (i * 7)).block, (p.add (i * 7)).off + 1, none⟩ = some (.int .i64 (zs i).a) ∧ hcell H ⟨(p.add (i * 7)).block, (p.add (i * 7)).off + 2, none⟩ = some (.int .i64 (zs i).b) ∧
  hcell H ⟨(p.add (i * 7)).block, (p.add (i * 7)).off + 3, none⟩ = some (.int .i64 (zs i).x.value) ∧ hcell H ⟨(p.add (i * 7)).block, (p.add (i * 7)).off + 4, none⟩ = some (.bool (zs i).x.counts) ∧ hcell H ⟨(p.add (i * 7)).block, (p.add (i * 7)).off + 5, none⟩ = some (.int .i64 (zs i).x.flags) ∧
  hcell H ⟨(p.add (i * 7)).block, (p.add (i * 7)).off + 6, none⟩ = some (.bool (zs i).other)) ∧ (zs i).Fit
theorem InOps.frame {H H' : Heap} {a : Option Addr} {len : Nat} {zs : Nat → OpR} (h : InOps H a len zs) (hf : Fr (fun _ => False) H H') : InOps H' a len zs := fun i hi => by
 obtain ⟨p, h1, ⟨c0, c1, c2, c3, c4, c5, c6⟩, h5⟩ := h i hi
 have mv : ∀ {a : Addr} {v : Value}, hcell H a = some v → hcell H' a = some v := fun h => by rw [hf.cell (hcell_lt h) (fun h => h)]; exact h
 exact ⟨p, h1, ⟨mv c0, mv c1, mv c2, mv c3, mv c4, mv c5, mv c6⟩, h5⟩
end Go.Proofs.Ytndkbhlfbeiniaa
namespace Go.Proofs.Ytndkbhlfbeiniaa
open Go Go.Hp Go.Sp
set_option linter.all false
set_option maxRecDepth 100000
set_option maxHeartbeats 1600000
structure TwoP (H0 H : Heap) (s t : Nat) (cs ct : Nat → Nat) (N : Nat) : Prop where
 a : ∃ S, SsS H s cs S N
 b : ∃ S, SsS H t ct S N
 fr : Fr (fun _ => False) H0 H
 na : ∀ b, cs b ≠ 0 → H0.size ≤ b
 nb : ∀ b, ct b ≠ 0 → H0.size ≤ b
 ap : ∀ b, cs b ≠ 0 → ct b ≠ 0 → False
section
variable {H0 H H' : Heap} {s t : Nat} {cs ct c' : Nat → Nat} {N M : Nat} {S : Sq}
theorem TwoP.opA (h : TwoP H0 H s t cs ct N) (hNM : N ≤ M) (hs : SsS H' s c' S M) (n : Nx cs c' H H') : TwoP H0 H' s t c' ct M := by
 obtain ⟨Sb, hb⟩ := h.b
 refine ⟨⟨S, hs⟩, ⟨Sb, (hb.grow n.fr fun b hb e => h.ap b e hb).more hNM⟩, h.fr.trans' n.fr fun b hb e => by have := h.na b e; omega, fun b hb => ?_, h.nb, fun b hb' hc => ?_⟩
 ·rcases n.own b hb with e | e
  ·exact h.na b e
  ·exact Nat.le_trans h.fr.size e
 ·rcases n.own b hb' with e | e
  ·exact h.ap b e hc
  ·have := hb.lt hc; omega
theorem TwoP.opB (h : TwoP H0 H s t cs ct N) (hNM : N ≤ M) (hs : SsS H' t c' S M) (n : Nx ct c' H H') : TwoP H0 H' s t cs c' M := by
 obtain ⟨Sa, ha⟩ := h.a
 refine ⟨⟨Sa, (ha.grow n.fr fun b hb e => h.ap b hb e).more hNM⟩, ⟨S, hs⟩, h.fr.trans' n.fr fun b hb e => by have := h.nb b e; omega, h.na, fun b hb => ?_, fun b hb hc => ?_⟩
 ·rcases n.own b hb with e | e
  ·exact h.nb b e
  ·exact Nat.le_trans h.fr.size e
 ·rcases n.own b hc with e | e
  ·exact h.ap b hb e
  ·have := ha.lt hb; omega
theorem TwoP.more (h : TwoP H0 H s t cs ct N) (hNM : N ≤ M) : TwoP H0 H s t cs ct M := by
 obtain ⟨Sa, ha⟩ := h.a
 obtain ⟨Sb, hb⟩ := h.b
 exact { h with a := ⟨Sa, ha.more hNM⟩, b := ⟨Sb, hb.more hNM⟩ }
end
open Classical in
noncomputable def colP (s : Nat) (T : Nat → Prop) (cx : Nat → Nat) (b : Nat) : Nat := if b = s then 1 else if T b then 2 else if cx b ≠ 0 then 3 else 0
theorem SsS.init {H : Heap} {s f x n : Nat} {T : Nat → Prop} {cx : Nat → Nat} (hF : FoM H f T (Sq.new n)) (hD : DocM H x cx (Sq.new n) 0)
  (hb : Blk H s [.pointer (some ⟨f, 0, none⟩), .pointer (some ⟨x, 0, none⟩), .slice none 0 0, .slice none 0 0]) (h1 : ¬ T s) (h2 : cx s = 0) (h3 : ∀ b, T b → cx b = 0) :
  SsS H s (colP s T cx) (Sq.new n) 0 ∧ ∀ b, colP s T cx b ≠ 0 → b = s ∨ T b ∨ cx b ≠ 0 := by
 have hc : ∀ b, colP s T cx b ≠ 0 → b = s ∨ T b ∨ cx b ≠ 0 := by
  intro b h
  unfold colP at h
  by_cases e1 : b = s
  ·exact .inl e1
  rw [if_neg e1] at h
  by_cases e2 : T b
  ·exact .inr (.inl e2)
  rw [if_neg e2] at h
  by_cases e3 : cx b ≠ 0
  ·exact .inr (.inr e3)
  rw [if_neg e3] at h
  exact absurd rfl h
 refine ⟨⟨[], f, T, x, cx, fun _ => False, _, fun _ => False, _, ⟨hb, hF, hD, LL.nil _ _, LL.nil _ _, if_pos rfl, fun b hT => ?_, fun b h => ?_, fun b h => h.elim, fun b h => h.elim, fun b h => ?_⟩, by simp, fun j xs h => (by cases h)⟩, hc⟩
 ·unfold colP; rw [if_neg (fun e => h1 (by rw [← e]; exact hT)), if_pos hT]
 ·unfold colP; rw [if_neg (fun e => h (by rw [e]; exact h2)), if_neg (fun e => h (h3 b e)), if_pos h]
 ·rcases hc b h with rfl | h | h
  ·exact hb.lt
  ·exact hF.lt h
  ·exact hD.lt h
section
variable {H0 H : Heap} {e : Env} {Q : HX → Env → Heap → Prop} {s t : Nat} {cs ct : Nat → Nat}
theorem splayLoop {a : Option Addr} {n c : Nat} {zs : Nat → OpR} (hin : InOps H0 a n zs) (hn : n ≤ 2999999999999) (hT : TwoP H0 H s t cs ct 0)
  (e2 : e 2 = .slice a n c) (e16 : e 16 = .pointer (some ⟨s, 0, none⟩)) (e17 : e 17 = .pointer (some ⟨t, 0, none⟩)) (e18 : e 18 = .int .i64 0)
  (fin : ∀ e' H' cs' ct', e' 16 = .pointer (some ⟨s, 0, none⟩) → e' 17 = .pointer (some ⟨t, 0, none⟩) → TwoP H0 H' s t cs' ct' n → Q .normal e' H') :
  codeX Try.prog [] (loopAt Try.f9.body 0) (blockQ 0 Q) e H := by
 refine x_loop (fun m e' H' => ∃ (i : Nat) (cs' ct' : Nat → Nat), e' 18 = .int .i64 (i : Nat) ∧ TwoP H0 H' s t cs' ct' i ∧ i ≤ n ∧ m = n - i) n ⟨0, cs, ct, e18, hT, Nat.zero_le _, rfl⟩ ?_
 rintro m e1 H1 ⟨i, cs1, ct1, i18, hT1, hi, rfl⟩ hoff
 have i2 := (hoff 2 rfl).trans e2
 have i16 := (hoff 16 rfl).trans e16
 have i17 := (hoff 17 rfl).trans e17
 clear hoff e2 e16 e17 e18
 by_cases hlt : i < n
 ·have ew : IntKind.i64.wrap ((i : Int) + 1) = ((i + 1 : Nat) : Int) := by rw [wrap_i64] <;> omega
  obtain ⟨p, rfl, ⟨c0, c1, c2, c3, c4, c5, c6⟩, hfit⟩ := (hin.frame hT1.fr) i hlt
  cases hot : (zs i).other with
  | true =>
   rw [hot] at c6
   repeat' (first|(with_reducible first|refine jA ?_|(refine hK _ _ ?_;clear hK K)|refine jJ fun K hK=>?_|refine jK ?_|refine jL ?_|refine jM ?_|refine jN ?_|refine jO ?_|refine jP ?_|refine jQ ?_|(refine jB ?_;clear hK K)|(refine jC ?_;clear hK K)|refine jD ?_|refine jE ?_|refine jG ?_|refine jH ?_|refine jI ?_)|((with_reducible refine jR ?hq ?_);case hq=>rfl)|((first|(with_reducible first|refine jS fun K hK=>?_|refine jT ?_|refine jU ?_)|((with_reducible refine jV ?hy fun K hK=>?_);case hy=>rfl));simp only [go_sem, Nat.reduceEqDiff, Nat.reduceAdd, Nat.reduceMul, Nat.reduceLeDiff, Nat.reduceLT, Int.reduceLT, Int.reduceLE, Int.reduceEq, Int.reduceNeg, Int.reduceToNat, Nat.reducePow, reduceIte, reduceCtorEq, i2, i16, i17, i18, hlt, c0, c1, c2, c3, c4, c5, c6])|((with_reducible first|refine jW ?hy ?_|refine jY ?hy ?_);case hy=>rfl)|((with_reducible first|refine jX ?hy ?_|refine jZ ?hy ?_);case hy=>rfl)|((with_reducible refine jF ?hy ?_);case hy=>decide))
   obtain ⟨Sb, hb⟩ := hT1.b
   refine changes_ok (k := (zs i).kind) (a := (zs i).a) (b := (zs i).b) (z := (zs i).x) (ot := true) hfit.x (by omega) hb fun H2 c2 S2 hS2 n2 => ?_
   have hT2 := hT1.opB (Nat.le_succ i) hS2 n2
   obtain ⟨p', hp', ⟨c0, c1, c2, c3, c4, c5, c6⟩, _⟩ := (hin.frame hT2.fr) i hlt
   obtain rfl := Option.some.inj hp'
   rw [hot] at c6
   repeat' (first|(with_reducible first|refine jA ?_|(refine hK _ _ ?_;clear hK K)|refine jJ fun K hK=>?_|refine jK ?_|refine jL ?_|refine jM ?_|refine jN ?_|refine jO ?_|refine jP ?_|refine jQ ?_|(refine jB ?_;clear hK K)|(refine jC ?_;clear hK K)|refine jD ?_|refine jE ?_|refine jG ?_|refine jH ?_|refine jI ?_)|((with_reducible refine jR ?hq ?_);case hq=>rfl)|((first|(with_reducible first|refine jS fun K hK=>?_|refine jT ?_|refine jU ?_)|((with_reducible refine jV ?hy fun K hK=>?_);case hy=>rfl));simp only [go_sem, Nat.reduceEqDiff, Nat.reduceAdd, Nat.reduceMul, Nat.reduceLeDiff, Nat.reduceLT, Int.reduceLT, Int.reduceLE, Int.reduceEq, Int.reduceNeg, Int.reduceToNat, Nat.reducePow, reduceIte, reduceCtorEq, i2, i16, i17, i18, hlt, c0, c1, c2, c3, c4, c5, c6])|((with_reducible first|refine jW ?hy ?_|refine jY ?hy ?_);case hy=>rfl)|((with_reducible first|refine jX ?hy ?_|refine jZ ?hy ?_);case hy=>rfl)|((with_reducible refine jF ?hy ?_);case hy=>decide))
   refine asks_ok (k := (zs i).kind) (a := (zs i).a) (b := (zs i).b) (z := (zs i).x) (ot := true) hfit.b0 hfit.b1 hS2 fun H3 c3' hS3 n3 => ?_
   have hT3 := hT2.opB (Nat.le_refl _) hS3 n3
   repeat' (first|(with_reducible first|refine jA ?_|(refine hK _ _ ?_;clear hK K)|refine jJ fun K hK=>?_|refine jK ?_|refine jL ?_|refine jM ?_|refine jN ?_|refine jO ?_|refine jP ?_|refine jQ ?_|(refine jB ?_;clear hK K)|(refine jC ?_;clear hK K)|refine jD ?_|refine jE ?_|refine jG ?_|refine jH ?_|refine jI ?_)|((with_reducible refine jR ?hq ?_);case hq=>rfl)|((first|(with_reducible first|refine jS fun K hK=>?_|refine jT ?_|refine jU ?_)|((with_reducible refine jV ?hy fun K hK=>?_);case hy=>rfl));simp only [go_sem, Nat.reduceEqDiff, Nat.reduceAdd, Nat.reduceMul, Nat.reduceLeDiff, Nat.reduceLT, Int.reduceLT, Int.reduceLE, Int.reduceEq, Int.reduceNeg, Int.reduceToNat, Nat.reducePow, reduceIte, reduceCtorEq, i18, ew])|((with_reducible first|refine jW ?hy ?_|refine jY ?hy ?_);case hy=>rfl)|((with_reducible first|refine jX ?hy ?_|refine jZ ?hy ?_);case hy=>rfl)|((with_reducible refine jF ?hy ?_);case hy=>decide))
   exact loop_normal (m' := n - (i + 1)) (by omega) ⟨i + 1, _, _, rfl, hT3, hlt, rfl⟩
  | false =>
   rw [hot] at c6
   repeat' (first|(with_reducible first|refine jA ?_|(refine hK _ _ ?_;clear hK K)|refine jJ fun K hK=>?_|refine jK ?_|refine jL ?_|refine jM ?_|refine jN ?_|refine jO ?_|refine jP ?_|refine jQ ?_|(refine jB ?_;clear hK K)|(refine jC ?_;clear hK K)|refine jD ?_|refine jE ?_|refine jG ?_|refine jH ?_|refine jI ?_)|((with_reducible refine jR ?hq ?_);case hq=>rfl)|((first|(with_reducible first|refine jS fun K hK=>?_|refine jT ?_|refine jU ?_)|((with_reducible refine jV ?hy fun K hK=>?_);case hy=>rfl));simp only [go_sem, Nat.reduceEqDiff, Nat.reduceAdd, Nat.reduceMul, Nat.reduceLeDiff, Nat.reduceLT, Int.reduceLT, Int.reduceLE, Int.reduceEq, Int.reduceNeg, Int.reduceToNat, Nat.reducePow, reduceIte, reduceCtorEq, i2, i16, i17, i18, hlt, c0, c1, c2, c3, c4, c5, c6])|((with_reducible first|refine jW ?hy ?_|refine jY ?hy ?_);case hy=>rfl)|((with_reducible first|refine jX ?hy ?_|refine jZ ?hy ?_);case hy=>rfl)|((with_reducible refine jF ?hy ?_);case hy=>decide))
   obtain ⟨Sa, ha⟩ := hT1.a
   refine changes_ok (k := (zs i).kind) (a := (zs i).a) (b := (zs i).b) (z := (zs i).x) (ot := false) hfit.x (by omega) ha fun H2 c2 S2 hS2 n2 => ?_
   have hT2 := hT1.opA (Nat.le_succ i) hS2 n2
   obtain ⟨p', hp', ⟨c0, c1, c2, c3, c4, c5, c6⟩, _⟩ := (hin.frame hT2.fr) i hlt
   obtain rfl := Option.some.inj hp'
   rw [hot] at c6
   repeat' (first|(with_reducible first|refine jA ?_|(refine hK _ _ ?_;clear hK K)|refine jJ fun K hK=>?_|refine jK ?_|refine jL ?_|refine jM ?_|refine jN ?_|refine jO ?_|refine jP ?_|refine jQ ?_|(refine jB ?_;clear hK K)|(refine jC ?_;clear hK K)|refine jD ?_|refine jE ?_|refine jG ?_|refine jH ?_|refine jI ?_)|((with_reducible refine jR ?hq ?_);case hq=>rfl)|((first|(with_reducible first|refine jS fun K hK=>?_|refine jT ?_|refine jU ?_)|((with_reducible refine jV ?hy fun K hK=>?_);case hy=>rfl));simp only [go_sem, Nat.reduceEqDiff, Nat.reduceAdd, Nat.reduceMul, Nat.reduceLeDiff, Nat.reduceLT, Int.reduceLT, Int.reduceLE, Int.reduceEq, Int.reduceNeg, Int.reduceToNat, Nat.reducePow, reduceIte, reduceCtorEq, i2, i16, i17, i18, hlt, c0, c1, c2, c3, c4, c5, c6])|((with_reducible first|refine jW ?hy ?_|refine jY ?hy ?_);case hy=>rfl)|((with_reducible first|refine jX ?hy ?_|refine jZ ?hy ?_);case hy=>rfl)|((with_reducible refine jF ?hy ?_);case hy=>decide))
   refine asks_ok (k := (zs i).kind) (a := (zs i).a) (b := (zs i).b) (z := (zs i).x) (ot := false) hfit.b0 hfit.b1 hS2 fun H3 c3' hS3 n3 => ?_
   have hT3 := hT2.opA (Nat.le_refl _) hS3 n3
   repeat' (first|(with_reducible first|refine jA ?_|(refine hK _ _ ?_;clear hK K)|refine jJ fun K hK=>?_|refine jK ?_|refine jL ?_|refine jM ?_|refine jN ?_|refine jO ?_|refine jP ?_|refine jQ ?_|(refine jB ?_;clear hK K)|(refine jC ?_;clear hK K)|refine jD ?_|refine jE ?_|refine jG ?_|refine jH ?_|refine jI ?_)|((with_reducible refine jR ?hq ?_);case hq=>rfl)|((first|(with_reducible first|refine jS fun K hK=>?_|refine jT ?_|refine jU ?_)|((with_reducible refine jV ?hy fun K hK=>?_);case hy=>rfl));simp only [go_sem, Nat.reduceEqDiff, Nat.reduceAdd, Nat.reduceMul, Nat.reduceLeDiff, Nat.reduceLT, Int.reduceLT, Int.reduceLE, Int.reduceEq, Int.reduceNeg, Int.reduceToNat, Nat.reducePow, reduceIte, reduceCtorEq, i18, ew])|((with_reducible first|refine jW ?hy ?_|refine jY ?hy ?_);case hy=>rfl)|((with_reducible first|refine jX ?hy ?_|refine jZ ?hy ?_);case hy=>rfl)|((with_reducible refine jF ?hy ?_);case hy=>decide))
   exact loop_normal (m' := n - (i + 1)) (by omega) ⟨i + 1, _, _, rfl, hT3, hlt, rfl⟩
 ·have t1 : (i < n) = False := by simp [hlt]
  repeat' (first|(with_reducible first|refine jA ?_|(refine hK _ _ ?_;clear hK K)|refine jJ fun K hK=>?_|refine jK ?_|refine jL ?_|refine jM ?_|refine jN ?_|refine jO ?_|refine jP ?_|refine jQ ?_|(refine jB ?_;clear hK K)|(refine jC ?_;clear hK K)|refine jD ?_|refine jE ?_|refine jG ?_|refine jH ?_|refine jI ?_)|((with_reducible refine jR ?hq ?_);case hq=>rfl)|((first|(with_reducible first|refine jS fun K hK=>?_|refine jT ?_|refine jU ?_)|((with_reducible refine jV ?hy fun K hK=>?_);case hy=>rfl));simp only [go_sem, Nat.reduceEqDiff, Nat.reduceAdd, Nat.reduceMul, Nat.reduceLeDiff, Nat.reduceLT, Int.reduceLT, Int.reduceLE, Int.reduceEq, Int.reduceNeg, Int.reduceToNat, Nat.reducePow, reduceIte, reduceCtorEq, i2, i18, t1])|((with_reducible first|refine jW ?hy ?_|refine jY ?hy ?_);case hy=>rfl)|((with_reducible first|refine jX ?hy ?_|refine jZ ?hy ?_);case hy=>rfl)|((with_reducible refine jF ?hy ?_);case hy=>decide))
  exact fin _ _ _ _ i16 i17 (hT1.more (by omega))
end
theorem splayPlays {H : Heap} {one two : Int} {a : Option Addr} {n c : Nat} {zs : Nat → OpR} {K : Value → Heap → Prop} (hin : InOps H a n zs) (hn : n ≤ 2999999999999)
  (fin : ∀ H', Fr (fun _ => False) H H' → K (.bool true) H') : CallsH Try.prog 9 #[.int .i64 one, .int .i64 two, .slice a n c] H K := by
 refine call9 (by simp) ?_
 simp only [Try.f9, Option.getD_some]
 repeat' (first|(with_reducible first|refine jA ?_|(refine hK _ _ ?_;clear hK K)|refine jJ fun K hK=>?_|refine jK ?_|refine jL ?_|refine jM ?_|refine jN ?_|refine jO ?_|refine jP ?_|refine jQ ?_|(refine jB ?_;clear hK K)|(refine jC ?_;clear hK K)|refine jD ?_|refine jE ?_|refine jG ?_|refine jH ?_|refine jI ?_)|((with_reducible refine jR ?hq ?_);case hq=>rfl)|((first|(with_reducible first|refine jS fun K hK=>?_|refine jT ?_|refine jU ?_)|((with_reducible refine jV ?hy fun K hK=>?_);case hy=>rfl));simp only [go_sem, Nat.reduceEqDiff, Nat.reduceAdd, Nat.reduceMul, Nat.reduceLeDiff, Nat.reduceLT, Int.reduceLT, Int.reduceLE, Int.reduceEq, Int.reduceNeg, Int.reduceToNat, Nat.reducePow, reduceIte, reduceCtorEq])|((with_reducible first|refine jW ?hy ?_|refine jY ?hy ?_);case hy=>rfl)|((with_reducible first|refine jX ?hy ?_|refine jZ ?hy ?_);case hy=>rfl)|((with_reducible refine jF ?hy ?_);case hy=>decide))
 refine awake_ok fun H1 hf1 => ?_
 repeat' (first|(with_reducible first|refine jA ?_|(refine hK _ _ ?_;clear hK K)|refine jJ fun K hK=>?_|refine jK ?_|refine jL ?_|refine jM ?_|refine jN ?_|refine jO ?_|refine jP ?_|refine jQ ?_|(refine jB ?_;clear hK K)|(refine jC ?_;clear hK K)|refine jD ?_|refine jE ?_|refine jG ?_|refine jH ?_|refine jI ?_)|((with_reducible refine jR ?hq ?_);case hq=>rfl)|((first|(with_reducible first|refine jS fun K hK=>?_|refine jT ?_|refine jU ?_)|((with_reducible refine jV ?hy fun K hK=>?_);case hy=>rfl));simp only [go_sem, Nat.reduceEqDiff, Nat.reduceAdd, Nat.reduceMul, Nat.reduceLeDiff, Nat.reduceLT, Int.reduceLT, Int.reduceLE, Int.reduceEq, Int.reduceNeg, Int.reduceToNat, Nat.reducePow, reduceIte, reduceCtorEq])|((with_reducible first|refine jW ?hy ?_|refine jY ?hy ?_);case hy=>rfl)|((with_reducible first|refine jX ?hy ?_|refine jZ ?hy ?_);case hy=>rfl)|((with_reducible refine jF ?hy ?_);case hy=>decide))
 by_cases ho : 0 ≤ one ∧ one ≤ 1024
 ·obtain ⟨n1, rfl⟩ := Int.eq_ofNat_of_zero_le ho.1
  refine new_ok (n := n1) (by omega) fun H2 f T hA hf2 hT hTf => ?_
  repeat' (first|(with_reducible first|refine jA ?_|(refine hK _ _ ?_;clear hK K)|refine jJ fun K hK=>?_|refine jK ?_|refine jL ?_|refine jM ?_|refine jN ?_|refine jO ?_|refine jP ?_|refine jQ ?_|(refine jB ?_;clear hK K)|(refine jC ?_;clear hK K)|refine jD ?_|refine jE ?_|refine jG ?_|refine jH ?_|refine jI ?_)|((with_reducible refine jR ?hq ?_);case hq=>rfl)|((first|(with_reducible first|refine jS fun K hK=>?_|refine jT ?_|refine jU ?_)|((with_reducible refine jV ?hy fun K hK=>?_);case hy=>rfl));simp only [go_sem, Nat.reduceEqDiff, Nat.reduceAdd, Nat.reduceMul, Nat.reduceLeDiff, Nat.reduceLT, Int.reduceLT, Int.reduceLE, Int.reduceEq, Int.reduceNeg, Int.reduceToNat, Nat.reducePow, reduceIte, reduceCtorEq])|((with_reducible first|refine jW ?hy ?_|refine jY ?hy ?_);case hy=>rfl)|((with_reducible first|refine jX ?hy ?_|refine jZ ?hy ?_);case hy=>rfl)|((with_reducible refine jF ?hy ?_);case hy=>decide))
  by_cases ht : 0 ≤ two ∧ two ≤ 1024
  ·obtain ⟨n2, rfl⟩ := Int.eq_ofNat_of_zero_le ht.1
   refine new_ok (n := n2) (by omega) fun H3 f' T' hA' hf3 hT' hTf' => ?_
   repeat' (first|(with_reducible first|refine jA ?_|(refine hK _ _ ?_;clear hK K)|refine jJ fun K hK=>?_|refine jK ?_|refine jL ?_|refine jM ?_|refine jN ?_|refine jO ?_|refine jP ?_|refine jQ ?_|(refine jB ?_;clear hK K)|(refine jC ?_;clear hK K)|refine jD ?_|refine jE ?_|refine jG ?_|refine jH ?_|refine jI ?_)|((with_reducible refine jR ?hq ?_);case hq=>rfl)|((first|(with_reducible first|refine jS fun K hK=>?_|refine jT ?_|refine jU ?_)|((with_reducible refine jV ?hy fun K hK=>?_);case hy=>rfl));simp only [go_sem, Nat.reduceEqDiff, Nat.reduceAdd, Nat.reduceMul, Nat.reduceLeDiff, Nat.reduceLT, Int.reduceLT, Int.reduceLE, Int.reduceEq, Int.reduceNeg, Int.reduceToNat, Nat.reducePow, reduceIte, reduceCtorEq])|((with_reducible first|refine jW ?hy ?_|refine jY ?hy ?_);case hy=>rfl)|((with_reducible first|refine jX ?hy ?_|refine jZ ?hy ?_);case hy=>rfl)|((with_reducible refine jF ?hy ?_);case hy=>decide))
   refine d_new (n := n1) (by omega) fun H4 x cx hD hf4 hX hxx => ?_
   repeat' (first|(with_reducible first|refine jA ?_|(refine hK _ _ ?_;clear hK K)|refine jJ fun K hK=>?_|refine jK ?_|refine jL ?_|refine jM ?_|refine jN ?_|refine jO ?_|refine jP ?_|refine jQ ?_|(refine jB ?_;clear hK K)|(refine jC ?_;clear hK K)|refine jD ?_|refine jE ?_|refine jG ?_|refine jH ?_|refine jI ?_)|((with_reducible refine jR ?hq ?_);case hq=>rfl)|((first|(with_reducible first|refine jS fun K hK=>?_|refine jT ?_|refine jU ?_)|((with_reducible refine jV ?hy fun K hK=>?_);case hy=>rfl));simp only [go_sem, Nat.reduceEqDiff, Nat.reduceAdd, Nat.reduceMul, Nat.reduceLeDiff, Nat.reduceLT, Int.reduceLT, Int.reduceLE, Int.reduceEq, Int.reduceNeg, Int.reduceToNat, Nat.reducePow, reduceIte, reduceCtorEq])|((with_reducible first|refine jW ?hy ?_|refine jY ?hy ?_);case hy=>rfl)|((with_reducible first|refine jX ?hy ?_|refine jZ ?hy ?_);case hy=>rfl)|((with_reducible refine jF ?hy ?_);case hy=>decide))
   refine d_new (n := n2) (by omega) fun H5 x' cx' hD' hf5 hX' hxx' => ?_
   repeat' (first|(with_reducible first|refine jA ?_|(refine hK _ _ ?_;clear hK K)|refine jJ fun K hK=>?_|refine jK ?_|refine jL ?_|refine jM ?_|refine jN ?_|refine jO ?_|refine jP ?_|refine jQ ?_|(refine jB ?_;clear hK K)|(refine jC ?_;clear hK K)|refine jD ?_|refine jE ?_|refine jG ?_|refine jH ?_|refine jI ?_)|((with_reducible refine jR ?hq ?_);case hq=>rfl)|((first|(with_reducible first|refine jS fun K hK=>?_|refine jT ?_|refine jU ?_)|((with_reducible refine jV ?hy fun K hK=>?_);case hy=>rfl));simp only [go_sem, Nat.reduceEqDiff, Nat.reduceAdd, Nat.reduceMul, Nat.reduceLeDiff, Nat.reduceLT, Int.reduceLT, Int.reduceLE, Int.reduceEq, Int.reduceNeg, Int.reduceToNat, Nat.reducePow, reduceIte, reduceCtorEq])|((with_reducible first|refine jW ?hy ?_|refine jY ?hy ?_);case hy=>rfl)|((with_reducible first|refine jX ?hy ?_|refine jZ ?hy ?_);case hy=>rfl)|((with_reducible refine jF ?hy ?_);case hy=>decide))
   have lA : ∀ b, T b → b < H2.size := fun b hb => hA.lt hb
   have lB : ∀ b, T' b → b < H3.size := fun b hb => hA'.lt hb
   have lC : ∀ b, cx b ≠ 0 → b < H4.size := fun b hb => hD.lt hb
   have lD : ∀ b, cx' b ≠ 0 → b < H5.size := fun b hb => hD'.lt hb
   have z1 := hf1.size
   have z2 := hf2.size
   have z3 := hf3.size
   have z4 := hf4.size
   have z5 := hf5.size
   generalize hH6 : Array.push H5 _ = H6
   have s6 : H6.size = H5.size + 1 := by rw [← hH6]; simp
   have b6 : Blk H6 H5.size [.pointer (some ⟨f, 0, none⟩), .pointer (some ⟨x, 0, none⟩), .slice none 0 0, .slice none 0 0] := by rw [← hH6]; exact Blk.new H5 [.pointer (some ⟨f, 0, none⟩), .pointer (some ⟨x, 0, none⟩), .slice none 0 0, .slice none 0 0] _
   have f6 : Fr (fun _ => False) H5 H6 := by rw [← hH6]; exact (Fr.refl _ _).push _
   clear hH6
   generalize hH7 : Array.push H6 _ = H7
   have s7 : H7.size = H6.size + 1 := by rw [← hH7]; simp
   have b7 : Blk H7 H6.size [.pointer (some ⟨f', 0, none⟩), .pointer (some ⟨x', 0, none⟩), .slice none 0 0, .slice none 0 0] := by rw [← hH7]; exact Blk.new H6 [.pointer (some ⟨f', 0, none⟩), .pointer (some ⟨x', 0, none⟩), .slice none 0 0, .slice none 0 0] _
   have f7 : Fr (fun _ => False) H6 H7 := by rw [← hH7]; exact (Fr.refl _ _).push _
   clear hH7
   have f57 := f6.trans f7
   have f47 := hf5.trans f57
   have f37 := hf4.trans f47
   have f27 := hf3.trans f37
   obtain ⟨hSa, hca⟩ := SsS.init (s := H5.size) (hA.grow f27) (hD.grow f47 fun _ _ h => h) (b6.frame f7 (fun h => h)) (fun e => by have := lA _ e; omega) (Decidable.byContradiction fun e => by have := lC _ e; omega) (fun b hb => Decidable.byContradiction fun e => by
    have := lA b hb
    have := hX b e
    omega)
   obtain ⟨hSb, hcb⟩ := SsS.init (s := H6.size) (hA'.grow f37) (hD'.grow f57 fun _ _ h => h) b7 (fun e => by have := lB _ e; omega) (Decidable.byContradiction fun e => by have := lD _ e; omega) (fun b hb => Decidable.byContradiction fun e => by
    have := lB b hb
    have := hX' b e
    omega)
   have hTw : TwoP H H7 H5.size H6.size (colP H5.size T cx) (colP H6.size T' cx') 0 := by
    refine ⟨⟨_, hSa⟩, ⟨_, hSb⟩, ((hf1.trans hf2).trans f27), fun b hb => ?_, fun b hb => ?_, fun b hb hc => ?_⟩
    ·rcases hca b hb with e | e | e
     ·omega
     ·have := hT b e; omega
     ·have := hX b e; omega
    ·rcases hcb b hb with e | e | e
     ·omega
     ·have := hT' b e; omega
     ·have := hX' b e; omega
    ·have x1 : b = H5.size ∨ (H1.size ≤ b ∧ b < H2.size) ∨ (H3.size ≤ b ∧ b < H4.size) := by
      rcases hca b hb with e | e | e
      ·exact .inl e
      ·right; left; exact ⟨hT b e, lA b e⟩
      ·right; right; exact ⟨hX b e, lC b e⟩
     rcases hcb b hc with e | e | e
     ·omega
     ·have := hT' b e; have := lB b e; omega
     ·have := hX' b e; have := lD b e; omega
   refine splayLoop hin hn hTw rfl rfl rfl rfl ?_
   intro e8 H8 cs ct i16 i17 hT8
   repeat' (first|(with_reducible first|refine jA ?_|(refine hK _ _ ?_;clear hK K)|refine jJ fun K hK=>?_|refine jK ?_|refine jL ?_|refine jM ?_|refine jN ?_|refine jO ?_|refine jP ?_|refine jQ ?_|(refine jB ?_;clear hK K)|(refine jC ?_;clear hK K)|refine jD ?_|refine jE ?_|refine jG ?_|refine jH ?_|refine jI ?_)|((with_reducible refine jR ?hq ?_);case hq=>rfl)|((first|(with_reducible first|refine jS fun K hK=>?_|refine jT ?_|refine jU ?_)|((with_reducible refine jV ?hy fun K hK=>?_);case hy=>rfl));simp only [go_sem, Nat.reduceEqDiff, Nat.reduceAdd, Nat.reduceMul, Nat.reduceLeDiff, Nat.reduceLT, Int.reduceLT, Int.reduceLE, Int.reduceEq, Int.reduceNeg, Int.reduceToNat, Nat.reducePow, reduceIte, reduceCtorEq, i16, i17])|((with_reducible first|refine jW ?hy ?_|refine jY ?hy ?_);case hy=>rfl)|((with_reducible first|refine jX ?hy ?_|refine jZ ?hy ?_);case hy=>rfl)|((with_reducible refine jF ?hy ?_);case hy=>decide))
   obtain ⟨Sa, ha8⟩ := hT8.a
   obtain ⟨Sb, hb8⟩ := hT8.b
   refine ends_ok ha8 fun H9 hf9 => ?_
   have hb9 := hb8.grow hf9 fun b hb e => hT8.ap b e hb
   repeat' (first|(with_reducible first|refine jA ?_|(refine hK _ _ ?_;clear hK K)|refine jJ fun K hK=>?_|refine jK ?_|refine jL ?_|refine jM ?_|refine jN ?_|refine jO ?_|refine jP ?_|refine jQ ?_|(refine jB ?_;clear hK K)|(refine jC ?_;clear hK K)|refine jD ?_|refine jE ?_|refine jG ?_|refine jH ?_|refine jI ?_)|((with_reducible refine jR ?hq ?_);case hq=>rfl)|((first|(with_reducible first|refine jS fun K hK=>?_|refine jT ?_|refine jU ?_)|((with_reducible refine jV ?hy fun K hK=>?_);case hy=>rfl));simp only [go_sem, Nat.reduceEqDiff, Nat.reduceAdd, Nat.reduceMul, Nat.reduceLeDiff, Nat.reduceLT, Int.reduceLT, Int.reduceLE, Int.reduceEq, Int.reduceNeg, Int.reduceToNat, Nat.reducePow, reduceIte, reduceCtorEq, i16, i17])|((with_reducible first|refine jW ?hy ?_|refine jY ?hy ?_);case hy=>rfl)|((with_reducible first|refine jX ?hy ?_|refine jZ ?hy ?_);case hy=>rfl)|((with_reducible refine jF ?hy ?_);case hy=>decide))
   refine ends_ok hb9 fun H10 hf10 => ?_
   repeat' (first|(with_reducible first|refine jA ?_|(refine hK _ _ ?_;clear hK K)|refine jJ fun K hK=>?_|refine jK ?_|refine jL ?_|refine jM ?_|refine jN ?_|refine jO ?_|refine jP ?_|refine jQ ?_|(refine jB ?_;clear hK K)|(refine jC ?_;clear hK K)|refine jD ?_|refine jE ?_|refine jG ?_|refine jH ?_|refine jI ?_)|((with_reducible refine jR ?hq ?_);case hq=>rfl)|((first|(with_reducible first|refine jS fun K hK=>?_|refine jT ?_|refine jU ?_)|((with_reducible refine jV ?hy fun K hK=>?_);case hy=>rfl));simp only [go_sem, Nat.reduceEqDiff, Nat.reduceAdd, Nat.reduceMul, Nat.reduceLeDiff, Nat.reduceLT, Int.reduceLT, Int.reduceLE, Int.reduceEq, Int.reduceNeg, Int.reduceToNat, Nat.reducePow, reduceIte, reduceCtorEq, i16, i17])|((with_reducible first|refine jW ?hy ?_|refine jY ?hy ?_);case hy=>rfl)|((with_reducible first|refine jX ?hy ?_|refine jZ ?hy ?_);case hy=>rfl)|((with_reducible refine jF ?hy ?_);case hy=>decide))
   refine fin _ ((hT8.fr.trans' hf9 fun b hb e => ?_).trans' hf10 fun b hb e => ?_)
   ·have := hT8.na b e; omega
   ·have := hT8.nb b e; omega
  ·refine new_no (by omega) ?_
   repeat' (first|(with_reducible first|refine jA ?_|(refine hK _ _ ?_;clear hK K)|refine jJ fun K hK=>?_|refine jK ?_|refine jL ?_|refine jM ?_|refine jN ?_|refine jO ?_|refine jP ?_|refine jQ ?_|(refine jB ?_;clear hK K)|(refine jC ?_;clear hK K)|refine jD ?_|refine jE ?_|refine jG ?_|refine jH ?_|refine jI ?_)|((with_reducible refine jR ?hq ?_);case hq=>rfl)|((first|(with_reducible first|refine jS fun K hK=>?_|refine jT ?_|refine jU ?_)|((with_reducible refine jV ?hy fun K hK=>?_);case hy=>rfl));simp only [go_sem, Nat.reduceEqDiff, Nat.reduceAdd, Nat.reduceMul, Nat.reduceLeDiff, Nat.reduceLT, Int.reduceLT, Int.reduceLE, Int.reduceEq, Int.reduceNeg, Int.reduceToNat, Nat.reducePow, reduceIte, reduceCtorEq])|((with_reducible first|refine jW ?hy ?_|refine jY ?hy ?_);case hy=>rfl)|((with_reducible first|refine jX ?hy ?_|refine jZ ?hy ?_);case hy=>rfl)|((with_reducible refine jF ?hy ?_);case hy=>decide))
   refine d_new (n := n1) (by omega) fun H4 x cx hD hf4 hX hxx => ?_
   repeat' (first|(with_reducible first|refine jA ?_|(refine hK _ _ ?_;clear hK K)|refine jJ fun K hK=>?_|refine jK ?_|refine jL ?_|refine jM ?_|refine jN ?_|refine jO ?_|refine jP ?_|refine jQ ?_|(refine jB ?_;clear hK K)|(refine jC ?_;clear hK K)|refine jD ?_|refine jE ?_|refine jG ?_|refine jH ?_|refine jI ?_)|((with_reducible refine jR ?hq ?_);case hq=>rfl)|((first|(with_reducible first|refine jS fun K hK=>?_|refine jT ?_|refine jU ?_)|((with_reducible refine jV ?hy fun K hK=>?_);case hy=>rfl));simp only [go_sem, Nat.reduceEqDiff, Nat.reduceAdd, Nat.reduceMul, Nat.reduceLeDiff, Nat.reduceLT, Int.reduceLT, Int.reduceLE, Int.reduceEq, Int.reduceNeg, Int.reduceToNat, Nat.reducePow, reduceIte, reduceCtorEq])|((with_reducible first|refine jW ?hy ?_|refine jY ?hy ?_);case hy=>rfl)|((with_reducible first|refine jX ?hy ?_|refine jZ ?hy ?_);case hy=>rfl)|((with_reducible refine jF ?hy ?_);case hy=>decide))
   refine rg_new_bad (by omega) ?_
   repeat' (first|(with_reducible first|refine jA ?_|(refine hK _ _ ?_;clear hK K)|refine jJ fun K hK=>?_|refine jK ?_|refine jL ?_|refine jM ?_|refine jN ?_|refine jO ?_|refine jP ?_|refine jQ ?_|(refine jB ?_;clear hK K)|(refine jC ?_;clear hK K)|refine jD ?_|refine jE ?_|refine jG ?_|refine jH ?_|refine jI ?_)|((with_reducible refine jR ?hq ?_);case hq=>rfl)|((first|(with_reducible first|refine jS fun K hK=>?_|refine jT ?_|refine jU ?_)|((with_reducible refine jV ?hy fun K hK=>?_);case hy=>rfl));simp only [go_sem, Nat.reduceEqDiff, Nat.reduceAdd, Nat.reduceMul, Nat.reduceLeDiff, Nat.reduceLT, Int.reduceLT, Int.reduceLE, Int.reduceEq, Int.reduceNeg, Int.reduceToNat, Nat.reducePow, reduceIte, reduceCtorEq])|((with_reducible first|refine jW ?hy ?_|refine jY ?hy ?_);case hy=>rfl)|((with_reducible first|refine jX ?hy ?_|refine jZ ?hy ?_);case hy=>rfl)|((with_reducible refine jF ?hy ?_);case hy=>decide))
   exact fin _ ((hf1.trans hf2).trans hf4)
 ·refine new_no (by omega) ?_
  repeat' (first|(with_reducible first|refine jA ?_|(refine hK _ _ ?_;clear hK K)|refine jJ fun K hK=>?_|refine jK ?_|refine jL ?_|refine jM ?_|refine jN ?_|refine jO ?_|refine jP ?_|refine jQ ?_|(refine jB ?_;clear hK K)|(refine jC ?_;clear hK K)|refine jD ?_|refine jE ?_|refine jG ?_|refine jH ?_|refine jI ?_)|((with_reducible refine jR ?hq ?_);case hq=>rfl)|((first|(with_reducible first|refine jS fun K hK=>?_|refine jT ?_|refine jU ?_)|((with_reducible refine jV ?hy fun K hK=>?_);case hy=>rfl));simp only [go_sem, Nat.reduceEqDiff, Nat.reduceAdd, Nat.reduceMul, Nat.reduceLeDiff, Nat.reduceLT, Int.reduceLT, Int.reduceLE, Int.reduceEq, Int.reduceNeg, Int.reduceToNat, Nat.reducePow, reduceIte, reduceCtorEq])|((with_reducible first|refine jW ?hy ?_|refine jY ?hy ?_);case hy=>rfl)|((with_reducible first|refine jX ?hy ?_|refine jZ ?hy ?_);case hy=>rfl)|((with_reducible refine jF ?hy ?_);case hy=>decide))
  by_cases ht : 0 ≤ two ∧ two ≤ 1024
  ·obtain ⟨n2, rfl⟩ := Int.eq_ofNat_of_zero_le ht.1
   refine new_ok (n := n2) (by omega) fun H3 f' T' hA' hf3 hT' hTf' => ?_
   repeat' (first|(with_reducible first|refine jA ?_|(refine hK _ _ ?_;clear hK K)|refine jJ fun K hK=>?_|refine jK ?_|refine jL ?_|refine jM ?_|refine jN ?_|refine jO ?_|refine jP ?_|refine jQ ?_|(refine jB ?_;clear hK K)|(refine jC ?_;clear hK K)|refine jD ?_|refine jE ?_|refine jG ?_|refine jH ?_|refine jI ?_)|((with_reducible refine jR ?hq ?_);case hq=>rfl)|((first|(with_reducible first|refine jS fun K hK=>?_|refine jT ?_|refine jU ?_)|((with_reducible refine jV ?hy fun K hK=>?_);case hy=>rfl));simp only [go_sem, Nat.reduceEqDiff, Nat.reduceAdd, Nat.reduceMul, Nat.reduceLeDiff, Nat.reduceLT, Int.reduceLT, Int.reduceLE, Int.reduceEq, Int.reduceNeg, Int.reduceToNat, Nat.reducePow, reduceIte, reduceCtorEq])|((with_reducible first|refine jW ?hy ?_|refine jY ?hy ?_);case hy=>rfl)|((with_reducible first|refine jX ?hy ?_|refine jZ ?hy ?_);case hy=>rfl)|((with_reducible refine jF ?hy ?_);case hy=>decide))
   refine rg_new_bad (by omega) ?_
   repeat' (first|(with_reducible first|refine jA ?_|(refine hK _ _ ?_;clear hK K)|refine jJ fun K hK=>?_|refine jK ?_|refine jL ?_|refine jM ?_|refine jN ?_|refine jO ?_|refine jP ?_|refine jQ ?_|(refine jB ?_;clear hK K)|(refine jC ?_;clear hK K)|refine jD ?_|refine jE ?_|refine jG ?_|refine jH ?_|refine jI ?_)|((with_reducible refine jR ?hq ?_);case hq=>rfl)|((first|(with_reducible first|refine jS fun K hK=>?_|refine jT ?_|refine jU ?_)|((with_reducible refine jV ?hy fun K hK=>?_);case hy=>rfl));simp only [go_sem, Nat.reduceEqDiff, Nat.reduceAdd, Nat.reduceMul, Nat.reduceLeDiff, Nat.reduceLT, Int.reduceLT, Int.reduceLE, Int.reduceEq, Int.reduceNeg, Int.reduceToNat, Nat.reducePow, reduceIte, reduceCtorEq])|((with_reducible first|refine jW ?hy ?_|refine jY ?hy ?_);case hy=>rfl)|((with_reducible first|refine jX ?hy ?_|refine jZ ?hy ?_);case hy=>rfl)|((with_reducible refine jF ?hy ?_);case hy=>decide))
   refine d_new (n := n2) (by omega) fun H5 x' cx' hD' hf5 hX' hxx' => ?_
   repeat' (first|(with_reducible first|refine jA ?_|(refine hK _ _ ?_;clear hK K)|refine jJ fun K hK=>?_|refine jK ?_|refine jL ?_|refine jM ?_|refine jN ?_|refine jO ?_|refine jP ?_|refine jQ ?_|(refine jB ?_;clear hK K)|(refine jC ?_;clear hK K)|refine jD ?_|refine jE ?_|refine jG ?_|refine jH ?_|refine jI ?_)|((with_reducible refine jR ?hq ?_);case hq=>rfl)|((first|(with_reducible first|refine jS fun K hK=>?_|refine jT ?_|refine jU ?_)|((with_reducible refine jV ?hy fun K hK=>?_);case hy=>rfl));simp only [go_sem, Nat.reduceEqDiff, Nat.reduceAdd, Nat.reduceMul, Nat.reduceLeDiff, Nat.reduceLT, Int.reduceLT, Int.reduceLE, Int.reduceEq, Int.reduceNeg, Int.reduceToNat, Nat.reducePow, reduceIte, reduceCtorEq])|((with_reducible first|refine jW ?hy ?_|refine jY ?hy ?_);case hy=>rfl)|((with_reducible first|refine jX ?hy ?_|refine jZ ?hy ?_);case hy=>rfl)|((with_reducible refine jF ?hy ?_);case hy=>decide))
   exact fin _ ((hf1.trans hf3).trans hf5)
  ·refine new_no (by omega) ?_
   repeat' (first|(with_reducible first|refine jA ?_|(refine hK _ _ ?_;clear hK K)|refine jJ fun K hK=>?_|refine jK ?_|refine jL ?_|refine jM ?_|refine jN ?_|refine jO ?_|refine jP ?_|refine jQ ?_|(refine jB ?_;clear hK K)|(refine jC ?_;clear hK K)|refine jD ?_|refine jE ?_|refine jG ?_|refine jH ?_|refine jI ?_)|((with_reducible refine jR ?hq ?_);case hq=>rfl)|((first|(with_reducible first|refine jS fun K hK=>?_|refine jT ?_|refine jU ?_)|((with_reducible refine jV ?hy fun K hK=>?_);case hy=>rfl));simp only [go_sem, Nat.reduceEqDiff, Nat.reduceAdd, Nat.reduceMul, Nat.reduceLeDiff, Nat.reduceLT, Int.reduceLT, Int.reduceLE, Int.reduceEq, Int.reduceNeg, Int.reduceToNat, Nat.reducePow, reduceIte, reduceCtorEq])|((with_reducible first|refine jW ?hy ?_|refine jY ?hy ?_);case hy=>rfl)|((with_reducible first|refine jX ?hy ?_|refine jZ ?hy ?_);case hy=>rfl)|((with_reducible refine jF ?hy ?_);case hy=>decide))
   refine rg_new_bad (by omega) ?_
   repeat' (first|(with_reducible first|refine jA ?_|(refine hK _ _ ?_;clear hK K)|refine jJ fun K hK=>?_|refine jK ?_|refine jL ?_|refine jM ?_|refine jN ?_|refine jO ?_|refine jP ?_|refine jQ ?_|(refine jB ?_;clear hK K)|(refine jC ?_;clear hK K)|refine jD ?_|refine jE ?_|refine jG ?_|refine jH ?_|refine jI ?_)|((with_reducible refine jR ?hq ?_);case hq=>rfl)|((first|(with_reducible first|refine jS fun K hK=>?_|refine jT ?_|refine jU ?_)|((with_reducible refine jV ?hy fun K hK=>?_);case hy=>rfl));simp only [go_sem, Nat.reduceEqDiff, Nat.reduceAdd, Nat.reduceMul, Nat.reduceLeDiff, Nat.reduceLT, Int.reduceLT, Int.reduceLE, Int.reduceEq, Int.reduceNeg, Int.reduceToNat, Nat.reducePow, reduceIte, reduceCtorEq])|((with_reducible first|refine jW ?hy ?_|refine jY ?hy ?_);case hy=>rfl)|((with_reducible first|refine jX ?hy ?_|refine jZ ?hy ?_);case hy=>rfl)|((with_reducible refine jF ?hy ?_);case hy=>decide))
   refine rg_new_bad (by omega) ?_
   repeat' (first|(with_reducible first|refine jA ?_|(refine hK _ _ ?_;clear hK K)|refine jJ fun K hK=>?_|refine jK ?_|refine jL ?_|refine jM ?_|refine jN ?_|refine jO ?_|refine jP ?_|refine jQ ?_|(refine jB ?_;clear hK K)|(refine jC ?_;clear hK K)|refine jD ?_|refine jE ?_|refine jG ?_|refine jH ?_|refine jI ?_)|((with_reducible refine jR ?hq ?_);case hq=>rfl)|((first|(with_reducible first|refine jS fun K hK=>?_|refine jT ?_|refine jU ?_)|((with_reducible refine jV ?hy fun K hK=>?_);case hy=>rfl));simp only [go_sem, Nat.reduceEqDiff, Nat.reduceAdd, Nat.reduceMul, Nat.reduceLeDiff, Nat.reduceLT, Int.reduceLT, Int.reduceLE, Int.reduceEq, Int.reduceNeg, Int.reduceToNat, Nat.reducePow, reduceIte, reduceCtorEq])|((with_reducible first|refine jW ?hy ?_|refine jY ?hy ?_);case hy=>rfl)|((with_reducible first|refine jX ?hy ?_|refine jZ ?hy ?_);case hy=>rfl)|((with_reducible refine jF ?hy ?_);case hy=>decide))
   exact fin _ hf1
end Go.Proofs.Ytndkbhlfbeiniaa
namespace Go.Hp
open Go Go.ChangeShapes Go.WideShapes Go.RowKit
set_option linter.unusedVariables false
section
variable {E : Type} {enc : TypeId × Value → E} {P : Program} {w : World} {base : Nat} {spare : Nat → Bool} {held : Bool}
theorem cells_in {t e : TypeId} {a : Option Addr} {len cap : Nat} {d : DataW E} {p : List MemPlace} (ht : P.underlying t = some (.slice e)) (h : DataW.Trod enc P w base spare held t (.slice a len cap) d p) :
  len ≤ 9223372036854775807 ∧ ∀ i, i < len → ∃ (q : Addr) (cs : List Value) (m : Nat) (y : DataW E × List MemPlace), a = some q ∧ w.cells? base (q.add (i * P.cellsOf e)) (P.cellsOf e) = some cs ∧ DataW.trod enc P w base spare held m e cs = some y := by
 obtain ⟨fuel, hf⟩ := h
 rcases DataW.trod_slice ht hf with ⟨h0, _⟩ | ⟨a', len', cap', elems, rest, n, _, h0, _, hb, hl, hm, hlen, hel, hsp, hns⟩
 ·simp [Value.cells] at h0
  obtain ⟨rfl, rfl, rfl⟩ := h0
  exact ⟨by omega, fun i hi => absurd hi (by omega)⟩
 ·simp [Value.cells] at h0
  obtain ⟨rfl, rfl, rfl⟩ := h0
  refine ⟨by unfold maxLen at hm; omega, fun i hi => ?_⟩
  have h1 := hel i hi
  rw [List.getElem?_eq_getElem (by omega)] at h1
  obtain ⟨cs, hcs, hy⟩ := Option.bind_eq_some_iff.1 h1
  exact ⟨a', cs, n, _, rfl, hcs, hy⟩
theorem fit_of_wf {n : Int} (h : (Lit.int .i64 n).wf = true) : -9223372036854775808 ≤ n ∧ n ≤ 9223372036854775807 := by
 have hb := bounds_i64 h
 omega
theorem ints_in {t e : TypeId} {a : Option Addr} {len cap : Nat} {d : DataW E} {p : List MemPlace} (ht : P.underlying t = some (.slice e)) (he : P.underlying e = some (.int .i64)) (hc : P.cellsOf e = 1) (h : DataW.Trod enc P w base spare held t (.slice a len cap) d p) :
  len ≤ 9223372036854775807 ∧ ∃ zs, InInts w.heap a len zs := by
 obtain ⟨hl, hi⟩ := cells_in ht h
 refine ⟨hl, ?_⟩
 have each : ∀ i, i < len → ∃ (q : Addr) (n : Int), a = some q ∧ w.cell? (q.add i) = some (.int .i64 n) ∧ (Lit.int .i64 n).wf = true := fun i hlt => by
  obtain ⟨q, cs, m, y, h1, h2, h3⟩ := hi i hlt
  obtain ⟨n, rfl, _, hw⟩ := DataW.trod_int he h3
  rw [hc, Nat.mul_one] at h2
  obtain ⟨_, _, h4⟩ := World.cells?_some h2
  refine ⟨q, n, h1, ?_, hw⟩
  have := h4 0 (by omega)
  simpa [Addr.add] using this
 refine ⟨fun i => if h : i < len then (each i h).choose_spec.choose else 0, fun i hlt => ?_⟩
 have e := (each i hlt).choose_spec.choose_spec
 refine ⟨_, e.1, ?_, ?_⟩
 ·simp only [hlt, dif_pos]
  exact e.2.1
 ·simp only [hlt, dif_pos]
  exact fit_of_wf e.2.2
theorem field_in {e : TypeId} {fs : Array Field} {q : Addr} {n : Nat} {cs : List Value} {m : Nat} {y : DataW E × List MemPlace} (he : P.underlying e = some (.struct fs)) (h2 : w.cells? base q n = some cs) (h3 : DataW.trod enc P w base spare held m e cs = some y)
  (i : Nat) {f : Field} (hf : fs[i]? = some f) (hc : P.cellsOf f.type = 1) (ho : f.offset < n) :
  ∃ (v : Value) (z : DataW E × List MemPlace) (m' : Nat), w.cell? (q.add f.offset) = some v ∧ DataW.trod enc P w base spare held m' f.type [v] = some z := by
 obtain ⟨xs, n', _, _, hlen, hxl, hfs⟩ := DataW.trod_struct he h3
 obtain ⟨_, hcl, hcell⟩ := World.cells?_some h2
 have h4 := hfs i f hf
 have hlt : i < fs.size := (Array.getElem?_eq_some_iff.1 hf).1
 rw [hc, List.getElem?_eq_getElem (by omega)] at h4
 have hd : (cs.drop f.offset).take 1 = [cs[f.offset]'(by omega)] := by
  rw [List.drop_eq_getElem_cons (by omega)]; rfl
 rw [hd] at h4
 refine ⟨_, _, n', ?_, h4⟩
 rw [hcell f.offset ho, List.getElem?_eq_getElem (by omega)]
end
theorem add_zero_addr (q : Addr) : q.add 0 = q := rfl
theorem add_succ_addr (q : Addr) (n : Nat) : q.add (n + 1) = ⟨q.block, q.off + (n + 1), none⟩ := by
 unfold Addr.add; rw [if_neg (by omega)]
end Go.Hp
