/-
  The document's linked trees: Link, Cut, Evert, Root, Same.
  Lists of edges in memory: the place of a name; the heavier one of two edges.
  The document's linked trees: the edges above a vertex, the way between two vertices, its heaviest edge, its names.
  The document's linked trees: Most and Path.
-/
import Derived.Test.YtoplhfhjokjbiaaG4
import Derived.Test.YtoplhfhjokjbiaaG2
import Derived.Test.YtoplhfhjokjbiaaHpCR
namespace Go.Proofs.Ytoplhfhjokjbiaa
open Go Go.Hp Go.Li
set_option linter.all false
set_option maxRecDepth 100000
set_option maxHeartbeats 1600000
def RXM (H : Heap) (x : Nat) (T : Nat → Prop) (S : Ls) : Prop := ∃ gu gb cu, RX H x gu gb S.n cu (upS S) (byS S) ∧ ∀ b, T b ↔ (b = x ∨ b = gu ∨ b = gb)
section
variable {H H' : Heap} {x : Nat} {T : Nat → Prop} {S : Ls} {K : Value → Heap → Prop}
theorem RXM.frame {T0 : Nat → Prop} (h : RXM H x T S) (hf : Fr T0 H H') (hT : ∀ b, T b → ¬ T0 b) : RXM H' x T S := by
 obtain ⟨gu, gb, cu, h1, h2⟩ := h
 exact ⟨gu, gb, cu, h1.frame hf (hT _ ((h2 _).2 (.inl rfl))) (hT _ ((h2 _).2 (.inr (.inl rfl)))) (hT _ ((h2 _).2 (.inr (.inr rfl)))), h2⟩
theorem RXM.grow (h : RXM H x T S) (hf : Fr (fun _ => False) H H') : RXM H' x T S := h.frame hf fun _ _ h => h
theorem RXM.below (h : RXM H x T S) : ∀ b, T b → b < H.size := by
 obtain ⟨gu, gb, cu, h1, h2⟩ := h
 intro b hb
 obtain ⟨l1, l2, l3⟩ := h1.lt
 rcases (h2 b).1 hb with rfl | rfl | rfl
 ·exact l1
 ·exact l2
 ·exact l3
theorem xe_bad {v : Int} (h : RXM H x T S) (hv : inB S.n v = false) (fin : K (.int .i64 50) H) : CallsH Try.prog 35 #[.pointer (some ⟨x, 0, none⟩), .int .i64 v] H K := by
 obtain ⟨gu, gb, cu, h1, h2⟩ := h
 refine call35 (by simp) ?_
 simp only [Try.f35, Option.getD_some]
 repeat' (first|(with_reducible first|refine jA ?_|(refine hK _ _ ?_;clear hK K)|refine jJ fun K hK=>?_|refine jK ?_|refine jL ?_|refine jM ?_|refine jN ?_|refine jO ?_|refine jP ?_|refine jQ ?_|(refine jB ?_;clear hK K)|(refine jC ?_;clear hK K)|refine jD ?_|refine jE ?_|refine jG ?_|refine jH ?_|refine jI ?_)|((with_reducible refine jR ?hq ?_);case hq=>rfl)|((first|(with_reducible first|refine jS fun K hK=>?_|refine jT ?_|refine jU ?_)|((with_reducible refine jV ?hy fun K hK=>?_);case hy=>rfl));simp only [go_sem, Nat.reduceEqDiff, Nat.reduceAdd, Nat.reduceMul, Nat.reduceLeDiff, Nat.reduceLT, Int.reduceLT, Int.reduceLE, Int.reduceEq, Int.reduceNeg, Int.reduceToNat, Nat.reducePow, reduceIte, reduceCtorEq])|((with_reducible first|refine jW ?hy ?_|refine jY ?hy ?_);case hy=>rfl)|((with_reducible first|refine jX ?hy ?_|refine jZ ?hy ?_);case hy=>rfl)|((with_reducible refine jF ?hy ?_);case hy=>decide))
 refine rx_Has h1 ?_
 repeat' (first|(with_reducible first|refine jA ?_|(refine hK _ _ ?_;clear hK K)|refine jJ fun K hK=>?_|refine jK ?_|refine jL ?_|refine jM ?_|refine jN ?_|refine jO ?_|refine jP ?_|refine jQ ?_|(refine jB ?_;clear hK K)|(refine jC ?_;clear hK K)|refine jD ?_|refine jE ?_|refine jG ?_|refine jH ?_|refine jI ?_)|((with_reducible refine jR ?hq ?_);case hq=>rfl)|((first|(with_reducible first|refine jS fun K hK=>?_|refine jT ?_|refine jU ?_)|((with_reducible refine jV ?hy fun K hK=>?_);case hy=>rfl));simp only [go_sem, Nat.reduceEqDiff, Nat.reduceAdd, Nat.reduceMul, Nat.reduceLeDiff, Nat.reduceLT, Int.reduceLT, Int.reduceLE, Int.reduceEq, Int.reduceNeg, Int.reduceToNat, Nat.reducePow, reduceIte, reduceCtorEq, hv, Bool.not_false])|((with_reducible first|refine jW ?hy ?_|refine jY ?hy ?_);case hy=>rfl)|((with_reducible first|refine jX ?hy ?_|refine jZ ?hy ?_);case hy=>rfl)|((with_reducible refine jF ?hy ?_);case hy=>decide))
 exact fin
theorem xe_ok {v : Nat} {l : List Nat} (h : RXM H x T S) (k : S.Ok) (hv : v < S.n) (hl : Ch S.par (v + 1) l) (fin : ∀ H', RXM H' x T (S.ev l) → Fr T H H' → K (.int .i64 0) H') :
  CallsH Try.prog 35 #[.pointer (some ⟨x, 0, none⟩), .int .i64 (v : Nat)] H K := by
 obtain ⟨gu, gb, cu, h1, h2⟩ := h
 have hb := inB_of hv
 refine call35 (by simp) ?_
 simp only [Try.f35, Option.getD_some]
 repeat' (first|(with_reducible first|refine jA ?_|(refine hK _ _ ?_;clear hK K)|refine jJ fun K hK=>?_|refine jK ?_|refine jL ?_|refine jM ?_|refine jN ?_|refine jO ?_|refine jP ?_|refine jQ ?_|(refine jB ?_;clear hK K)|(refine jC ?_;clear hK K)|refine jD ?_|refine jE ?_|refine jG ?_|refine jH ?_|refine jI ?_)|((with_reducible refine jR ?hq ?_);case hq=>rfl)|((first|(with_reducible first|refine jS fun K hK=>?_|refine jT ?_|refine jU ?_)|((with_reducible refine jV ?hy fun K hK=>?_);case hy=>rfl));simp only [go_sem, Nat.reduceEqDiff, Nat.reduceAdd, Nat.reduceMul, Nat.reduceLeDiff, Nat.reduceLT, Int.reduceLT, Int.reduceLE, Int.reduceEq, Int.reduceNeg, Int.reduceToNat, Nat.reducePow, reduceIte, reduceCtorEq])|((with_reducible first|refine jW ?hy ?_|refine jY ?hy ?_);case hy=>rfl)|((with_reducible first|refine jX ?hy ?_|refine jZ ?hy ?_);case hy=>rfl)|((with_reducible refine jF ?hy ?_);case hy=>decide))
 refine rx_Has h1 ?_
 repeat' (first|(with_reducible first|refine jA ?_|(refine hK _ _ ?_;clear hK K)|refine jJ fun K hK=>?_|refine jK ?_|refine jL ?_|refine jM ?_|refine jN ?_|refine jO ?_|refine jP ?_|refine jQ ?_|(refine jB ?_;clear hK K)|(refine jC ?_;clear hK K)|refine jD ?_|refine jE ?_|refine jG ?_|refine jH ?_|refine jI ?_)|((with_reducible refine jR ?hq ?_);case hq=>rfl)|((first|(with_reducible first|refine jS fun K hK=>?_|refine jT ?_|refine jU ?_)|((with_reducible refine jV ?hy fun K hK=>?_);case hy=>rfl));simp only [go_sem, Nat.reduceEqDiff, Nat.reduceAdd, Nat.reduceMul, Nat.reduceLeDiff, Nat.reduceLT, Int.reduceLT, Int.reduceLE, Int.reduceEq, Int.reduceNeg, Int.reduceToNat, Nat.reducePow, reduceIte, reduceCtorEq, hb, Bool.not_true])|((with_reducible first|refine jW ?hy ?_|refine jY ?hy ?_);case hy=>rfl)|((with_reducible first|refine jX ?hy ?_|refine jZ ?hy ?_);case hy=>rfl)|((with_reducible refine jF ?hy ?_);case hy=>decide))
 refine rx_roots h1 k hv hl fun H' hX hf => ?_
 repeat' (first|(with_reducible first|refine jA ?_|(refine hK _ _ ?_;clear hK K)|refine jJ fun K hK=>?_|refine jK ?_|refine jL ?_|refine jM ?_|refine jN ?_|refine jO ?_|refine jP ?_|refine jQ ?_|(refine jB ?_;clear hK K)|(refine jC ?_;clear hK K)|refine jD ?_|refine jE ?_|refine jG ?_|refine jH ?_|refine jI ?_)|((with_reducible refine jR ?hq ?_);case hq=>rfl)|((first|(with_reducible first|refine jS fun K hK=>?_|refine jT ?_|refine jU ?_)|((with_reducible refine jV ?hy fun K hK=>?_);case hy=>rfl));simp only [go_sem, Nat.reduceEqDiff, Nat.reduceAdd, Nat.reduceMul, Nat.reduceLeDiff, Nat.reduceLT, Int.reduceLT, Int.reduceLE, Int.reduceEq, Int.reduceNeg, Int.reduceToNat, Nat.reducePow, reduceIte, reduceCtorEq])|((with_reducible first|refine jW ?hy ?_|refine jY ?hy ?_);case hy=>rfl)|((with_reducible first|refine jX ?hy ?_|refine jZ ?hy ?_);case hy=>rfl)|((with_reducible refine jF ?hy ?_);case hy=>decide))
 exact fin _ ⟨gu, gb, cu, hX, h2⟩ (hf.mono fun b _ hb => (h2 b).2 (.inr hb))
theorem xr_bad {v : Int} (h : RXM H x T S) (hv : inB S.n v = false) (fin : K (.tuple #[.int .i64 0, .int .i64 50]) H) : CallsH Try.prog 36 #[.pointer (some ⟨x, 0, none⟩), .int .i64 v] H K := by
 obtain ⟨gu, gb, cu, h1, h2⟩ := h
 refine call36 (by simp) ?_
 simp only [Try.f36, Option.getD_some]
 repeat' (first|(with_reducible first|refine jA ?_|(refine hK _ _ ?_;clear hK K)|refine jJ fun K hK=>?_|refine jK ?_|refine jL ?_|refine jM ?_|refine jN ?_|refine jO ?_|refine jP ?_|refine jQ ?_|(refine jB ?_;clear hK K)|(refine jC ?_;clear hK K)|refine jD ?_|refine jE ?_|refine jG ?_|refine jH ?_|refine jI ?_)|((with_reducible refine jR ?hq ?_);case hq=>rfl)|((first|(with_reducible first|refine jS fun K hK=>?_|refine jT ?_|refine jU ?_)|((with_reducible refine jV ?hy fun K hK=>?_);case hy=>rfl));simp only [go_sem, Nat.reduceEqDiff, Nat.reduceAdd, Nat.reduceMul, Nat.reduceLeDiff, Nat.reduceLT, Int.reduceLT, Int.reduceLE, Int.reduceEq, Int.reduceNeg, Int.reduceToNat, Nat.reducePow, reduceIte, reduceCtorEq])|((with_reducible first|refine jW ?hy ?_|refine jY ?hy ?_);case hy=>rfl)|((with_reducible first|refine jX ?hy ?_|refine jZ ?hy ?_);case hy=>rfl)|((with_reducible refine jF ?hy ?_);case hy=>decide))
 refine rx_Has h1 ?_
 repeat' (first|(with_reducible first|refine jA ?_|(refine hK _ _ ?_;clear hK K)|refine jJ fun K hK=>?_|refine jK ?_|refine jL ?_|refine jM ?_|refine jN ?_|refine jO ?_|refine jP ?_|refine jQ ?_|(refine jB ?_;clear hK K)|(refine jC ?_;clear hK K)|refine jD ?_|refine jE ?_|refine jG ?_|refine jH ?_|refine jI ?_)|((with_reducible refine jR ?hq ?_);case hq=>rfl)|((first|(with_reducible first|refine jS fun K hK=>?_|refine jT ?_|refine jU ?_)|((with_reducible refine jV ?hy fun K hK=>?_);case hy=>rfl));simp only [go_sem, Nat.reduceEqDiff, Nat.reduceAdd, Nat.reduceMul, Nat.reduceLeDiff, Nat.reduceLT, Int.reduceLT, Int.reduceLE, Int.reduceEq, Int.reduceNeg, Int.reduceToNat, Nat.reducePow, reduceIte, reduceCtorEq, hv, Bool.not_false])|((with_reducible first|refine jW ?hy ?_|refine jY ?hy ?_);case hy=>rfl)|((with_reducible first|refine jX ?hy ?_|refine jZ ?hy ?_);case hy=>rfl)|((with_reducible refine jF ?hy ?_);case hy=>decide))
 exact fin
theorem xr_ok {v r : Nat} (h : RXM H x T S) (k : S.Ok) (hv : v < S.n) (hr : RootOf S.par (v + 1) (r + 1)) (fin : K (.tuple #[.int .i64 (r : Nat), .int .i64 0]) H) : CallsH Try.prog 36 #[.pointer (some ⟨x, 0, none⟩), .int .i64 (v : Nat)] H K := by
 obtain ⟨gu, gb, cu, h1, h2⟩ := h
 have hb := inB_of hv
 refine call36 (by simp) ?_
 simp only [Try.f36, Option.getD_some]
 repeat' (first|(with_reducible first|refine jA ?_|(refine hK _ _ ?_;clear hK K)|refine jJ fun K hK=>?_|refine jK ?_|refine jL ?_|refine jM ?_|refine jN ?_|refine jO ?_|refine jP ?_|refine jQ ?_|(refine jB ?_;clear hK K)|(refine jC ?_;clear hK K)|refine jD ?_|refine jE ?_|refine jG ?_|refine jH ?_|refine jI ?_)|((with_reducible refine jR ?hq ?_);case hq=>rfl)|((first|(with_reducible first|refine jS fun K hK=>?_|refine jT ?_|refine jU ?_)|((with_reducible refine jV ?hy fun K hK=>?_);case hy=>rfl));simp only [go_sem, Nat.reduceEqDiff, Nat.reduceAdd, Nat.reduceMul, Nat.reduceLeDiff, Nat.reduceLT, Int.reduceLT, Int.reduceLE, Int.reduceEq, Int.reduceNeg, Int.reduceToNat, Nat.reducePow, reduceIte, reduceCtorEq])|((with_reducible first|refine jW ?hy ?_|refine jY ?hy ?_);case hy=>rfl)|((with_reducible first|refine jX ?hy ?_|refine jZ ?hy ?_);case hy=>rfl)|((with_reducible refine jF ?hy ?_);case hy=>decide))
 refine rx_Has h1 ?_
 repeat' (first|(with_reducible first|refine jA ?_|(refine hK _ _ ?_;clear hK K)|refine jJ fun K hK=>?_|refine jK ?_|refine jL ?_|refine jM ?_|refine jN ?_|refine jO ?_|refine jP ?_|refine jQ ?_|(refine jB ?_;clear hK K)|(refine jC ?_;clear hK K)|refine jD ?_|refine jE ?_|refine jG ?_|refine jH ?_|refine jI ?_)|((with_reducible refine jR ?hq ?_);case hq=>rfl)|((first|(with_reducible first|refine jS fun K hK=>?_|refine jT ?_|refine jU ?_)|((with_reducible refine jV ?hy fun K hK=>?_);case hy=>rfl));simp only [go_sem, Nat.reduceEqDiff, Nat.reduceAdd, Nat.reduceMul, Nat.reduceLeDiff, Nat.reduceLT, Int.reduceLT, Int.reduceLE, Int.reduceEq, Int.reduceNeg, Int.reduceToNat, Nat.reducePow, reduceIte, reduceCtorEq, hb, Bool.not_true])|((with_reducible first|refine jW ?hy ?_|refine jY ?hy ?_);case hy=>rfl)|((with_reducible first|refine jX ?hy ?_|refine jZ ?hy ?_);case hy=>rfl)|((with_reducible refine jF ?hy ?_);case hy=>decide))
 refine rx_root h1 k hv hr ?_
 repeat' (first|(with_reducible first|refine jA ?_|(refine hK _ _ ?_;clear hK K)|refine jJ fun K hK=>?_|refine jK ?_|refine jL ?_|refine jM ?_|refine jN ?_|refine jO ?_|refine jP ?_|refine jQ ?_|(refine jB ?_;clear hK K)|(refine jC ?_;clear hK K)|refine jD ?_|refine jE ?_|refine jG ?_|refine jH ?_|refine jI ?_)|((with_reducible refine jR ?hq ?_);case hq=>rfl)|((first|(with_reducible first|refine jS fun K hK=>?_|refine jT ?_|refine jU ?_)|((with_reducible refine jV ?hy fun K hK=>?_);case hy=>rfl));simp only [go_sem, Nat.reduceEqDiff, Nat.reduceAdd, Nat.reduceMul, Nat.reduceLeDiff, Nat.reduceLT, Int.reduceLT, Int.reduceLE, Int.reduceEq, Int.reduceNeg, Int.reduceToNat, Nat.reducePow, reduceIte, reduceCtorEq])|((with_reducible first|refine jW ?hy ?_|refine jY ?hy ?_);case hy=>rfl)|((with_reducible first|refine jX ?hy ?_|refine jZ ?hy ?_);case hy=>rfl)|((with_reducible refine jF ?hy ?_);case hy=>decide))
 exact fin
theorem xs_bad {u v : Int} (h : RXM H x T S) (hv : (inB S.n u && inB S.n v) = false) (fin : K (.tuple #[.bool false, .int .i64 50]) H) : CallsH Try.prog 37 #[.pointer (some ⟨x, 0, none⟩), .int .i64 u, .int .i64 v] H K := by
 obtain ⟨gu, gb, cu, h1, h2⟩ := h
 refine call37 (by simp) ?_
 simp only [Try.f37, Option.getD_some]
 repeat' (first|(with_reducible first|refine jA ?_|(refine hK _ _ ?_;clear hK K)|refine jJ fun K hK=>?_|refine jK ?_|refine jL ?_|refine jM ?_|refine jN ?_|refine jO ?_|refine jP ?_|refine jQ ?_|(refine jB ?_;clear hK K)|(refine jC ?_;clear hK K)|refine jD ?_|refine jE ?_|refine jG ?_|refine jH ?_|refine jI ?_)|((with_reducible refine jR ?hq ?_);case hq=>rfl)|((first|(with_reducible first|refine jS fun K hK=>?_|refine jT ?_|refine jU ?_)|((with_reducible refine jV ?hy fun K hK=>?_);case hy=>rfl));simp only [go_sem, Nat.reduceEqDiff, Nat.reduceAdd, Nat.reduceMul, Nat.reduceLeDiff, Nat.reduceLT, Int.reduceLT, Int.reduceLE, Int.reduceEq, Int.reduceNeg, Int.reduceToNat, Nat.reducePow, reduceIte, reduceCtorEq])|((with_reducible first|refine jW ?hy ?_|refine jY ?hy ?_);case hy=>rfl)|((with_reducible first|refine jX ?hy ?_|refine jZ ?hy ?_);case hy=>rfl)|((with_reducible refine jF ?hy ?_);case hy=>decide))
 refine rx_both h1 ?_
 repeat' (first|(with_reducible first|refine jA ?_|(refine hK _ _ ?_;clear hK K)|refine jJ fun K hK=>?_|refine jK ?_|refine jL ?_|refine jM ?_|refine jN ?_|refine jO ?_|refine jP ?_|refine jQ ?_|(refine jB ?_;clear hK K)|(refine jC ?_;clear hK K)|refine jD ?_|refine jE ?_|refine jG ?_|refine jH ?_|refine jI ?_)|((with_reducible refine jR ?hq ?_);case hq=>rfl)|((first|(with_reducible first|refine jS fun K hK=>?_|refine jT ?_|refine jU ?_)|((with_reducible refine jV ?hy fun K hK=>?_);case hy=>rfl));simp only [go_sem, Nat.reduceEqDiff, Nat.reduceAdd, Nat.reduceMul, Nat.reduceLeDiff, Nat.reduceLT, Int.reduceLT, Int.reduceLE, Int.reduceEq, Int.reduceNeg, Int.reduceToNat, Nat.reducePow, reduceIte, reduceCtorEq, hv, Bool.not_false])|((with_reducible first|refine jW ?hy ?_|refine jY ?hy ?_);case hy=>rfl)|((with_reducible first|refine jX ?hy ?_|refine jZ ?hy ?_);case hy=>rfl)|((with_reducible refine jF ?hy ?_);case hy=>decide))
 exact fin
theorem xs_ok {u v ru rv : Nat} (h : RXM H x T S) (k : S.Ok) (hu : u < S.n) (hv : v < S.n) (hru : RootOf S.par (u + 1) (ru + 1)) (hrv : RootOf S.par (v + 1) (rv + 1)) (fin : K (.tuple #[.bool (decide (ru + 1 = rv + 1)), .int .i64 0]) H) : CallsH Try.prog 37 #[.pointer (some ⟨x, 0, none⟩), .int .i64 (u : Nat), .int .i64 (v : Nat)] H K := by
 obtain ⟨gu, gb, cu, h1, h2⟩ := h
 have hb : (inB S.n (u : Int) && inB S.n (v : Int)) = true := by rw [inB_of hu, inB_of hv]; rfl
 refine call37 (by simp) ?_
 simp only [Try.f37, Option.getD_some]
 repeat' (first|(with_reducible first|refine jA ?_|(refine hK _ _ ?_;clear hK K)|refine jJ fun K hK=>?_|refine jK ?_|refine jL ?_|refine jM ?_|refine jN ?_|refine jO ?_|refine jP ?_|refine jQ ?_|(refine jB ?_;clear hK K)|(refine jC ?_;clear hK K)|refine jD ?_|refine jE ?_|refine jG ?_|refine jH ?_|refine jI ?_)|((with_reducible refine jR ?hq ?_);case hq=>rfl)|((first|(with_reducible first|refine jS fun K hK=>?_|refine jT ?_|refine jU ?_)|((with_reducible refine jV ?hy fun K hK=>?_);case hy=>rfl));simp only [go_sem, Nat.reduceEqDiff, Nat.reduceAdd, Nat.reduceMul, Nat.reduceLeDiff, Nat.reduceLT, Int.reduceLT, Int.reduceLE, Int.reduceEq, Int.reduceNeg, Int.reduceToNat, Nat.reducePow, reduceIte, reduceCtorEq])|((with_reducible first|refine jW ?hy ?_|refine jY ?hy ?_);case hy=>rfl)|((with_reducible first|refine jX ?hy ?_|refine jZ ?hy ?_);case hy=>rfl)|((with_reducible refine jF ?hy ?_);case hy=>decide))
 refine rx_both h1 ?_
 repeat' (first|(with_reducible first|refine jA ?_|(refine hK _ _ ?_;clear hK K)|refine jJ fun K hK=>?_|refine jK ?_|refine jL ?_|refine jM ?_|refine jN ?_|refine jO ?_|refine jP ?_|refine jQ ?_|(refine jB ?_;clear hK K)|(refine jC ?_;clear hK K)|refine jD ?_|refine jE ?_|refine jG ?_|refine jH ?_|refine jI ?_)|((with_reducible refine jR ?hq ?_);case hq=>rfl)|((first|(with_reducible first|refine jS fun K hK=>?_|refine jT ?_|refine jU ?_)|((with_reducible refine jV ?hy fun K hK=>?_);case hy=>rfl));simp only [go_sem, Nat.reduceEqDiff, Nat.reduceAdd, Nat.reduceMul, Nat.reduceLeDiff, Nat.reduceLT, Int.reduceLT, Int.reduceLE, Int.reduceEq, Int.reduceNeg, Int.reduceToNat, Nat.reducePow, reduceIte, reduceCtorEq, hb, Bool.not_true])|((with_reducible first|refine jW ?hy ?_|refine jY ?hy ?_);case hy=>rfl)|((with_reducible first|refine jX ?hy ?_|refine jZ ?hy ?_);case hy=>rfl)|((with_reducible refine jF ?hy ?_);case hy=>decide))
 refine rx_root h1 k hu hru ?_
 repeat' (first|(with_reducible first|refine jA ?_|(refine hK _ _ ?_;clear hK K)|refine jJ fun K hK=>?_|refine jK ?_|refine jL ?_|refine jM ?_|refine jN ?_|refine jO ?_|refine jP ?_|refine jQ ?_|(refine jB ?_;clear hK K)|(refine jC ?_;clear hK K)|refine jD ?_|refine jE ?_|refine jG ?_|refine jH ?_|refine jI ?_)|((with_reducible refine jR ?hq ?_);case hq=>rfl)|((first|(with_reducible first|refine jS fun K hK=>?_|refine jT ?_|refine jU ?_)|((with_reducible refine jV ?hy fun K hK=>?_);case hy=>rfl));simp only [go_sem, Nat.reduceEqDiff, Nat.reduceAdd, Nat.reduceMul, Nat.reduceLeDiff, Nat.reduceLT, Int.reduceLT, Int.reduceLE, Int.reduceEq, Int.reduceNeg, Int.reduceToNat, Nat.reducePow, reduceIte, reduceCtorEq])|((with_reducible first|refine jW ?hy ?_|refine jY ?hy ?_);case hy=>rfl)|((with_reducible first|refine jX ?hy ?_|refine jZ ?hy ?_);case hy=>rfl)|((with_reducible refine jF ?hy ?_);case hy=>decide))
 refine rx_root h1 k hv hrv ?_
 by_cases hr : ru = rv
 ·have t1 : ((ru : Int) == (rv : Int)) = true := by simp [hr]
  rw [decide_eq_true (by omega)] at fin
  repeat' (first|(with_reducible first|refine jA ?_|(refine hK _ _ ?_;clear hK K)|refine jJ fun K hK=>?_|refine jK ?_|refine jL ?_|refine jM ?_|refine jN ?_|refine jO ?_|refine jP ?_|refine jQ ?_|(refine jB ?_;clear hK K)|(refine jC ?_;clear hK K)|refine jD ?_|refine jE ?_|refine jG ?_|refine jH ?_|refine jI ?_)|((with_reducible refine jR ?hq ?_);case hq=>rfl)|((first|(with_reducible first|refine jS fun K hK=>?_|refine jT ?_|refine jU ?_)|((with_reducible refine jV ?hy fun K hK=>?_);case hy=>rfl));simp only [go_sem, Nat.reduceEqDiff, Nat.reduceAdd, Nat.reduceMul, Nat.reduceLeDiff, Nat.reduceLT, Int.reduceLT, Int.reduceLE, Int.reduceEq, Int.reduceNeg, Int.reduceToNat, Nat.reducePow, reduceIte, reduceCtorEq, t1])|((with_reducible first|refine jW ?hy ?_|refine jY ?hy ?_);case hy=>rfl)|((with_reducible first|refine jX ?hy ?_|refine jZ ?hy ?_);case hy=>rfl)|((with_reducible refine jF ?hy ?_);case hy=>decide))
  exact fin
 ·have t1 : ((ru : Int) == (rv : Int)) = false := by simp; omega
  rw [decide_eq_false (by omega)] at fin
  repeat' (first|(with_reducible first|refine jA ?_|(refine hK _ _ ?_;clear hK K)|refine jJ fun K hK=>?_|refine jK ?_|refine jL ?_|refine jM ?_|refine jN ?_|refine jO ?_|refine jP ?_|refine jQ ?_|(refine jB ?_;clear hK K)|(refine jC ?_;clear hK K)|refine jD ?_|refine jE ?_|refine jG ?_|refine jH ?_|refine jI ?_)|((with_reducible refine jR ?hq ?_);case hq=>rfl)|((first|(with_reducible first|refine jS fun K hK=>?_|refine jT ?_|refine jU ?_)|((with_reducible refine jV ?hy fun K hK=>?_);case hy=>rfl));simp only [go_sem, Nat.reduceEqDiff, Nat.reduceAdd, Nat.reduceMul, Nat.reduceLeDiff, Nat.reduceLT, Int.reduceLT, Int.reduceLE, Int.reduceEq, Int.reduceNeg, Int.reduceToNat, Nat.reducePow, reduceIte, reduceCtorEq, t1])|((with_reducible first|refine jW ?hy ?_|refine jY ?hy ?_);case hy=>rfl)|((with_reducible first|refine jX ?hy ?_|refine jZ ?hy ?_);case hy=>rfl)|((with_reducible refine jF ?hy ?_);case hy=>decide))
  exact fin
theorem xc_bad {id : Int} (h : RXM H x T S) (k : S.Ok) (hid : ∀ g e, S.E g = some e → e.id ≠ id) (fin : K (.int .i64 53) H) : CallsH Try.prog 34 #[.pointer (some ⟨x, 0, none⟩), .int .i64 id] H K := by
 obtain ⟨gu, gb, cu, h1, h2⟩ := h
 refine call34 (by simp) ?_
 simp only [Try.f34, Option.getD_some]
 repeat' (first|(with_reducible first|refine jA ?_|(refine hK _ _ ?_;clear hK K)|refine jJ fun K hK=>?_|refine jK ?_|refine jL ?_|refine jM ?_|refine jN ?_|refine jO ?_|refine jP ?_|refine jQ ?_|(refine jB ?_;clear hK K)|(refine jC ?_;clear hK K)|refine jD ?_|refine jE ?_|refine jG ?_|refine jH ?_|refine jI ?_)|((with_reducible refine jR ?hq ?_);case hq=>rfl)|((first|(with_reducible first|refine jS fun K hK=>?_|refine jT ?_|refine jU ?_)|((with_reducible refine jV ?hy fun K hK=>?_);case hy=>rfl));simp only [go_sem, Nat.reduceEqDiff, Nat.reduceAdd, Nat.reduceMul, Nat.reduceLeDiff, Nat.reduceLT, Int.reduceLT, Int.reduceLE, Int.reduceEq, Int.reduceNeg, Int.reduceToNat, Nat.reducePow, reduceIte, reduceCtorEq])|((with_reducible first|refine jW ?hy ?_|refine jY ?hy ?_);case hy=>rfl)|((with_reducible first|refine jX ?hy ?_|refine jZ ?hy ?_);case hy=>rfl)|((with_reducible refine jF ?hy ?_);case hy=>decide))
 refine rx_edge h1 k (fun c hc h => ?_) fun _ => ?_
 ·obtain ⟨e, h3, h4⟩ := k.has1 hc h
  exact absurd h4 (hid _ _ h3)
 ·have t1 : ((-1 : Int) < 0) = True := by simp
  repeat' (first|(with_reducible first|refine jA ?_|(refine hK _ _ ?_;clear hK K)|refine jJ fun K hK=>?_|refine jK ?_|refine jL ?_|refine jM ?_|refine jN ?_|refine jO ?_|refine jP ?_|refine jQ ?_|(refine jB ?_;clear hK K)|(refine jC ?_;clear hK K)|refine jD ?_|refine jE ?_|refine jG ?_|refine jH ?_|refine jI ?_)|((with_reducible refine jR ?hq ?_);case hq=>rfl)|((first|(with_reducible first|refine jS fun K hK=>?_|refine jT ?_|refine jU ?_)|((with_reducible refine jV ?hy fun K hK=>?_);case hy=>rfl));simp only [go_sem, Nat.reduceEqDiff, Nat.reduceAdd, Nat.reduceMul, Nat.reduceLeDiff, Nat.reduceLT, Int.reduceLT, Int.reduceLE, Int.reduceEq, Int.reduceNeg, Int.reduceToNat, Nat.reducePow, reduceIte, reduceCtorEq, t1])|((with_reducible first|refine jW ?hy ?_|refine jY ?hy ?_);case hy=>rfl)|((with_reducible first|refine jX ?hy ?_|refine jZ ?hy ?_);case hy=>rfl)|((with_reducible refine jF ?hy ?_);case hy=>decide))
  exact fin
theorem xc_ok {id : Int} {g c : Nat} {e : Ed} (h : RXM H x T S) (k : S.Ok) (he : S.E g = some e) (hi : e.id = id) (hc : S.par (c + 1) = g) (hcn : c < S.n) (fin : ∀ H', RXM H' x T (S.cut g (c + 1)) → Fr T H H' → K (.int .i64 0) H') :
  CallsH Try.prog 34 #[.pointer (some ⟨x, 0, none⟩), .int .i64 id] H K := by
 obtain ⟨gu, gb, cu, h1, h2⟩ := h
 refine call34 (by simp) ?_
 simp only [Try.f34, Option.getD_some]
 repeat' (first|(with_reducible first|refine jA ?_|(refine hK _ _ ?_;clear hK K)|refine jJ fun K hK=>?_|refine jK ?_|refine jL ?_|refine jM ?_|refine jN ?_|refine jO ?_|refine jP ?_|refine jQ ?_|(refine jB ?_;clear hK K)|(refine jC ?_;clear hK K)|refine jD ?_|refine jE ?_|refine jG ?_|refine jH ?_|refine jI ?_)|((with_reducible refine jR ?hq ?_);case hq=>rfl)|((first|(with_reducible first|refine jS fun K hK=>?_|refine jT ?_|refine jU ?_)|((with_reducible refine jV ?hy fun K hK=>?_);case hy=>rfl));simp only [go_sem, Nat.reduceEqDiff, Nat.reduceAdd, Nat.reduceMul, Nat.reduceLeDiff, Nat.reduceLT, Int.reduceLT, Int.reduceLE, Int.reduceEq, Int.reduceNeg, Int.reduceToNat, Nat.reducePow, reduceIte, reduceCtorEq])|((with_reducible first|refine jW ?hy ?_|refine jY ?hy ?_);case hy=>rfl)|((with_reducible first|refine jX ?hy ?_|refine jZ ?hy ?_);case hy=>rfl)|((with_reducible refine jF ?hy ?_);case hy=>decide))
 refine rx_edge h1 k (fun c' hc' h3 => ?_) fun hn => ?_
 ·obtain ⟨e', h4, h5⟩ := k.has1 hc' h3
  have h6 := k.uq _ _ _ _ h4 he (h5.trans hi.symm)
  obtain ⟨c2, _, _, _, _, _, c5⟩ := k.kid he
  obtain rfl : c' = c := by have := c5 _ h6; have := c5 _ hc; omega
  have t1 : ((c' : Int) < 0) = False := eq_false (by omega)
  have t0 : (c' < S.n) = True := eq_true hcn
  have c0 := h1.h0
  obtain ⟨wU, hX2, f2⟩ := h1.setU hcn (-1)
  have c1 := hX2.h1
  obtain ⟨w0, w1, w2, w3⟩ := hX2.okB hcn
  obtain ⟨hX3, f3⟩ := hX2.setB hcn Ed.zero
  repeat' (first|(with_reducible first|refine jA ?_|(refine hK _ _ ?_;clear hK K)|refine jJ fun K hK=>?_|refine jK ?_|refine jL ?_|refine jM ?_|refine jN ?_|refine jO ?_|refine jP ?_|refine jQ ?_|(refine jB ?_;clear hK K)|(refine jC ?_;clear hK K)|refine jD ?_|refine jE ?_|refine jG ?_|refine jH ?_|refine jI ?_)|((with_reducible refine jR ?hq ?_);case hq=>rfl)|((first|(with_reducible first|refine jS fun K hK=>?_|refine jT ?_|refine jU ?_)|((with_reducible refine jV ?hy fun K hK=>?_);case hy=>rfl));simp only [go_sem, Nat.reduceEqDiff, Nat.reduceAdd, Nat.reduceMul, Nat.reduceLeDiff, Nat.reduceLT, Int.reduceLT, Int.reduceLE, Int.reduceEq, Int.reduceNeg, Int.reduceToNat, Nat.reducePow, reduceIte, reduceCtorEq, t1, t0, c0, wU])|((with_reducible first|refine jW ?hy ?_|refine jY ?hy ?_);case hy=>rfl)|((with_reducible first|refine jX ?hy ?_|refine jZ ?hy ?_);case hy=>rfl)|((with_reducible refine jF ?hy ?_);case hy=>decide))
  simp only [Ed.zero] at hX3 f3
  generalize hset _ _ _ = H2 at c1 w0 w1 w2 w3 f2 hX3 f3 ⊢
  simp only [go_sem, Nat.reduceEqDiff, Nat.reduceAdd, Nat.reduceMul, Nat.reduceLeDiff, Nat.reduceLT, Int.reduceLT, Int.reduceLE, Int.reduceEq, Int.reduceNeg, Int.reduceToNat, Nat.reducePow, reduceIte, reduceCtorEq, c1]
  repeat' (first|(with_reducible first|refine jA ?_|(refine hK _ _ ?_;clear hK K)|refine jJ fun K hK=>?_|refine jK ?_|refine jL ?_|refine jM ?_|refine jN ?_|refine jO ?_|refine jP ?_|refine jQ ?_|(refine jB ?_;clear hK K)|(refine jC ?_;clear hK K)|refine jD ?_|refine jE ?_|refine jG ?_|refine jH ?_|refine jI ?_)|((with_reducible refine jR ?hq ?_);case hq=>rfl)|((first|(with_reducible first|refine jS fun K hK=>?_|refine jT ?_|refine jU ?_)|((with_reducible refine jV ?hy fun K hK=>?_);case hy=>rfl));simp only [go_sem, Nat.reduceEqDiff, Nat.reduceAdd, Nat.reduceMul, Nat.reduceLeDiff, Nat.reduceLT, Int.reduceLT, Int.reduceLE, Int.reduceEq, Int.reduceNeg, Int.reduceToNat, Nat.reducePow, reduceIte, reduceCtorEq, t0, w0, w1, w2, w3, hcell_push, hcell_top, okW_push, okW_top, hcell_hset_ne, hcell_hset_off, hcell_hset_eq, okW_hset, hset_size, Array.size_push, Nat.lt_add_one, ne_add_one, add_one_ne, Nat.add_assoc, add_same, add_lt_same, Nat.reduceEqDiff, lt_add_k, add_k_ne, ne_add_k])|((with_reducible first|refine jW ?hy ?_|refine jY ?hy ?_);case hy=>rfl)|((with_reducible first|refine jX ?hy ?_|refine jZ ?hy ?_);case hy=>rfl)|((with_reducible refine jF ?hy ?_);case hy=>decide))
  generalize hset _ _ _ = H3 at hX3 f3 ⊢
  refine fin _ ⟨gu, gb, cu, hX3.congr (fun w hw => ?_) fun w hw => ?_, h2⟩ ((f2.mono fun b _ hb => (h2 b).2 (.inr (.inl hb))).trans (f3.mono fun b _ hb => (h2 b).2 (.inr (.inr hb))))
  ·rw [(k.cut_up he hc hw).1]; rfl
  ·rw [(k.cut_up he hc hw).2]; rfl
 ·obtain ⟨c', h3, h4, h5⟩ := k.has1_of he hi
  exact absurd h5 (hn _ h3)
theorem xl_out {u v id w : Int} (h : RXM H x T S) (hv : (inB S.n u && inB S.n v) = false) (fin : K (.int .i64 50) H) : CallsH Try.prog 33 #[.pointer (some ⟨x, 0, none⟩), .int .i64 u, .int .i64 v, .int .i64 id, .int .i64 w] H K := by
 obtain ⟨gu, gb, cu, h1, h2⟩ := h
 refine call33 (by simp) ?_
 simp only [Try.f33, Option.getD_some]
 repeat' (first|(with_reducible first|refine jA ?_|(refine hK _ _ ?_;clear hK K)|refine jJ fun K hK=>?_|refine jK ?_|refine jL ?_|refine jM ?_|refine jN ?_|refine jO ?_|refine jP ?_|refine jQ ?_|(refine jB ?_;clear hK K)|(refine jC ?_;clear hK K)|refine jD ?_|refine jE ?_|refine jG ?_|refine jH ?_|refine jI ?_)|((with_reducible refine jR ?hq ?_);case hq=>rfl)|((first|(with_reducible first|refine jS fun K hK=>?_|refine jT ?_|refine jU ?_)|((with_reducible refine jV ?hy fun K hK=>?_);case hy=>rfl));simp only [go_sem, Nat.reduceEqDiff, Nat.reduceAdd, Nat.reduceMul, Nat.reduceLeDiff, Nat.reduceLT, Int.reduceLT, Int.reduceLE, Int.reduceEq, Int.reduceNeg, Int.reduceToNat, Nat.reducePow, reduceIte, reduceCtorEq])|((with_reducible first|refine jW ?hy ?_|refine jY ?hy ?_);case hy=>rfl)|((with_reducible first|refine jX ?hy ?_|refine jZ ?hy ?_);case hy=>rfl)|((with_reducible refine jF ?hy ?_);case hy=>decide))
 refine rx_both h1 ?_
 repeat' (first|(with_reducible first|refine jA ?_|(refine hK _ _ ?_;clear hK K)|refine jJ fun K hK=>?_|refine jK ?_|refine jL ?_|refine jM ?_|refine jN ?_|refine jO ?_|refine jP ?_|refine jQ ?_|(refine jB ?_;clear hK K)|(refine jC ?_;clear hK K)|refine jD ?_|refine jE ?_|refine jG ?_|refine jH ?_|refine jI ?_)|((with_reducible refine jR ?hq ?_);case hq=>rfl)|((first|(with_reducible first|refine jS fun K hK=>?_|refine jT ?_|refine jU ?_)|((with_reducible refine jV ?hy fun K hK=>?_);case hy=>rfl));simp only [go_sem, Nat.reduceEqDiff, Nat.reduceAdd, Nat.reduceMul, Nat.reduceLeDiff, Nat.reduceLT, Int.reduceLT, Int.reduceLE, Int.reduceEq, Int.reduceNeg, Int.reduceToNat, Nat.reducePow, reduceIte, reduceCtorEq, hv, Bool.not_false])|((with_reducible first|refine jW ?hy ?_|refine jY ?hy ?_);case hy=>rfl)|((with_reducible first|refine jX ?hy ?_|refine jZ ?hy ?_);case hy=>rfl)|((with_reducible refine jF ?hy ?_);case hy=>decide))
 exact fin
theorem xl_arg {u v id w : Int} (h : RXM H x T S) (hv : (inB S.n u && inB S.n v) = true) (ha : okArg id w = false) (fin : K (.int .i64 1) H) : CallsH Try.prog 33 #[.pointer (some ⟨x, 0, none⟩), .int .i64 u, .int .i64 v, .int .i64 id, .int .i64 w] H K := by
 obtain ⟨gu, gb, cu, h1, h2⟩ := h
 unfold okArg at ha
 refine call33 (by simp) ?_
 simp only [Try.f33, Option.getD_some]
 repeat' (first|(with_reducible first|refine jA ?_|(refine hK _ _ ?_;clear hK K)|refine jJ fun K hK=>?_|refine jK ?_|refine jL ?_|refine jM ?_|refine jN ?_|refine jO ?_|refine jP ?_|refine jQ ?_|(refine jB ?_;clear hK K)|(refine jC ?_;clear hK K)|refine jD ?_|refine jE ?_|refine jG ?_|refine jH ?_|refine jI ?_)|((with_reducible refine jR ?hq ?_);case hq=>rfl)|((first|(with_reducible first|refine jS fun K hK=>?_|refine jT ?_|refine jU ?_)|((with_reducible refine jV ?hy fun K hK=>?_);case hy=>rfl));simp only [go_sem, Nat.reduceEqDiff, Nat.reduceAdd, Nat.reduceMul, Nat.reduceLeDiff, Nat.reduceLT, Int.reduceLT, Int.reduceLE, Int.reduceEq, Int.reduceNeg, Int.reduceToNat, Nat.reducePow, reduceIte, reduceCtorEq])|((with_reducible first|refine jW ?hy ?_|refine jY ?hy ?_);case hy=>rfl)|((with_reducible first|refine jX ?hy ?_|refine jZ ?hy ?_);case hy=>rfl)|((with_reducible refine jF ?hy ?_);case hy=>decide))
 refine rx_both h1 ?_
 by_cases q1 : id < 0
 ·have t1 : (id < 0) = True := eq_true q1
  repeat' (first|(with_reducible first|refine jA ?_|(refine hK _ _ ?_;clear hK K)|refine jJ fun K hK=>?_|refine jK ?_|refine jL ?_|refine jM ?_|refine jN ?_|refine jO ?_|refine jP ?_|refine jQ ?_|(refine jB ?_;clear hK K)|(refine jC ?_;clear hK K)|refine jD ?_|refine jE ?_|refine jG ?_|refine jH ?_|refine jI ?_)|((with_reducible refine jR ?hq ?_);case hq=>rfl)|((first|(with_reducible first|refine jS fun K hK=>?_|refine jT ?_|refine jU ?_)|((with_reducible refine jV ?hy fun K hK=>?_);case hy=>rfl));simp only [go_sem, Nat.reduceEqDiff, Nat.reduceAdd, Nat.reduceMul, Nat.reduceLeDiff, Nat.reduceLT, Int.reduceLT, Int.reduceLE, Int.reduceEq, Int.reduceNeg, Int.reduceToNat, Nat.reducePow, reduceIte, reduceCtorEq, hv, Bool.not_true, t1])|((with_reducible first|refine jW ?hy ?_|refine jY ?hy ?_);case hy=>rfl)|((with_reducible first|refine jX ?hy ?_|refine jZ ?hy ?_);case hy=>rfl)|((with_reducible refine jF ?hy ?_);case hy=>decide))
  exact fin
 have t1 : (id < 0) = False := eq_false q1
 by_cases q2 : 1099511627776 < id
 ·have t2 : (1099511627776 < id) = True := eq_true q2
  repeat' (first|(with_reducible first|refine jA ?_|(refine hK _ _ ?_;clear hK K)|refine jJ fun K hK=>?_|refine jK ?_|refine jL ?_|refine jM ?_|refine jN ?_|refine jO ?_|refine jP ?_|refine jQ ?_|(refine jB ?_;clear hK K)|(refine jC ?_;clear hK K)|refine jD ?_|refine jE ?_|refine jG ?_|refine jH ?_|refine jI ?_)|((with_reducible refine jR ?hq ?_);case hq=>rfl)|((first|(with_reducible first|refine jS fun K hK=>?_|refine jT ?_|refine jU ?_)|((with_reducible refine jV ?hy fun K hK=>?_);case hy=>rfl));simp only [go_sem, Nat.reduceEqDiff, Nat.reduceAdd, Nat.reduceMul, Nat.reduceLeDiff, Nat.reduceLT, Int.reduceLT, Int.reduceLE, Int.reduceEq, Int.reduceNeg, Int.reduceToNat, Nat.reducePow, reduceIte, reduceCtorEq, hv, Bool.not_true, t1, t2])|((with_reducible first|refine jW ?hy ?_|refine jY ?hy ?_);case hy=>rfl)|((with_reducible first|refine jX ?hy ?_|refine jZ ?hy ?_);case hy=>rfl)|((with_reducible refine jF ?hy ?_);case hy=>decide))
  exact fin
 have t2 : (1099511627776 < id) = False := eq_false q2
 by_cases q3 : w < -1099511627776
 ·have t3 : (w < -1099511627776) = True := eq_true q3
  repeat' (first|(with_reducible first|refine jA ?_|(refine hK _ _ ?_;clear hK K)|refine jJ fun K hK=>?_|refine jK ?_|refine jL ?_|refine jM ?_|refine jN ?_|refine jO ?_|refine jP ?_|refine jQ ?_|(refine jB ?_;clear hK K)|(refine jC ?_;clear hK K)|refine jD ?_|refine jE ?_|refine jG ?_|refine jH ?_|refine jI ?_)|((with_reducible refine jR ?hq ?_);case hq=>rfl)|((first|(with_reducible first|refine jS fun K hK=>?_|refine jT ?_|refine jU ?_)|((with_reducible refine jV ?hy fun K hK=>?_);case hy=>rfl));simp only [go_sem, Nat.reduceEqDiff, Nat.reduceAdd, Nat.reduceMul, Nat.reduceLeDiff, Nat.reduceLT, Int.reduceLT, Int.reduceLE, Int.reduceEq, Int.reduceNeg, Int.reduceToNat, Nat.reducePow, reduceIte, reduceCtorEq, hv, Bool.not_true, t1, t2, t3])|((with_reducible first|refine jW ?hy ?_|refine jY ?hy ?_);case hy=>rfl)|((with_reducible first|refine jX ?hy ?_|refine jZ ?hy ?_);case hy=>rfl)|((with_reducible refine jF ?hy ?_);case hy=>decide))
  exact fin
 have t3 : (w < -1099511627776) = False := eq_false q3
 by_cases q4 : 1099511627776 < w
 ·have t4 : (1099511627776 < w) = True := eq_true q4
  repeat' (first|(with_reducible first|refine jA ?_|(refine hK _ _ ?_;clear hK K)|refine jJ fun K hK=>?_|refine jK ?_|refine jL ?_|refine jM ?_|refine jN ?_|refine jO ?_|refine jP ?_|refine jQ ?_|(refine jB ?_;clear hK K)|(refine jC ?_;clear hK K)|refine jD ?_|refine jE ?_|refine jG ?_|refine jH ?_|refine jI ?_)|((with_reducible refine jR ?hq ?_);case hq=>rfl)|((first|(with_reducible first|refine jS fun K hK=>?_|refine jT ?_|refine jU ?_)|((with_reducible refine jV ?hy fun K hK=>?_);case hy=>rfl));simp only [go_sem, Nat.reduceEqDiff, Nat.reduceAdd, Nat.reduceMul, Nat.reduceLeDiff, Nat.reduceLT, Int.reduceLT, Int.reduceLE, Int.reduceEq, Int.reduceNeg, Int.reduceToNat, Nat.reducePow, reduceIte, reduceCtorEq, hv, Bool.not_true, t1, t2, t3, t4])|((with_reducible first|refine jW ?hy ?_|refine jY ?hy ?_);case hy=>rfl)|((with_reducible first|refine jX ?hy ?_|refine jZ ?hy ?_);case hy=>rfl)|((with_reducible refine jF ?hy ?_);case hy=>decide))
  exact fin
 ·simp at ha
  omega
theorem xl_twice {u v id w : Int} {g : Nat} {e : Ed} (h : RXM H x T S) (k : S.Ok) (hv : (inB S.n u && inB S.n v) = true) (ha : okArg id w = true) (he : S.E g = some e) (hi : e.id = id) (fin : K (.int .i64 52) H) :
  CallsH Try.prog 33 #[.pointer (some ⟨x, 0, none⟩), .int .i64 u, .int .i64 v, .int .i64 id, .int .i64 w] H K := by
 obtain ⟨gu, gb, cu, h1, h2⟩ := h
 obtain ⟨⟨t1, t2⟩, t3, t4⟩ := okArg_ts ha
 refine call33 (by simp) ?_
 simp only [Try.f33, Option.getD_some]
 repeat' (first|(with_reducible first|refine jA ?_|(refine hK _ _ ?_;clear hK K)|refine jJ fun K hK=>?_|refine jK ?_|refine jL ?_|refine jM ?_|refine jN ?_|refine jO ?_|refine jP ?_|refine jQ ?_|(refine jB ?_;clear hK K)|(refine jC ?_;clear hK K)|refine jD ?_|refine jE ?_|refine jG ?_|refine jH ?_|refine jI ?_)|((with_reducible refine jR ?hq ?_);case hq=>rfl)|((first|(with_reducible first|refine jS fun K hK=>?_|refine jT ?_|refine jU ?_)|((with_reducible refine jV ?hy fun K hK=>?_);case hy=>rfl));simp only [go_sem, Nat.reduceEqDiff, Nat.reduceAdd, Nat.reduceMul, Nat.reduceLeDiff, Nat.reduceLT, Int.reduceLT, Int.reduceLE, Int.reduceEq, Int.reduceNeg, Int.reduceToNat, Nat.reducePow, reduceIte, reduceCtorEq])|((with_reducible first|refine jW ?hy ?_|refine jY ?hy ?_);case hy=>rfl)|((with_reducible first|refine jX ?hy ?_|refine jZ ?hy ?_);case hy=>rfl)|((with_reducible refine jF ?hy ?_);case hy=>decide))
 refine rx_both h1 ?_
 repeat' (first|(with_reducible first|refine jA ?_|(refine hK _ _ ?_;clear hK K)|refine jJ fun K hK=>?_|refine jK ?_|refine jL ?_|refine jM ?_|refine jN ?_|refine jO ?_|refine jP ?_|refine jQ ?_|(refine jB ?_;clear hK K)|(refine jC ?_;clear hK K)|refine jD ?_|refine jE ?_|refine jG ?_|refine jH ?_|refine jI ?_)|((with_reducible refine jR ?hq ?_);case hq=>rfl)|((first|(with_reducible first|refine jS fun K hK=>?_|refine jT ?_|refine jU ?_)|((with_reducible refine jV ?hy fun K hK=>?_);case hy=>rfl));simp only [go_sem, Nat.reduceEqDiff, Nat.reduceAdd, Nat.reduceMul, Nat.reduceLeDiff, Nat.reduceLT, Int.reduceLT, Int.reduceLE, Int.reduceEq, Int.reduceNeg, Int.reduceToNat, Nat.reducePow, reduceIte, reduceCtorEq, hv, Bool.not_true, t1, t2, t3, t4])|((with_reducible first|refine jW ?hy ?_|refine jY ?hy ?_);case hy=>rfl)|((with_reducible first|refine jX ?hy ?_|refine jZ ?hy ?_);case hy=>rfl)|((with_reducible refine jF ?hy ?_);case hy=>decide))
 refine rx_edge h1 k (fun c hc h3 => ?_) fun hn => ?_
 ·have t5 : ((0 : Int) ≤ (c : Nat)) = True := by simp
  repeat' (first|(with_reducible first|refine jA ?_|(refine hK _ _ ?_;clear hK K)|refine jJ fun K hK=>?_|refine jK ?_|refine jL ?_|refine jM ?_|refine jN ?_|refine jO ?_|refine jP ?_|refine jQ ?_|(refine jB ?_;clear hK K)|(refine jC ?_;clear hK K)|refine jD ?_|refine jE ?_|refine jG ?_|refine jH ?_|refine jI ?_)|((with_reducible refine jR ?hq ?_);case hq=>rfl)|((first|(with_reducible first|refine jS fun K hK=>?_|refine jT ?_|refine jU ?_)|((with_reducible refine jV ?hy fun K hK=>?_);case hy=>rfl));simp only [go_sem, Nat.reduceEqDiff, Nat.reduceAdd, Nat.reduceMul, Nat.reduceLeDiff, Nat.reduceLT, Int.reduceLT, Int.reduceLE, Int.reduceEq, Int.reduceNeg, Int.reduceToNat, Nat.reducePow, reduceIte, reduceCtorEq, t5])|((with_reducible first|refine jW ?hy ?_|refine jY ?hy ?_);case hy=>rfl)|((with_reducible first|refine jX ?hy ?_|refine jZ ?hy ?_);case hy=>rfl)|((with_reducible refine jF ?hy ?_);case hy=>decide))
  exact fin
 ·obtain ⟨c', h3, h4, h5⟩ := k.has1_of he hi
  exact absurd h5 (hn _ h3)
theorem xl_same {u v ru : Nat} {id w : Int} (h : RXM H x T S) (k : S.Ok) (hu : u < S.n) (hv : v < S.n) (ha : okArg id w = true) (hid : ∀ g e, S.E g = some e → e.id ≠ id) (hru : RootOf S.par (u + 1) (ru + 1)) (hrv : RootOf S.par (v + 1) (ru + 1)) (fin : K (.int .i64 51) H) :
  CallsH Try.prog 33 #[.pointer (some ⟨x, 0, none⟩), .int .i64 (u : Nat), .int .i64 (v : Nat), .int .i64 id, .int .i64 w] H K := by
 obtain ⟨gu, gb, cu, h1, h2⟩ := h
 obtain ⟨⟨t1, t2⟩, t3, t4⟩ := okArg_ts ha
 have hb : (inB S.n (u : Int) && inB S.n (v : Int)) = true := by rw [inB_of hu, inB_of hv]; rfl
 refine call33 (by simp) ?_
 simp only [Try.f33, Option.getD_some]
 repeat' (first|(with_reducible first|refine jA ?_|(refine hK _ _ ?_;clear hK K)|refine jJ fun K hK=>?_|refine jK ?_|refine jL ?_|refine jM ?_|refine jN ?_|refine jO ?_|refine jP ?_|refine jQ ?_|(refine jB ?_;clear hK K)|(refine jC ?_;clear hK K)|refine jD ?_|refine jE ?_|refine jG ?_|refine jH ?_|refine jI ?_)|((with_reducible refine jR ?hq ?_);case hq=>rfl)|((first|(with_reducible first|refine jS fun K hK=>?_|refine jT ?_|refine jU ?_)|((with_reducible refine jV ?hy fun K hK=>?_);case hy=>rfl));simp only [go_sem, Nat.reduceEqDiff, Nat.reduceAdd, Nat.reduceMul, Nat.reduceLeDiff, Nat.reduceLT, Int.reduceLT, Int.reduceLE, Int.reduceEq, Int.reduceNeg, Int.reduceToNat, Nat.reducePow, reduceIte, reduceCtorEq])|((with_reducible first|refine jW ?hy ?_|refine jY ?hy ?_);case hy=>rfl)|((with_reducible first|refine jX ?hy ?_|refine jZ ?hy ?_);case hy=>rfl)|((with_reducible refine jF ?hy ?_);case hy=>decide))
 refine rx_both h1 ?_
 repeat' (first|(with_reducible first|refine jA ?_|(refine hK _ _ ?_;clear hK K)|refine jJ fun K hK=>?_|refine jK ?_|refine jL ?_|refine jM ?_|refine jN ?_|refine jO ?_|refine jP ?_|refine jQ ?_|(refine jB ?_;clear hK K)|(refine jC ?_;clear hK K)|refine jD ?_|refine jE ?_|refine jG ?_|refine jH ?_|refine jI ?_)|((with_reducible refine jR ?hq ?_);case hq=>rfl)|((first|(with_reducible first|refine jS fun K hK=>?_|refine jT ?_|refine jU ?_)|((with_reducible refine jV ?hy fun K hK=>?_);case hy=>rfl));simp only [go_sem, Nat.reduceEqDiff, Nat.reduceAdd, Nat.reduceMul, Nat.reduceLeDiff, Nat.reduceLT, Int.reduceLT, Int.reduceLE, Int.reduceEq, Int.reduceNeg, Int.reduceToNat, Nat.reducePow, reduceIte, reduceCtorEq, hb, Bool.not_true, t1, t2, t3, t4])|((with_reducible first|refine jW ?hy ?_|refine jY ?hy ?_);case hy=>rfl)|((with_reducible first|refine jX ?hy ?_|refine jZ ?hy ?_);case hy=>rfl)|((with_reducible refine jF ?hy ?_);case hy=>decide))
 refine rx_edge h1 k (fun c hc h3 => ?_) fun hn => ?_
 ·obtain ⟨e', h4, h5⟩ := k.has1 hc h3
  exact absurd h5 (hid _ _ h4)
 ·have t5 : ((0 : Int) ≤ -1) = False := by simp
  have t6 : ((ru : Int) == (ru : Int)) = true := by simp
  repeat' (first|(with_reducible first|refine jA ?_|(refine hK _ _ ?_;clear hK K)|refine jJ fun K hK=>?_|refine jK ?_|refine jL ?_|refine jM ?_|refine jN ?_|refine jO ?_|refine jP ?_|refine jQ ?_|(refine jB ?_;clear hK K)|(refine jC ?_;clear hK K)|refine jD ?_|refine jE ?_|refine jG ?_|refine jH ?_|refine jI ?_)|((with_reducible refine jR ?hq ?_);case hq=>rfl)|((first|(with_reducible first|refine jS fun K hK=>?_|refine jT ?_|refine jU ?_)|((with_reducible refine jV ?hy fun K hK=>?_);case hy=>rfl));simp only [go_sem, Nat.reduceEqDiff, Nat.reduceAdd, Nat.reduceMul, Nat.reduceLeDiff, Nat.reduceLT, Int.reduceLT, Int.reduceLE, Int.reduceEq, Int.reduceNeg, Int.reduceToNat, Nat.reducePow, reduceIte, reduceCtorEq, t5])|((with_reducible first|refine jW ?hy ?_|refine jY ?hy ?_);case hy=>rfl)|((with_reducible first|refine jX ?hy ?_|refine jZ ?hy ?_);case hy=>rfl)|((with_reducible refine jF ?hy ?_);case hy=>decide))
  refine rx_root h1 k hu hru ?_
  repeat' (first|(with_reducible first|refine jA ?_|(refine hK _ _ ?_;clear hK K)|refine jJ fun K hK=>?_|refine jK ?_|refine jL ?_|refine jM ?_|refine jN ?_|refine jO ?_|refine jP ?_|refine jQ ?_|(refine jB ?_;clear hK K)|(refine jC ?_;clear hK K)|refine jD ?_|refine jE ?_|refine jG ?_|refine jH ?_|refine jI ?_)|((with_reducible refine jR ?hq ?_);case hq=>rfl)|((first|(with_reducible first|refine jS fun K hK=>?_|refine jT ?_|refine jU ?_)|((with_reducible refine jV ?hy fun K hK=>?_);case hy=>rfl));simp only [go_sem, Nat.reduceEqDiff, Nat.reduceAdd, Nat.reduceMul, Nat.reduceLeDiff, Nat.reduceLT, Int.reduceLT, Int.reduceLE, Int.reduceEq, Int.reduceNeg, Int.reduceToNat, Nat.reducePow, reduceIte, reduceCtorEq])|((with_reducible first|refine jW ?hy ?_|refine jY ?hy ?_);case hy=>rfl)|((with_reducible first|refine jX ?hy ?_|refine jZ ?hy ?_);case hy=>rfl)|((with_reducible refine jF ?hy ?_);case hy=>decide))
  refine rx_root h1 k hv hrv ?_
  repeat' (first|(with_reducible first|refine jA ?_|(refine hK _ _ ?_;clear hK K)|refine jJ fun K hK=>?_|refine jK ?_|refine jL ?_|refine jM ?_|refine jN ?_|refine jO ?_|refine jP ?_|refine jQ ?_|(refine jB ?_;clear hK K)|(refine jC ?_;clear hK K)|refine jD ?_|refine jE ?_|refine jG ?_|refine jH ?_|refine jI ?_)|((with_reducible refine jR ?hq ?_);case hq=>rfl)|((first|(with_reducible first|refine jS fun K hK=>?_|refine jT ?_|refine jU ?_)|((with_reducible refine jV ?hy fun K hK=>?_);case hy=>rfl));simp only [go_sem, Nat.reduceEqDiff, Nat.reduceAdd, Nat.reduceMul, Nat.reduceLeDiff, Nat.reduceLT, Int.reduceLT, Int.reduceLE, Int.reduceEq, Int.reduceNeg, Int.reduceToNat, Nat.reducePow, reduceIte, reduceCtorEq, t6])|((with_reducible first|refine jW ?hy ?_|refine jY ?hy ?_);case hy=>rfl)|((with_reducible first|refine jX ?hy ?_|refine jZ ?hy ?_);case hy=>rfl)|((with_reducible refine jF ?hy ?_);case hy=>decide))
  exact fin
theorem xl_ok {u v ru rv g : Nat} {l : List Nat} {id w : Int} (h : RXM H x T S) (k : S.Ok) (hu : u < S.n) (hv : v < S.n) (ha : okArg id w = true) (hid : ∀ g e, S.E g = some e → e.id ≠ id) (hru : RootOf S.par (u + 1) (ru + 1)) (hrv : RootOf S.par (v + 1) (rv + 1)) (hne : ru ≠ rv)
  (hl : Ch S.par (u + 1) l) (hg : S.n < g) (hE : S.E g = none) (fin : ∀ H', RXM H' x T (S.link l g ⟨id, (u : Nat), (v : Nat), w⟩) → Fr T H H' → K (.int .i64 0) H') :
  CallsH Try.prog 33 #[.pointer (some ⟨x, 0, none⟩), .int .i64 (u : Nat), .int .i64 (v : Nat), .int .i64 id, .int .i64 w] H K := by
 obtain ⟨gu, gb, cu, h1, h2⟩ := h
 obtain ⟨⟨t1, t2⟩, t3, t4⟩ := okArg_ts ha
 have hb : (inB S.n (u : Int) && inB S.n (v : Int)) = true := by rw [inB_of hu, inB_of hv]; rfl
 refine call33 (by simp) ?_
 simp only [Try.f33, Option.getD_some]
 repeat' (first|(with_reducible first|refine jA ?_|(refine hK _ _ ?_;clear hK K)|refine jJ fun K hK=>?_|refine jK ?_|refine jL ?_|refine jM ?_|refine jN ?_|refine jO ?_|refine jP ?_|refine jQ ?_|(refine jB ?_;clear hK K)|(refine jC ?_;clear hK K)|refine jD ?_|refine jE ?_|refine jG ?_|refine jH ?_|refine jI ?_)|((with_reducible refine jR ?hq ?_);case hq=>rfl)|((first|(with_reducible first|refine jS fun K hK=>?_|refine jT ?_|refine jU ?_)|((with_reducible refine jV ?hy fun K hK=>?_);case hy=>rfl));simp only [go_sem, Nat.reduceEqDiff, Nat.reduceAdd, Nat.reduceMul, Nat.reduceLeDiff, Nat.reduceLT, Int.reduceLT, Int.reduceLE, Int.reduceEq, Int.reduceNeg, Int.reduceToNat, Nat.reducePow, reduceIte, reduceCtorEq])|((with_reducible first|refine jW ?hy ?_|refine jY ?hy ?_);case hy=>rfl)|((with_reducible first|refine jX ?hy ?_|refine jZ ?hy ?_);case hy=>rfl)|((with_reducible refine jF ?hy ?_);case hy=>decide))
 refine rx_both h1 ?_
 repeat' (first|(with_reducible first|refine jA ?_|(refine hK _ _ ?_;clear hK K)|refine jJ fun K hK=>?_|refine jK ?_|refine jL ?_|refine jM ?_|refine jN ?_|refine jO ?_|refine jP ?_|refine jQ ?_|(refine jB ?_;clear hK K)|(refine jC ?_;clear hK K)|refine jD ?_|refine jE ?_|refine jG ?_|refine jH ?_|refine jI ?_)|((with_reducible refine jR ?hq ?_);case hq=>rfl)|((first|(with_reducible first|refine jS fun K hK=>?_|refine jT ?_|refine jU ?_)|((with_reducible refine jV ?hy fun K hK=>?_);case hy=>rfl));simp only [go_sem, Nat.reduceEqDiff, Nat.reduceAdd, Nat.reduceMul, Nat.reduceLeDiff, Nat.reduceLT, Int.reduceLT, Int.reduceLE, Int.reduceEq, Int.reduceNeg, Int.reduceToNat, Nat.reducePow, reduceIte, reduceCtorEq, hb, Bool.not_true, t1, t2, t3, t4])|((with_reducible first|refine jW ?hy ?_|refine jY ?hy ?_);case hy=>rfl)|((with_reducible first|refine jX ?hy ?_|refine jZ ?hy ?_);case hy=>rfl)|((with_reducible refine jF ?hy ?_);case hy=>decide))
 refine rx_edge h1 k (fun c hc h3 => ?_) fun hn => ?_
 ·obtain ⟨e', h4, h5⟩ := k.has1 hc h3
  exact absurd h5 (hid _ _ h4)
 ·have t5 : ((0 : Int) ≤ -1) = False := by simp
  have t6 : ((ru : Int) == (rv : Int)) = false := by simp; omega
  repeat' (first|(with_reducible first|refine jA ?_|(refine hK _ _ ?_;clear hK K)|refine jJ fun K hK=>?_|refine jK ?_|refine jL ?_|refine jM ?_|refine jN ?_|refine jO ?_|refine jP ?_|refine jQ ?_|(refine jB ?_;clear hK K)|(refine jC ?_;clear hK K)|refine jD ?_|refine jE ?_|refine jG ?_|refine jH ?_|refine jI ?_)|((with_reducible refine jR ?hq ?_);case hq=>rfl)|((first|(with_reducible first|refine jS fun K hK=>?_|refine jT ?_|refine jU ?_)|((with_reducible refine jV ?hy fun K hK=>?_);case hy=>rfl));simp only [go_sem, Nat.reduceEqDiff, Nat.reduceAdd, Nat.reduceMul, Nat.reduceLeDiff, Nat.reduceLT, Int.reduceLT, Int.reduceLE, Int.reduceEq, Int.reduceNeg, Int.reduceToNat, Nat.reducePow, reduceIte, reduceCtorEq, t5])|((with_reducible first|refine jW ?hy ?_|refine jY ?hy ?_);case hy=>rfl)|((with_reducible first|refine jX ?hy ?_|refine jZ ?hy ?_);case hy=>rfl)|((with_reducible refine jF ?hy ?_);case hy=>decide))
  refine rx_root h1 k hu hru ?_
  repeat' (first|(with_reducible first|refine jA ?_|(refine hK _ _ ?_;clear hK K)|refine jJ fun K hK=>?_|refine jK ?_|refine jL ?_|refine jM ?_|refine jN ?_|refine jO ?_|refine jP ?_|refine jQ ?_|(refine jB ?_;clear hK K)|(refine jC ?_;clear hK K)|refine jD ?_|refine jE ?_|refine jG ?_|refine jH ?_|refine jI ?_)|((with_reducible refine jR ?hq ?_);case hq=>rfl)|((first|(with_reducible first|refine jS fun K hK=>?_|refine jT ?_|refine jU ?_)|((with_reducible refine jV ?hy fun K hK=>?_);case hy=>rfl));simp only [go_sem, Nat.reduceEqDiff, Nat.reduceAdd, Nat.reduceMul, Nat.reduceLeDiff, Nat.reduceLT, Int.reduceLT, Int.reduceLE, Int.reduceEq, Int.reduceNeg, Int.reduceToNat, Nat.reducePow, reduceIte, reduceCtorEq])|((with_reducible first|refine jW ?hy ?_|refine jY ?hy ?_);case hy=>rfl)|((with_reducible first|refine jX ?hy ?_|refine jZ ?hy ?_);case hy=>rfl)|((with_reducible refine jF ?hy ?_);case hy=>decide))
  refine rx_root h1 k hv hrv ?_
  repeat' (first|(with_reducible first|refine jA ?_|(refine hK _ _ ?_;clear hK K)|refine jJ fun K hK=>?_|refine jK ?_|refine jL ?_|refine jM ?_|refine jN ?_|refine jO ?_|refine jP ?_|refine jQ ?_|(refine jB ?_;clear hK K)|(refine jC ?_;clear hK K)|refine jD ?_|refine jE ?_|refine jG ?_|refine jH ?_|refine jI ?_)|((with_reducible refine jR ?hq ?_);case hq=>rfl)|((first|(with_reducible first|refine jS fun K hK=>?_|refine jT ?_|refine jU ?_)|((with_reducible refine jV ?hy fun K hK=>?_);case hy=>rfl));simp only [go_sem, Nat.reduceEqDiff, Nat.reduceAdd, Nat.reduceMul, Nat.reduceLeDiff, Nat.reduceLT, Int.reduceLT, Int.reduceLE, Int.reduceEq, Int.reduceNeg, Int.reduceToNat, Nat.reducePow, reduceIte, reduceCtorEq, t6])|((with_reducible first|refine jW ?hy ?_|refine jY ?hy ?_);case hy=>rfl)|((with_reducible first|refine jX ?hy ?_|refine jZ ?hy ?_);case hy=>rfl)|((with_reducible refine jF ?hy ?_);case hy=>decide))
  refine rx_roots h1 k hu hl fun H1 hX1 hf1 => ?_
  have t0 : (u < S.n) = True := eq_true hu
  have c0 := hX1.h0
  obtain ⟨wU, hX2, f2⟩ := hX1.setU hu (v : Nat)
  have c1 := hX2.h1
  obtain ⟨w0, w1, w2, w3⟩ := hX2.okB hu
  obtain ⟨hX3, f3⟩ := hX2.setB hu ⟨id, (u : Nat), (v : Nat), w⟩
  repeat' (first|(with_reducible first|refine jA ?_|(refine hK _ _ ?_;clear hK K)|refine jJ fun K hK=>?_|refine jK ?_|refine jL ?_|refine jM ?_|refine jN ?_|refine jO ?_|refine jP ?_|refine jQ ?_|(refine jB ?_;clear hK K)|(refine jC ?_;clear hK K)|refine jD ?_|refine jE ?_|refine jG ?_|refine jH ?_|refine jI ?_)|((with_reducible refine jR ?hq ?_);case hq=>rfl)|((first|(with_reducible first|refine jS fun K hK=>?_|refine jT ?_|refine jU ?_)|((with_reducible refine jV ?hy fun K hK=>?_);case hy=>rfl));simp only [go_sem, Nat.reduceEqDiff, Nat.reduceAdd, Nat.reduceMul, Nat.reduceLeDiff, Nat.reduceLT, Int.reduceLT, Int.reduceLE, Int.reduceEq, Int.reduceNeg, Int.reduceToNat, Nat.reducePow, reduceIte, reduceCtorEq, t0, c0, wU])|((with_reducible first|refine jW ?hy ?_|refine jY ?hy ?_);case hy=>rfl)|((with_reducible first|refine jX ?hy ?_|refine jZ ?hy ?_);case hy=>rfl)|((with_reducible refine jF ?hy ?_);case hy=>decide))
  generalize hset _ _ _ = H2 at c1 w0 w1 w2 w3 f2 hX3 f3 ⊢
  simp only [go_sem, Nat.reduceEqDiff, Nat.reduceAdd, Nat.reduceMul, Nat.reduceLeDiff, Nat.reduceLT, Int.reduceLT, Int.reduceLE, Int.reduceEq, Int.reduceNeg, Int.reduceToNat, Nat.reducePow, reduceIte, reduceCtorEq, c1]
  repeat' (first|(with_reducible first|refine jA ?_|(refine hK _ _ ?_;clear hK K)|refine jJ fun K hK=>?_|refine jK ?_|refine jL ?_|refine jM ?_|refine jN ?_|refine jO ?_|refine jP ?_|refine jQ ?_|(refine jB ?_;clear hK K)|(refine jC ?_;clear hK K)|refine jD ?_|refine jE ?_|refine jG ?_|refine jH ?_|refine jI ?_)|((with_reducible refine jR ?hq ?_);case hq=>rfl)|((first|(with_reducible first|refine jS fun K hK=>?_|refine jT ?_|refine jU ?_)|((with_reducible refine jV ?hy fun K hK=>?_);case hy=>rfl));simp only [go_sem, Nat.reduceEqDiff, Nat.reduceAdd, Nat.reduceMul, Nat.reduceLeDiff, Nat.reduceLT, Int.reduceLT, Int.reduceLE, Int.reduceEq, Int.reduceNeg, Int.reduceToNat, Nat.reducePow, reduceIte, reduceCtorEq, t0, w0, w1, w2, w3, hcell_push, hcell_top, okW_push, okW_top, hcell_hset_ne, hcell_hset_off, hcell_hset_eq, okW_hset, hset_size, Array.size_push, Nat.lt_add_one, ne_add_one, add_one_ne, Nat.add_assoc, add_same, add_lt_same, Nat.reduceEqDiff, lt_add_k, add_k_ne, ne_add_k])|((with_reducible first|refine jW ?hy ?_|refine jY ?hy ?_);case hy=>rfl)|((with_reducible first|refine jX ?hy ?_|refine jZ ?hy ?_);case hy=>rfl)|((with_reducible refine jF ?hy ?_);case hy=>decide))
  generalize hset _ _ _ = H3 at hX3 f3 ⊢
  refine fin _ ⟨gu, gb, cu, hX3.congr (fun w' hw => ?_) fun w' hw => ?_, h2⟩ (((hf1.mono fun b _ hb => (h2 b).2 (.inr hb)).trans (f2.mono fun b _ hb => (h2 b).2 (.inr (.inl hb)))).trans (f3.mono fun b _ hb => (h2 b).2 (.inr (.inr hb))))
  ·rw [(k.link_up (e := ⟨id, (u : Nat), (v : Nat), w⟩) hu hv hw rfl rfl hl hg hE).1]; rfl
  ·rw [(k.link_up (e := ⟨id, (u : Nat), (v : Nat), w⟩) hu hv hw rfl rfl hl hg hE).2]; rfl
end
end Go.Proofs.Ytoplhfhjokjbiaa
namespace Go.Li
open Go Go.Hp
def idL (l : List Ed) (i : Int) : Option Nat := l.findIdx? fun x => decide (x.id = i)
theorem idL_some {l : List Ed} {i : Int} {k : Nat} (h : idL l i = some k) : ∃ x, l[k]? = some x ∧ x.id = i ∧ k < l.length := by
 unfold idL at h
 rw [List.findIdx?_eq_some_iff_getElem] at h
 obtain ⟨hk, h1, _⟩ := h
 exact ⟨l[k], List.getElem?_eq_getElem hk, by simpa using h1, hk⟩
theorem idL_none {l : List Ed} {i : Int} : idL l i = none ↔ ∀ x ∈ l, x.id ≠ i := by
 unfold idL
 rw [List.findIdx?_eq_none_iff]
 simp
theorem idL_of {l : List Ed} {x : Ed} (hx : x ∈ l) (hu : ∀ y ∈ l, y.id = x.id → y = x) : ∃ k, idL l x.id = some k ∧ l[k]? = some x := by
 cases h : idL l x.id with
 | none => exact absurd rfl (idL_none.1 h x hx)
 | some k =>
  obtain ⟨y, h1, h2, h3⟩ := idL_some h
  rw [hu y (List.mem_of_getElem? h1) h2] at h1
  exact ⟨k, rfl, h1⟩
def idI (k : Option Nat) : Int := match k with | some i => (i : Int) | none => -1
theorem idI_none : idI none = -1 := rfl
theorem idI_some (k : Nat) : idI (some k) = (k : Int) := rfl
end Go.Li
namespace Go.Proofs.Ytoplhfhjokjbiaa
open Go Go.Hp Go.Li
set_option linter.all false
set_option maxRecDepth 100000
set_option maxHeartbeats 1600000
theorem edC_len (x : Ed) : (Ed.cells x).length = 4 := rfl
theorem edC_plain (x : Ed) : ∀ u ∈ Ed.cells x, plainVal u = true := by
 intro u hu
 simp only [Ed.cells, List.mem_cons, List.not_mem_nil, or_false] at hu
 rcases hu with rfl | rfl | rfl | rfl <;> rfl
section
variable {H0 H H' : Heap} {L : Value → Heap → Prop}
theorem id_ok {i0 : Int} {B : Option Nat} {vl : Value} {l : List Ed} (hl : SR Ed.cells 4 H B vl l) (hll : l.length ≤ 9223372036854775806) (fin : L (.int .i64 (idI (idL l i0))) H) :
  CallsH Try.prog 15 #[vl, .int .i64 i0] H L := by
 obtain ⟨al, cl, rfl⟩ := hl.slice
 refine call15 (by simp) ?_
 simp only [Try.f15, Option.getD_some]
 repeat' (first|(with_reducible first|refine jA ?_|(refine hK _ _ ?_;clear hK K)|refine jJ fun K hK=>?_|refine jK ?_|refine jL ?_|refine jM ?_|refine jN ?_|refine jO ?_|refine jP ?_|refine jQ ?_|(refine jB ?_;clear hK K)|(refine jC ?_;clear hK K)|refine jD ?_|refine jE ?_|refine jG ?_|refine jH ?_|refine jI ?_)|((with_reducible refine jR ?hq ?_);case hq=>rfl)|((first|(with_reducible first|refine jS fun K hK=>?_|refine jT ?_|refine jU ?_)|((with_reducible refine jV ?hy fun K hK=>?_);case hy=>rfl));simp only [go_sem, Nat.reduceEqDiff, Nat.reduceAdd, Nat.reduceMul, Nat.reduceLeDiff, Nat.reduceLT, Int.reduceLT, Int.reduceLE, Int.reduceEq, Int.reduceNeg, Int.reduceToNat, Nat.reducePow, reduceIte, reduceCtorEq])|((with_reducible first|refine jW ?hy ?_|refine jY ?hy ?_);case hy=>rfl)|((with_reducible first|refine jX ?hy ?_|refine jZ ?hy ?_);case hy=>rfl)|((with_reducible refine jF ?hy ?_);case hy=>decide))
 refine x_loop (fun m e' H' => ∃ i : Nat, H' = H ∧ e' 5 = .int .i64 (i : Nat) ∧ i ≤ l.length ∧ (∀ j x, j < i → l[j]? = some x → x.id ≠ i0) ∧ m = l.length - i) l.length ⟨0, rfl, rfl, Nat.zero_le _, fun j p h => (by omega), rfl⟩ ?_
 rintro m e1 H1 ⟨i, rfl, i5, hi, hall, rfl⟩ hoff
 have i0' : e1 0 = .slice al l.length cl := (hoff 0 rfl).trans rfl
 have i1 : e1 1 = .int .i64 i0 := (hoff 1 rfl).trans rfl
 clear hoff
 by_cases hlt : i < l.length
 ·obtain ⟨x, hx⟩ : ∃ x, l[i]? = some x := ⟨_, List.getElem?_eq_getElem hlt⟩
  obtain ⟨gl, cl', rfl, hv, _, hc⟩ := hl.at edC_len hx
  simp only [Value.slice.injEq] at hv
  obtain ⟨rfl, _, rfl⟩ := hv
  have c0 := hc 0 (.int .i64 x.id) rfl
  rw [Nat.add_zero] at c0
  have ew : IntKind.i64.wrap ((i : Int) + 1) = ((i + 1 : Nat) : Int) := by rw [wrap_i64] <;> omega
  by_cases h1 : x.id = i0
  ·have t1 : (x.id == i0) = true := by simp [h1]
   repeat' (first|(with_reducible first|refine jA ?_|(refine hK _ _ ?_;clear hK K)|refine jJ fun K hK=>?_|refine jK ?_|refine jL ?_|refine jM ?_|refine jN ?_|refine jO ?_|refine jP ?_|refine jQ ?_|(refine jB ?_;clear hK K)|(refine jC ?_;clear hK K)|refine jD ?_|refine jE ?_|refine jG ?_|refine jH ?_|refine jI ?_)|((with_reducible refine jR ?hq ?_);case hq=>rfl)|((first|(with_reducible first|refine jS fun K hK=>?_|refine jT ?_|refine jU ?_)|((with_reducible refine jV ?hy fun K hK=>?_);case hy=>rfl));simp only [go_sem, Nat.reduceEqDiff, Nat.reduceAdd, Nat.reduceMul, Nat.reduceLeDiff, Nat.reduceLT, Int.reduceLT, Int.reduceLE, Int.reduceEq, Int.reduceNeg, Int.reduceToNat, Nat.reducePow, reduceIte, reduceCtorEq, i0', i1, i5, hlt, c0, t1])|((with_reducible first|refine jW ?hy ?_|refine jY ?hy ?_);case hy=>rfl)|((with_reducible first|refine jX ?hy ?_|refine jZ ?hy ?_);case hy=>rfl)|((with_reducible refine jF ?hy ?_);case hy=>decide))
   have : idL l i0 = some i := by
    unfold idL
    rw [List.findIdx?_eq_some_iff_getElem]
    refine ⟨hlt, ?_, fun j hj => ?_⟩
    ·rw [(List.getElem?_eq_some_iff.1 hx).2]
     simp [h1]
    ·have := hall j _ hj (List.getElem?_eq_getElem (by omega))
     simpa using this
   rw [this] at fin
   exact fin
  ·have t1 : (x.id == i0) = false := by simp [h1]
   repeat' (first|(with_reducible first|refine jA ?_|(refine hK _ _ ?_;clear hK K)|refine jJ fun K hK=>?_|refine jK ?_|refine jL ?_|refine jM ?_|refine jN ?_|refine jO ?_|refine jP ?_|refine jQ ?_|(refine jB ?_;clear hK K)|(refine jC ?_;clear hK K)|refine jD ?_|refine jE ?_|refine jG ?_|refine jH ?_|refine jI ?_)|((with_reducible refine jR ?hq ?_);case hq=>rfl)|((first|(with_reducible first|refine jS fun K hK=>?_|refine jT ?_|refine jU ?_)|((with_reducible refine jV ?hy fun K hK=>?_);case hy=>rfl));simp only [go_sem, Nat.reduceEqDiff, Nat.reduceAdd, Nat.reduceMul, Nat.reduceLeDiff, Nat.reduceLT, Int.reduceLT, Int.reduceLE, Int.reduceEq, Int.reduceNeg, Int.reduceToNat, Nat.reducePow, reduceIte, reduceCtorEq, i0', i1, i5, hlt, c0, t1, ew])|((with_reducible first|refine jW ?hy ?_|refine jY ?hy ?_);case hy=>rfl)|((with_reducible first|refine jX ?hy ?_|refine jZ ?hy ?_);case hy=>rfl)|((with_reducible refine jF ?hy ?_);case hy=>decide))
   refine loop_normal (m' := l.length - (i + 1)) (by omega) ⟨i + 1, rfl, rfl, hlt, fun j y hj hy => ?_, rfl⟩
   rcases Nat.lt_succ_iff_lt_or_eq.1 hj with h | rfl
   ·exact hall j y h hy
   ·rw [hx] at hy
    obtain rfl := Option.some.inj hy
    exact h1
 ·have t1 : (i < l.length) = False := by simp [hlt]
  have : idL l i0 = none := idL_none.2 fun x hx => by
   obtain ⟨j, hj, rfl⟩ := List.mem_iff_getElem.1 hx
   exact hall j _ (by omega) (List.getElem?_eq_getElem hj)
  rw [this] at fin
  repeat' (first|(with_reducible first|refine jA ?_|(refine hK _ _ ?_;clear hK K)|refine jJ fun K hK=>?_|refine jK ?_|refine jL ?_|refine jM ?_|refine jN ?_|refine jO ?_|refine jP ?_|refine jQ ?_|(refine jB ?_;clear hK K)|(refine jC ?_;clear hK K)|refine jD ?_|refine jE ?_|refine jG ?_|refine jH ?_|refine jI ?_)|((with_reducible refine jR ?hq ?_);case hq=>rfl)|((first|(with_reducible first|refine jS fun K hK=>?_|refine jT ?_|refine jU ?_)|((with_reducible refine jV ?hy fun K hK=>?_);case hy=>rfl));simp only [go_sem, Nat.reduceEqDiff, Nat.reduceAdd, Nat.reduceMul, Nat.reduceLeDiff, Nat.reduceLT, Int.reduceLT, Int.reduceLE, Int.reduceEq, Int.reduceNeg, Int.reduceToNat, Nat.reducePow, reduceIte, reduceCtorEq, i0', i5, t1])|((with_reducible first|refine jW ?hy ?_|refine jY ?hy ?_);case hy=>rfl)|((with_reducible first|refine jX ?hy ?_|refine jZ ?hy ?_);case hy=>rfl)|((with_reducible refine jF ?hy ?_);case hy=>decide))
  exact fin
theorem lheavier_ok {a b : Ed} (fin : ∀ H', Fr (fun _ => False) H H' → L (.bool (heavy a b)) H') :
  CallsH Try.prog 14 #[a.val, b.val] H L := by
 simp only [Ed.val]
 refine call14 (by simp) ?_
 simp only [Try.f14, Option.getD_some]
 unfold heavy at fin
 by_cases h1 : a.w > b.w
 ·have t1 : (b.w < a.w) = True := by simp; omega
  rw [decide_eq_true h1, Bool.true_or] at fin
  repeat' (first|(with_reducible first|refine jA ?_|(refine hK _ _ ?_;clear hK K)|refine jJ fun K hK=>?_|refine jK ?_|refine jL ?_|refine jM ?_|refine jN ?_|refine jO ?_|refine jP ?_|refine jQ ?_|(refine jB ?_;clear hK K)|(refine jC ?_;clear hK K)|refine jD ?_|refine jE ?_|refine jG ?_|refine jH ?_|refine jI ?_)|((with_reducible refine jR ?hq ?_);case hq=>rfl)|((first|(with_reducible first|refine jS fun K hK=>?_|refine jT ?_|refine jU ?_)|((with_reducible refine jV ?hy fun K hK=>?_);case hy=>rfl));simp only [go_sem, Nat.reduceEqDiff, Nat.reduceAdd, Nat.reduceMul, Nat.reduceLeDiff, Nat.reduceLT, Int.reduceLT, Int.reduceLE, Int.reduceEq, Int.reduceNeg, Int.reduceToNat, Nat.reducePow, reduceIte, reduceCtorEq, t1, Array.size_push, hcell_push, hcell_top, okW_push, okW_top, hcell_hset_ne, hcell_hset_off, hcell_hset_eq, okW_hset, hset_size, Array.size_push, Nat.lt_add_one, ne_add_one, add_one_ne, Nat.add_assoc, add_same, add_lt_same, Nat.reduceEqDiff, lt_add_k, add_k_ne, ne_add_k])|((with_reducible first|refine jW ?hy ?_|refine jY ?hy ?_);case hy=>rfl)|((with_reducible first|refine jX ?hy ?_|refine jZ ?hy ?_);case hy=>rfl)|((with_reducible refine jF ?hy ?_);case hy=>decide))
  exact fin _ (((Fr.refl _ _).push _).push _)
 ·have t1 : (b.w < a.w) = False := by simp; omega
  rw [decide_eq_false h1, Bool.false_or] at fin
  by_cases h2 : a.w = b.w
  ·have t2 : (a.w == b.w) = true := by simp [h2]
   rw [decide_eq_true h2, Bool.true_and] at fin
   by_cases h3 : a.id > b.id
   ·have t3 : (b.id < a.id) = True := by simp; omega
    rw [decide_eq_true h3] at fin
    repeat' (first|(with_reducible first|refine jA ?_|(refine hK _ _ ?_;clear hK K)|refine jJ fun K hK=>?_|refine jK ?_|refine jL ?_|refine jM ?_|refine jN ?_|refine jO ?_|refine jP ?_|refine jQ ?_|(refine jB ?_;clear hK K)|(refine jC ?_;clear hK K)|refine jD ?_|refine jE ?_|refine jG ?_|refine jH ?_|refine jI ?_)|((with_reducible refine jR ?hq ?_);case hq=>rfl)|((first|(with_reducible first|refine jS fun K hK=>?_|refine jT ?_|refine jU ?_)|((with_reducible refine jV ?hy fun K hK=>?_);case hy=>rfl));simp only [go_sem, Nat.reduceEqDiff, Nat.reduceAdd, Nat.reduceMul, Nat.reduceLeDiff, Nat.reduceLT, Int.reduceLT, Int.reduceLE, Int.reduceEq, Int.reduceNeg, Int.reduceToNat, Nat.reducePow, reduceIte, reduceCtorEq, t1, t2, t3, Array.size_push, hcell_push, hcell_top, okW_push, okW_top, hcell_hset_ne, hcell_hset_off, hcell_hset_eq, okW_hset, hset_size, Array.size_push, Nat.lt_add_one, ne_add_one, add_one_ne, Nat.add_assoc, add_same, add_lt_same, Nat.reduceEqDiff, lt_add_k, add_k_ne, ne_add_k])|((with_reducible first|refine jW ?hy ?_|refine jY ?hy ?_);case hy=>rfl)|((with_reducible first|refine jX ?hy ?_|refine jZ ?hy ?_);case hy=>rfl)|((with_reducible refine jF ?hy ?_);case hy=>decide))
    exact fin _ (((Fr.refl _ _).push _).push _)
   ·have t3 : (b.id < a.id) = False := by simp; omega
    rw [decide_eq_false h3] at fin
    repeat' (first|(with_reducible first|refine jA ?_|(refine hK _ _ ?_;clear hK K)|refine jJ fun K hK=>?_|refine jK ?_|refine jL ?_|refine jM ?_|refine jN ?_|refine jO ?_|refine jP ?_|refine jQ ?_|(refine jB ?_;clear hK K)|(refine jC ?_;clear hK K)|refine jD ?_|refine jE ?_|refine jG ?_|refine jH ?_|refine jI ?_)|((with_reducible refine jR ?hq ?_);case hq=>rfl)|((first|(with_reducible first|refine jS fun K hK=>?_|refine jT ?_|refine jU ?_)|((with_reducible refine jV ?hy fun K hK=>?_);case hy=>rfl));simp only [go_sem, Nat.reduceEqDiff, Nat.reduceAdd, Nat.reduceMul, Nat.reduceLeDiff, Nat.reduceLT, Int.reduceLT, Int.reduceLE, Int.reduceEq, Int.reduceNeg, Int.reduceToNat, Nat.reducePow, reduceIte, reduceCtorEq, t1, t2, t3, Array.size_push, hcell_push, hcell_top, okW_push, okW_top, hcell_hset_ne, hcell_hset_off, hcell_hset_eq, okW_hset, hset_size, Array.size_push, Nat.lt_add_one, ne_add_one, add_one_ne, Nat.add_assoc, add_same, add_lt_same, Nat.reduceEqDiff, lt_add_k, add_k_ne, ne_add_k])|((with_reducible first|refine jW ?hy ?_|refine jY ?hy ?_);case hy=>rfl)|((with_reducible first|refine jX ?hy ?_|refine jZ ?hy ?_);case hy=>rfl)|((with_reducible refine jF ?hy ?_);case hy=>decide))
    exact fin _ (((Fr.refl _ _).push _).push _)
  ·have t2 : (a.w == b.w) = false := by simp [h2]
   rw [decide_eq_false h2, Bool.false_and] at fin
   repeat' (first|(with_reducible first|refine jA ?_|(refine hK _ _ ?_;clear hK K)|refine jJ fun K hK=>?_|refine jK ?_|refine jL ?_|refine jM ?_|refine jN ?_|refine jO ?_|refine jP ?_|refine jQ ?_|(refine jB ?_;clear hK K)|(refine jC ?_;clear hK K)|refine jD ?_|refine jE ?_|refine jG ?_|refine jH ?_|refine jI ?_)|((with_reducible refine jR ?hq ?_);case hq=>rfl)|((first|(with_reducible first|refine jS fun K hK=>?_|refine jT ?_|refine jU ?_)|((with_reducible refine jV ?hy fun K hK=>?_);case hy=>rfl));simp only [go_sem, Nat.reduceEqDiff, Nat.reduceAdd, Nat.reduceMul, Nat.reduceLeDiff, Nat.reduceLT, Int.reduceLT, Int.reduceLE, Int.reduceEq, Int.reduceNeg, Int.reduceToNat, Nat.reducePow, reduceIte, reduceCtorEq, t1, t2, Array.size_push, hcell_push, hcell_top, okW_push, okW_top, hcell_hset_ne, hcell_hset_off, hcell_hset_eq, okW_hset, hset_size, Array.size_push, Nat.lt_add_one, ne_add_one, add_one_ne, Nat.add_assoc, add_same, add_lt_same, Nat.reduceEqDiff, lt_add_k, add_k_ne, ne_add_k])|((with_reducible first|refine jW ?hy ?_|refine jY ?hy ?_);case hy=>rfl)|((with_reducible first|refine jX ?hy ?_|refine jZ ?hy ?_);case hy=>rfl)|((with_reducible refine jF ?hy ?_);case hy=>decide))
   exact fin _ (((Fr.refl _ _).push _).push _)
end
end Go.Proofs.Ytoplhfhjokjbiaa
namespace Go.Li
open Go Go.Hp
set_option linter.unusedVariables false
theorem sr_drop {H : Heap} {B : Option Nat} {v : Value} {xs : List Ed} {x : Ed} (h : SR Ed.cells 4 H B v (xs ++ [x])) : ∃ g c, B = some g ∧ v = .slice (some ⟨g, 0, none⟩) (xs.length + 1) c ∧ xs.length + 1 ≤ c ∧ hcell H ⟨g, xs.length * 4, none⟩ = some (.int .i64 x.id) ∧ SR Ed.cells 4 H (some g) (.slice (some ⟨g, 0, none⟩) xs.length c) xs := by
 obtain ⟨h0, h | ⟨g, c, rest, h1, h2, h3, h4, h5⟩⟩ := h
 ·have := h.2.2; simp at this
 ·simp only [List.length_append, List.length_cons, List.length_nil] at h2 h4 h5
  have hl := srf_len (C := Ed.cells) (k := 4) (fun x => rfl) xs
  refine ⟨g, c, h1, h2, by omega, ?_, hl, .inr ⟨g, c, x.cells ++ rest, rfl, rfl, ?_, ?_, by omega⟩⟩
  ·refine h3.cellOf ?_
   rw [List.flatMap_append, List.append_assoc, List.getElem?_append_right (by omega), hl, Nat.sub_self]
   rfl
  ·rw [List.flatMap_append, List.append_assoc] at h3
   simpa using h3
  ·rw [List.flatMap_append] at h4
   simp at h4 ⊢
   omega
section
variable {S : Ls}
theorem Ls.Ok.eL_vs (k : S.Ok) : ∀ (m : Nat) (l : List Nat) (v : Nat), l.length ≤ m → v < S.n → Ch S.par (v + 1) l → ∃ vs : List Nat, vs.Nodup ∧ (∀ x ∈ vs, x ∈ l ∧ x < S.n + 1) ∧ vs.length = (eL S l).length + 1
 | 0, l, v, h, _, hl => by
  have := hl.ne
  exact absurd (List.length_eq_zero_iff.1 (Nat.le_zero.1 h)) this
 | m + 1, l, v, h, hv, hl => by
  have ev : S.E (v + 1) = none := k.eno (by omega)
  rcases k.chain_cases hv hl with ⟨rfl, _, _⟩ | ⟨g, e, p, l', rfl, h1, h2, _, _, h3, h4, _⟩
  ·refine ⟨[v + 1], by simp, fun x hx => by obtain rfl := List.mem_singleton.1 hx; exact ⟨.head _, by omega⟩, ?_⟩
   unfold eL; simp [ev]
  ·obtain ⟨vs, q1, q2, q3⟩ := k.eL_vs m l' p (by simp at h; omega) h3 h1
   have hnd := hl.nodup
   refine ⟨(v + 1) :: vs, ?_, fun x hx => ?_, ?_⟩
   ·rw [List.nodup_cons]
    refine ⟨fun hm => ?_, q1⟩
    rw [List.nodup_cons] at hnd
    exact hnd.1 (.tail _ (q2 _ hm).1)
   ·rcases List.mem_cons.1 hx with rfl | hx
    ·exact ⟨.head _, by omega⟩
    ·exact ⟨.tail _ (.tail _ (q2 _ hx).1), (q2 _ hx).2⟩
   ·have : eL S ((v + 1) :: g :: l') = e :: eL S l' := by unfold eL; simp [ev, h2]
    rw [this]; simp [q3]
theorem Ls.Ok.eL_le (k : S.Ok) {l : List Nat} {v : Nat} (hv : v < S.n) (hl : Ch S.par (v + 1) l) : (eL S l).length ≤ 64 := by
 obtain ⟨vs, q1, q2, q3⟩ := k.eL_vs _ l v (Nat.le_refl _) hv hl
 have := Go.Proofs.Ytoplhfhjokjbiaa.len_bound q1 fun x hx => (q2 x hx).2
 have := k.n64
 omega
end
end Go.Li
namespace Go.Proofs.Ytoplhfhjokjbiaa
open Go Go.Hp Go.Li
set_option linter.all false
set_option maxRecDepth 100000
set_option maxHeartbeats 1600000
section
variable {H H' : Heap} {L : Value → Heap → Prop}
theorem rx_Heavier {a b : Ed} (fin : ∀ H', Fr (fun _ => False) H H' → L (.bool (heavy a b)) H') :
  CallsH Try.prog 52 #[a.val, b.val] H L := by
 simp only [Ed.val]
 refine call52 (by simp) ?_
 simp only [Try.f52, Option.getD_some]
 unfold heavy at fin
 by_cases h1 : a.w > b.w
 ·have t1 : (b.w < a.w) = True := by simp; omega
  rw [decide_eq_true h1, Bool.true_or] at fin
  repeat' (first|(with_reducible first|refine jA ?_|(refine hK _ _ ?_;clear hK K)|refine jJ fun K hK=>?_|refine jK ?_|refine jL ?_|refine jM ?_|refine jN ?_|refine jO ?_|refine jP ?_|refine jQ ?_|(refine jB ?_;clear hK K)|(refine jC ?_;clear hK K)|refine jD ?_|refine jE ?_|refine jG ?_|refine jH ?_|refine jI ?_)|((with_reducible refine jR ?hq ?_);case hq=>rfl)|((first|(with_reducible first|refine jS fun K hK=>?_|refine jT ?_|refine jU ?_)|((with_reducible refine jV ?hy fun K hK=>?_);case hy=>rfl));simp only [go_sem, Nat.reduceEqDiff, Nat.reduceAdd, Nat.reduceMul, Nat.reduceLeDiff, Nat.reduceLT, Int.reduceLT, Int.reduceLE, Int.reduceEq, Int.reduceNeg, Int.reduceToNat, Nat.reducePow, reduceIte, reduceCtorEq, t1, Array.size_push, hcell_push, hcell_top, okW_push, okW_top, hcell_hset_ne, hcell_hset_off, hcell_hset_eq, okW_hset, hset_size, Array.size_push, Nat.lt_add_one, ne_add_one, add_one_ne, Nat.add_assoc, add_same, add_lt_same, Nat.reduceEqDiff, lt_add_k, add_k_ne, ne_add_k])|((with_reducible first|refine jW ?hy ?_|refine jY ?hy ?_);case hy=>rfl)|((with_reducible first|refine jX ?hy ?_|refine jZ ?hy ?_);case hy=>rfl)|((with_reducible refine jF ?hy ?_);case hy=>decide))
  exact fin _ (((Fr.refl _ _).push _).push _)
 ·have t1 : (b.w < a.w) = False := by simp; omega
  rw [decide_eq_false h1, Bool.false_or] at fin
  by_cases h2 : a.w = b.w
  ·have t2 : (a.w == b.w) = true := by simp [h2]
   rw [decide_eq_true h2, Bool.true_and] at fin
   by_cases h3 : a.id > b.id
   ·have t3 : (b.id < a.id) = True := by simp; omega
    rw [decide_eq_true h3] at fin
    repeat' (first|(with_reducible first|refine jA ?_|(refine hK _ _ ?_;clear hK K)|refine jJ fun K hK=>?_|refine jK ?_|refine jL ?_|refine jM ?_|refine jN ?_|refine jO ?_|refine jP ?_|refine jQ ?_|(refine jB ?_;clear hK K)|(refine jC ?_;clear hK K)|refine jD ?_|refine jE ?_|refine jG ?_|refine jH ?_|refine jI ?_)|((with_reducible refine jR ?hq ?_);case hq=>rfl)|((first|(with_reducible first|refine jS fun K hK=>?_|refine jT ?_|refine jU ?_)|((with_reducible refine jV ?hy fun K hK=>?_);case hy=>rfl));simp only [go_sem, Nat.reduceEqDiff, Nat.reduceAdd, Nat.reduceMul, Nat.reduceLeDiff, Nat.reduceLT, Int.reduceLT, Int.reduceLE, Int.reduceEq, Int.reduceNeg, Int.reduceToNat, Nat.reducePow, reduceIte, reduceCtorEq, t1, t2, t3, Array.size_push, hcell_push, hcell_top, okW_push, okW_top, hcell_hset_ne, hcell_hset_off, hcell_hset_eq, okW_hset, hset_size, Array.size_push, Nat.lt_add_one, ne_add_one, add_one_ne, Nat.add_assoc, add_same, add_lt_same, Nat.reduceEqDiff, lt_add_k, add_k_ne, ne_add_k])|((with_reducible first|refine jW ?hy ?_|refine jY ?hy ?_);case hy=>rfl)|((with_reducible first|refine jX ?hy ?_|refine jZ ?hy ?_);case hy=>rfl)|((with_reducible refine jF ?hy ?_);case hy=>decide))
    exact fin _ (((Fr.refl _ _).push _).push _)
   ·have t3 : (b.id < a.id) = False := by simp; omega
    rw [decide_eq_false h3] at fin
    repeat' (first|(with_reducible first|refine jA ?_|(refine hK _ _ ?_;clear hK K)|refine jJ fun K hK=>?_|refine jK ?_|refine jL ?_|refine jM ?_|refine jN ?_|refine jO ?_|refine jP ?_|refine jQ ?_|(refine jB ?_;clear hK K)|(refine jC ?_;clear hK K)|refine jD ?_|refine jE ?_|refine jG ?_|refine jH ?_|refine jI ?_)|((with_reducible refine jR ?hq ?_);case hq=>rfl)|((first|(with_reducible first|refine jS fun K hK=>?_|refine jT ?_|refine jU ?_)|((with_reducible refine jV ?hy fun K hK=>?_);case hy=>rfl));simp only [go_sem, Nat.reduceEqDiff, Nat.reduceAdd, Nat.reduceMul, Nat.reduceLeDiff, Nat.reduceLT, Int.reduceLT, Int.reduceLE, Int.reduceEq, Int.reduceNeg, Int.reduceToNat, Nat.reducePow, reduceIte, reduceCtorEq, t1, t2, t3, Array.size_push, hcell_push, hcell_top, okW_push, okW_top, hcell_hset_ne, hcell_hset_off, hcell_hset_eq, okW_hset, hset_size, Array.size_push, Nat.lt_add_one, ne_add_one, add_one_ne, Nat.add_assoc, add_same, add_lt_same, Nat.reduceEqDiff, lt_add_k, add_k_ne, ne_add_k])|((with_reducible first|refine jW ?hy ?_|refine jY ?hy ?_);case hy=>rfl)|((with_reducible first|refine jX ?hy ?_|refine jZ ?hy ?_);case hy=>rfl)|((with_reducible refine jF ?hy ?_);case hy=>decide))
    exact fin _ (((Fr.refl _ _).push _).push _)
  ·have t2 : (a.w == b.w) = false := by simp [h2]
   rw [decide_eq_false h2, Bool.false_and] at fin
   repeat' (first|(with_reducible first|refine jA ?_|(refine hK _ _ ?_;clear hK K)|refine jJ fun K hK=>?_|refine jK ?_|refine jL ?_|refine jM ?_|refine jN ?_|refine jO ?_|refine jP ?_|refine jQ ?_|(refine jB ?_;clear hK K)|(refine jC ?_;clear hK K)|refine jD ?_|refine jE ?_|refine jG ?_|refine jH ?_|refine jI ?_)|((with_reducible refine jR ?hq ?_);case hq=>rfl)|((first|(with_reducible first|refine jS fun K hK=>?_|refine jT ?_|refine jU ?_)|((with_reducible refine jV ?hy fun K hK=>?_);case hy=>rfl));simp only [go_sem, Nat.reduceEqDiff, Nat.reduceAdd, Nat.reduceMul, Nat.reduceLeDiff, Nat.reduceLT, Int.reduceLT, Int.reduceLE, Int.reduceEq, Int.reduceNeg, Int.reduceToNat, Nat.reducePow, reduceIte, reduceCtorEq, t1, t2, Array.size_push, hcell_push, hcell_top, okW_push, okW_top, hcell_hset_ne, hcell_hset_off, hcell_hset_eq, okW_hset, hset_size, Array.size_push, Nat.lt_add_one, ne_add_one, add_one_ne, Nat.add_assoc, add_same, add_lt_same, Nat.reduceEqDiff, lt_add_k, add_k_ne, ne_add_k])|((with_reducible first|refine jW ?hy ?_|refine jY ?hy ?_);case hy=>rfl)|((with_reducible first|refine jX ?hy ?_|refine jZ ?hy ?_);case hy=>rfl)|((with_reducible refine jF ?hy ?_);case hy=>decide))
   exact fin _ (((Fr.refl _ _).push _).push _)
end
section
variable {H H' : Heap} {x gu gb cu : Nat} {T : Nat → Prop} {S : Ls} {K L : Value → Heap → Prop}
theorem rx_above {v : Nat} {l : List Nat} (h : RX H x gu gb S.n cu (upS S) (byS S)) (k : S.Ok) (hv : v < S.n) (hl : Ch S.par (v + 1) l)
  (fin : ∀ H' B w, SR Ed.cells 4 H' B w (eL S l) → (∀ b, B = some b → H.size ≤ b) → Fr (fun _ => False) H H' → K w H') : CallsH Try.prog 58 #[.pointer (some ⟨x, 0, none⟩), .int .i64 (v : Nat)] H K := by
 have hle := k.eL_le hv hl
 refine call58 (by simp) ?_
 simp only [Try.f58, Option.getD_some]
 repeat' (first|(with_reducible first|refine jA ?_|(refine hK _ _ ?_;clear hK K)|refine jJ fun K hK=>?_|refine jK ?_|refine jL ?_|refine jM ?_|refine jN ?_|refine jO ?_|refine jP ?_|refine jQ ?_|(refine jB ?_;clear hK K)|(refine jC ?_;clear hK K)|refine jD ?_|refine jE ?_|refine jG ?_|refine jH ?_|refine jI ?_)|((with_reducible refine jR ?hq ?_);case hq=>rfl)|((first|(with_reducible first|refine jS fun K hK=>?_|refine jT ?_|refine jU ?_)|((with_reducible refine jV ?hy fun K hK=>?_);case hy=>rfl));simp only [go_sem, Nat.reduceEqDiff, Nat.reduceAdd, Nat.reduceMul, Nat.reduceLeDiff, Nat.reduceLT, Int.reduceLT, Int.reduceLE, Int.reduceEq, Int.reduceNeg, Int.reduceToNat, Nat.reducePow, reduceIte, reduceCtorEq])|((with_reducible first|refine jW ?hy ?_|refine jY ?hy ?_);case hy=>rfl)|((with_reducible first|refine jX ?hy ?_|refine jZ ?hy ?_);case hy=>rfl)|((with_reducible refine jF ?hy ?_);case hy=>decide))
 refine x_loop (fun m e' H' => ∃ (c : Nat) (r : List Nat) (es : List Ed) (B : Option Nat) (w : Value), e' 1 = .int .i64 (c : Nat) ∧ e' 5 = w ∧ c < S.n ∧ Ch S.par (c + 1) r ∧ eL S l = es ++ eL S r ∧ SR Ed.cells 4 H' B w es ∧ (∀ b, B = some b → H.size ≤ b) ∧ RX H' x gu gb S.n cu (upS S) (byS S) ∧ Fr (fun _ => False) H H' ∧ m = r.length) l.length
  ⟨v, l, [], none, _, rfl, rfl, hv, hl, rfl, SR.nil _ _ _, nofun, h, Fr.refl _ _, rfl⟩ ?_
 rintro m e1 H1 ⟨c, r, es, B, w, i1, i5, hc, hr, hes, hw, hB, hX, hf, rfl⟩ hoff
 have i0 : e1 0 = .pointer (some ⟨x, 0, none⟩) := (hoff 0 rfl).trans rfl
 clear hoff
 have c0 := hX.h0
 have c1 := hX.h1
 have uc := hX.uc hc
 have t0 : (c < S.n) = True := eq_true hc
 have ev : S.E (c + 1) = none := k.eno (by omega)
 rcases k.chain_cases hc hr with ⟨rfl, h1, _⟩ | ⟨g, ed, p, r2, rfl, h2, h3, h4, h5, h6, h7, h8⟩
 ·rw [h1] at uc
  have t1 : ((0 : Int) ≤ -1) = False := by simp
  have : eL S [c + 1] = [] := by unfold eL; simp [ev]
  rw [this, List.append_nil] at hes
  subst i5
  repeat' (first|(with_reducible first|refine jA ?_|(refine hK _ _ ?_;clear hK K)|refine jJ fun K hK=>?_|refine jK ?_|refine jL ?_|refine jM ?_|refine jN ?_|refine jO ?_|refine jP ?_|refine jQ ?_|(refine jB ?_;clear hK K)|(refine jC ?_;clear hK K)|refine jD ?_|refine jE ?_|refine jG ?_|refine jH ?_|refine jI ?_)|((with_reducible refine jR ?hq ?_);case hq=>rfl)|((first|(with_reducible first|refine jS fun K hK=>?_|refine jT ?_|refine jU ?_)|((with_reducible refine jV ?hy fun K hK=>?_);case hy=>rfl));simp only [go_sem, Nat.reduceEqDiff, Nat.reduceAdd, Nat.reduceMul, Nat.reduceLeDiff, Nat.reduceLT, Int.reduceLT, Int.reduceLE, Int.reduceEq, Int.reduceNeg, Int.reduceToNat, Nat.reducePow, reduceIte, reduceCtorEq, i0, i1, c0, t0, uc, t1])|((with_reducible first|refine jW ?hy ?_|refine jY ?hy ?_);case hy=>rfl)|((with_reducible first|refine jX ?hy ?_|refine jZ ?hy ?_);case hy=>rfl)|((with_reducible refine jF ?hy ?_);case hy=>decide))
  rw [hes] at fin
  exact fin _ _ _ hw hB hf
 ·have e2 : eL S ((c + 1) :: g :: r2) = ed :: eL S r2 := by unfold eL; simp [ev, h3]
  rw [h4] at uc
  have t1 : ((0 : Int) ≤ (p : Nat)) = True := by simp
  have b0 := hX.b0 hc
  have b1 := hX.bc hc 1 rfl
  have b2 := hX.bc hc 2 rfl
  have b3 := hX.bc hc 3 rfl
  rw [h5] at b0 b1 b2 b3
  have hel : es.length ≤ 64 := by rw [hes, List.length_append] at hle; omega
  have hbs : 2 * (es.length + 1) * 32 ≤ 2 ^ 48 := by omega
  repeat' (first|(with_reducible first|refine jA ?_|(refine hK _ _ ?_;clear hK K)|refine jJ fun K hK=>?_|refine jK ?_|refine jL ?_|refine jM ?_|refine jN ?_|refine jO ?_|refine jP ?_|refine jQ ?_|(refine jB ?_;clear hK K)|(refine jC ?_;clear hK K)|refine jD ?_|refine jE ?_|refine jG ?_|refine jH ?_|refine jI ?_)|((with_reducible refine jR ?hq ?_);case hq=>rfl)|((first|(with_reducible first|refine jS fun K hK=>?_|refine jT ?_|refine jU ?_)|((with_reducible refine jV ?hy fun K hK=>?_);case hy=>rfl));simp only [go_sem, Nat.reduceEqDiff, Nat.reduceAdd, Nat.reduceMul, Nat.reduceLeDiff, Nat.reduceLT, Int.reduceLT, Int.reduceLE, Int.reduceEq, Int.reduceNeg, Int.reduceToNat, Nat.reducePow, reduceIte, reduceCtorEq, i0, i1, i5, c0, c1, t0, uc, t1, b0, b1, b2, b3])|((with_reducible first|refine jW ?hy ?_|refine jY ?hy ?_);case hy=>rfl)|((with_reducible first|refine jX ?hy ?_|refine jZ ?hy ?_);case hy=>rfl)|((with_reducible refine jF ?hy ?_);case hy=>decide))
  refine append_sr (x := ed) edC_len edC_plain elems28 tl31 hw rfl (by decide) hbs rfl ?_
  intro v' H2 B' hw2 hf2 hB2
  have hlt := h.lt
  have hX2 := hX.frame hf2 (fun e => by have := hB _ e; omega) (fun e => by have := hB _ e; omega) (fun e => by have := hB _ e; omega)
  have c0 := hX2.h0
  have uc := hX2.uc hc
  rw [h4] at uc
  repeat' (first|(with_reducible first|refine jA ?_|(refine hK _ _ ?_;clear hK K)|refine jJ fun K hK=>?_|refine jK ?_|refine jL ?_|refine jM ?_|refine jN ?_|refine jO ?_|refine jP ?_|refine jQ ?_|(refine jB ?_;clear hK K)|(refine jC ?_;clear hK K)|refine jD ?_|refine jE ?_|refine jG ?_|refine jH ?_|refine jI ?_)|((with_reducible refine jR ?hq ?_);case hq=>rfl)|((first|(with_reducible first|refine jS fun K hK=>?_|refine jT ?_|refine jU ?_)|((with_reducible refine jV ?hy fun K hK=>?_);case hy=>rfl));simp only [go_sem, Nat.reduceEqDiff, Nat.reduceAdd, Nat.reduceMul, Nat.reduceLeDiff, Nat.reduceLT, Int.reduceLT, Int.reduceLE, Int.reduceEq, Int.reduceNeg, Int.reduceToNat, Nat.reducePow, reduceIte, reduceCtorEq, i0, i1, c0, t0, uc])|((with_reducible first|refine jW ?hy ?_|refine jY ?hy ?_);case hy=>rfl)|((with_reducible first|refine jX ?hy ?_|refine jZ ?hy ?_);case hy=>rfl)|((with_reducible refine jF ?hy ?_);case hy=>decide))
  refine loop_normal (m' := r2.length) (by simp; omega) ⟨p, r2, es ++ [ed], B', v', rfl, rfl, h6, h2, by rw [hes, e2]; simp, hw2, fun b hb => ?_, hX2, hf.trans' hf2 fun b hb e => by have := hB b e; omega, rfl⟩
  rcases hB2 with e | ⟨y, q1, q2⟩
  ·exact hB b (by rw [← e]; exact hb)
  ·rw [q1] at hb
   obtain rfl := Option.some.inj hb
   have := hf.size
   omega
theorem rx_way {u v r : Nat} (h : RX H x gu gb S.n cu (upS S) (byS S)) (k : S.Ok) (hu : u < S.n) (hv : v < S.n) (hru : RootOf S.par (u + 1) (r + 1)) (hrv : RootOf S.par (v + 1) (r + 1))
  (fin : ∀ H' P B w, SP S.par (u + 1) (v + 1) P → SR Ed.cells 4 H' B w (eL S P) → (eL S P).length ≤ 128 → (∀ b, B = some b → H.size ≤ b) → Fr (fun _ => False) H H' → L w H') :
  CallsH Try.prog 51 #[.pointer (some ⟨x, 0, none⟩), .int .i64 (u : Nat), .int .i64 (v : Nat)] H L := by
 obtain ⟨lu, hlu, hu2⟩ := hru
 obtain ⟨lv, hlv, hv2⟩ := hrv
 have leu := k.eL_le hu hlu
 have lev := k.eL_le hv hlv
 refine call51 (by simp) ?_
 simp only [Try.f51, Option.getD_some]
 repeat' (first|(with_reducible first|refine jA ?_|(refine hK _ _ ?_;clear hK K)|refine jJ fun K hK=>?_|refine jK ?_|refine jL ?_|refine jM ?_|refine jN ?_|refine jO ?_|refine jP ?_|refine jQ ?_|(refine jB ?_;clear hK K)|(refine jC ?_;clear hK K)|refine jD ?_|refine jE ?_|refine jG ?_|refine jH ?_|refine jI ?_)|((with_reducible refine jR ?hq ?_);case hq=>rfl)|((first|(with_reducible first|refine jS fun K hK=>?_|refine jT ?_|refine jU ?_)|((with_reducible refine jV ?hy fun K hK=>?_);case hy=>rfl));simp only [go_sem, Nat.reduceEqDiff, Nat.reduceAdd, Nat.reduceMul, Nat.reduceLeDiff, Nat.reduceLT, Int.reduceLT, Int.reduceLE, Int.reduceEq, Int.reduceNeg, Int.reduceToNat, Nat.reducePow, reduceIte, reduceCtorEq])|((with_reducible first|refine jW ?hy ?_|refine jY ?hy ?_);case hy=>rfl)|((with_reducible first|refine jX ?hy ?_|refine jZ ?hy ?_);case hy=>rfl)|((with_reducible refine jF ?hy ?_);case hy=>decide))
 refine rx_above h k hu hlu fun H1 Ba wa ha hBa hf1 => ?_
 repeat' (first|(with_reducible first|refine jA ?_|(refine hK _ _ ?_;clear hK K)|refine jJ fun K hK=>?_|refine jK ?_|refine jL ?_|refine jM ?_|refine jN ?_|refine jO ?_|refine jP ?_|refine jQ ?_|(refine jB ?_;clear hK K)|(refine jC ?_;clear hK K)|refine jD ?_|refine jE ?_|refine jG ?_|refine jH ?_|refine jI ?_)|((with_reducible refine jR ?hq ?_);case hq=>rfl)|((first|(with_reducible first|refine jS fun K hK=>?_|refine jT ?_|refine jU ?_)|((with_reducible refine jV ?hy fun K hK=>?_);case hy=>rfl));simp only [go_sem, Nat.reduceEqDiff, Nat.reduceAdd, Nat.reduceMul, Nat.reduceLeDiff, Nat.reduceLT, Int.reduceLT, Int.reduceLE, Int.reduceEq, Int.reduceNeg, Int.reduceToNat, Nat.reducePow, reduceIte, reduceCtorEq])|((with_reducible first|refine jW ?hy ?_|refine jY ?hy ?_);case hy=>rfl)|((with_reducible first|refine jX ?hy ?_|refine jZ ?hy ?_);case hy=>rfl)|((with_reducible refine jF ?hy ?_);case hy=>decide))
 refine rx_above (h.grow hf1) k hv hlv fun H2 Bb wb hb hBb hf2 => ?_
 have ha2 := ha.frame hf2 fun _ _ h => h
 repeat' (first|(with_reducible first|refine jA ?_|(refine hK _ _ ?_;clear hK K)|refine jJ fun K hK=>?_|refine jK ?_|refine jL ?_|refine jM ?_|refine jN ?_|refine jO ?_|refine jP ?_|refine jQ ?_|(refine jB ?_;clear hK K)|(refine jC ?_;clear hK K)|refine jD ?_|refine jE ?_|refine jG ?_|refine jH ?_|refine jI ?_)|((with_reducible refine jR ?hq ?_);case hq=>rfl)|((first|(with_reducible first|refine jS fun K hK=>?_|refine jT ?_|refine jU ?_)|((with_reducible refine jV ?hy fun K hK=>?_);case hy=>rfl));simp only [go_sem, Nat.reduceEqDiff, Nat.reduceAdd, Nat.reduceMul, Nat.reduceLeDiff, Nat.reduceLT, Int.reduceLT, Int.reduceLE, Int.reduceEq, Int.reduceNeg, Int.reduceToNat, Nat.reducePow, reduceIte, reduceCtorEq])|((with_reducible first|refine jW ?hy ?_|refine jY ?hy ?_);case hy=>rfl)|((with_reducible first|refine jX ?hy ?_|refine jZ ?hy ?_);case hy=>rfl)|((with_reducible refine jF ?hy ?_);case hy=>decide))
 obtain ⟨A0, rfl⟩ : ∃ A, lu = A ++ [r + 1] := by
  rcases List.eq_nil_or_concat lu with e | ⟨q, z, e⟩
  ·exact absurd e hlu.ne
  ·rw [List.concat_eq_append] at e; subst e
   have : z = r + 1 := by simpa using hu2
   exact ⟨q, by rw [this]⟩
 obtain ⟨B0, rfl⟩ : ∃ A, lv = A ++ [r + 1] := by
  rcases List.eq_nil_or_concat lv with e | ⟨q, z, e⟩
  ·exact absurd e hlv.ne
  ·rw [List.concat_eq_append] at e; subst e
   have : z = r + 1 := by simpa using hv2
   exact ⟨q, by rw [this]⟩
 have hrn : r < S.n := by
  obtain ⟨r0, h1, h2⟩ := k.root_vt (Ls.vtx hu) ⟨_, hlu, hu2⟩
  omega
 have er : S.E (r + 1) = none := k.eno (by omega)
 have eA : eL S (A0 ++ [r + 1]) = eL S A0 := by rw [eL_append]; unfold eL; simp [er]
 have eB : eL S (B0 ++ [r + 1]) = eL S B0 := by rw [eL_append]; unfold eL; simp [er]
 rw [eA] at ha2 leu
 rw [eB] at hb lev
 have tail : ∀ (e' : Env) (A B : List Nat) (w : Nat) (s : List Nat) (va vb : Value), Str S u v A B w s → (eL S A).length ≤ 64 → (eL S B).length ≤ 64 → (∀ a ∈ (eL S A).getLast?, ∀ b ∈ (eL S B).getLast?, a.id ≠ b.id) → SR Ed.cells 4 H2 Ba va (eL S A) → SR Ed.cells 4 H2 Bb vb (eL S B) → e' 7 = va → e' 8 = vb → K e' H2 := by
  intro e' A B w s va vb hs lA lB hd hA hB j7 j8
  refine hK _ _ ?_
  clear hK K
  obtain ⟨hsp, hel⟩ := hs.way k hu hv hd
  obtain ⟨sb, cb, rfl⟩ := hB.slice
  have ew : IntKind.i64.wrap (((eL S B).length : Int) - 1) = ((eL S B).length : Int) - 1 := by rw [wrap_i64] <;> omega
  repeat' (first|(with_reducible first|refine jA ?_|(refine hK _ _ ?_;clear hK K)|refine jJ fun K hK=>?_|refine jK ?_|refine jL ?_|refine jM ?_|refine jN ?_|refine jO ?_|refine jP ?_|refine jQ ?_|(refine jB ?_;clear hK K)|(refine jC ?_;clear hK K)|refine jD ?_|refine jE ?_|refine jG ?_|refine jH ?_|refine jI ?_)|((with_reducible refine jR ?hq ?_);case hq=>rfl)|((first|(with_reducible first|refine jS fun K hK=>?_|refine jT ?_|refine jU ?_)|((with_reducible refine jV ?hy fun K hK=>?_);case hy=>rfl));simp only [go_sem, Nat.reduceEqDiff, Nat.reduceAdd, Nat.reduceMul, Nat.reduceLeDiff, Nat.reduceLT, Int.reduceLT, Int.reduceLE, Int.reduceEq, Int.reduceNeg, Int.reduceToNat, Nat.reducePow, reduceIte, reduceCtorEq, j8, ew])|((with_reducible first|refine jW ?hy ?_|refine jY ?hy ?_);case hy=>rfl)|((with_reducible first|refine jX ?hy ?_|refine jZ ?hy ?_);case hy=>rfl)|((with_reducible refine jF ?hy ?_);case hy=>decide))
  refine x_loop (fun m e' H' => ∃ (i : Nat) (B' : Option Nat) (w' : Value), e' 9 = .int .i64 ((i : Int) - 1) ∧ e' 7 = w' ∧ i ≤ (eL S B).length ∧ SR Ed.cells 4 H' B' w' (eL S A ++ ((eL S B).drop i).reverse) ∧ (B' = Ba ∨ ∃ g, B' = some g ∧ H2.size ≤ g) ∧ Fr (fun b => Ba = some b) H2 H' ∧ m = i) (eL S B).length
   ⟨(eL S B).length, Ba, va, rfl, j7, Nat.le_refl _, by simpa using hA, .inl rfl, Fr.refl _ _, rfl⟩ ?_
  rintro m e1 H3 ⟨i, B', w', i9, i7, hi, hw, hB', hf3, hm⟩ hoff
  have i8 : e1 8 = .slice sb (eL S B).length cb := (hoff 8 rfl).trans j8
  clear hoff
  cases i with
  | zero =>
   have t1 : ((0 : Int) ≤ ((0 : Nat) : Int) - 1) = False := by simp
   subst i7
   repeat' (first|(with_reducible first|refine jA ?_|(refine hK _ _ ?_;clear hK K)|refine jJ fun K hK=>?_|refine jK ?_|refine jL ?_|refine jM ?_|refine jN ?_|refine jO ?_|refine jP ?_|refine jQ ?_|(refine jB ?_;clear hK K)|(refine jC ?_;clear hK K)|refine jD ?_|refine jE ?_|refine jG ?_|refine jH ?_|refine jI ?_)|((with_reducible refine jR ?hq ?_);case hq=>rfl)|((first|(with_reducible first|refine jS fun K hK=>?_|refine jT ?_|refine jU ?_)|((with_reducible refine jV ?hy fun K hK=>?_);case hy=>rfl));simp only [go_sem, Nat.reduceEqDiff, Nat.reduceAdd, Nat.reduceMul, Nat.reduceLeDiff, Nat.reduceLT, Int.reduceLT, Int.reduceLE, Int.reduceEq, Int.reduceNeg, Int.reduceToNat, Nat.reducePow, reduceIte, reduceCtorEq, i9, t1])|((with_reducible first|refine jW ?hy ?_|refine jY ?hy ?_);case hy=>rfl)|((with_reducible first|refine jX ?hy ?_|refine jZ ?hy ?_);case hy=>rfl)|((with_reducible refine jF ?hy ?_);case hy=>decide))
   rw [List.drop_zero, ← hel] at hw
   refine fin _ _ _ _ hsp hw ?_ (fun b hb => ?_) ((hf1.trans hf2).trans' hf3 fun b hb e => by have := hBa b e; omega)
   ·rw [hel]; simp; omega
   ·have := hf1.size; have := hf2.size
    rcases hB' with e | ⟨g, q1, q2⟩
    ·exact hBa b (by rw [← e]; exact hb)
    ·rw [q1] at hb
     obtain rfl := Option.some.inj hb
     omega
  | succ i =>
   have t1 : ((0 : Int) ≤ ((i + 1 : Nat) : Int) - 1) = True := eq_true (by omega)
   have e9 : (((i + 1 : Nat) : Int) - 1) = (i : Nat) := by omega
   rw [e9] at i9 t1
   have ew2 : IntKind.i64.wrap ((i : Int) - 1) = (i : Int) - 1 := by rw [wrap_i64] <;> omega
   have t3 : (i < (eL S B).length) = True := eq_true hi
   obtain ⟨x1, hx1⟩ : ∃ x, (eL S B)[i]? = some x := ⟨_, List.getElem?_eq_getElem hi⟩
   have nab : ∀ b, Bb = some b → ¬ Ba = some b := fun b hb e => by
    have := hBb b hb
    have := ha.lt e
    omega
   obtain ⟨gb', cb', q1, q2, _, hc⟩ := (hB.frame hf3 nab).at edC_len hx1
   simp only [Value.slice.injEq] at q2
   obtain ⟨rfl, _, rfl⟩ := q2
   have z0 := hc 0 (.int .i64 x1.id) rfl
   rw [Nat.add_zero] at z0
   have z1 := hc 1 (.int .i64 x1.u) rfl
   have z2 := hc 2 (.int .i64 x1.v) rfl
   have z3 := hc 3 (.int .i64 x1.w) rfl
   have hle2 : (eL S A ++ ((eL S B).drop (i + 1)).reverse).length ≤ 128 := by simp; omega
   have hbs : 2 * ((eL S A ++ ((eL S B).drop (i + 1)).reverse).length + 1) * 32 ≤ 2 ^ 48 := by omega
   obtain ⟨sw, cw, rfl⟩ := hw.slice
   repeat' (first|(with_reducible first|refine jA ?_|(refine hK _ _ ?_;clear hK K)|refine jJ fun K hK=>?_|refine jK ?_|refine jL ?_|refine jM ?_|refine jN ?_|refine jO ?_|refine jP ?_|refine jQ ?_|(refine jB ?_;clear hK K)|(refine jC ?_;clear hK K)|refine jD ?_|refine jE ?_|refine jG ?_|refine jH ?_|refine jI ?_)|((with_reducible refine jR ?hq ?_);case hq=>rfl)|((first|(with_reducible first|refine jS fun K hK=>?_|refine jT ?_|refine jU ?_)|((with_reducible refine jV ?hy fun K hK=>?_);case hy=>rfl));simp only [go_sem, Nat.reduceEqDiff, Nat.reduceAdd, Nat.reduceMul, Nat.reduceLeDiff, Nat.reduceLT, Int.reduceLT, Int.reduceLE, Int.reduceEq, Int.reduceNeg, Int.reduceToNat, Nat.reducePow, reduceIte, reduceCtorEq, i7, i8, i9, t1, t3, z0, z1, z2, z3])|((with_reducible first|refine jW ?hy ?_|refine jY ?hy ?_);case hy=>rfl)|((with_reducible first|refine jX ?hy ?_|refine jZ ?hy ?_);case hy=>rfl)|((with_reducible refine jF ?hy ?_);case hy=>decide))
   refine append_sr (x := x1) edC_len edC_plain elems28 tl31 hw rfl (by decide) hbs rfl ?_
   intro v' H4 B4 hw4 hf4 hB4
   repeat' (first|(with_reducible first|refine jA ?_|(refine hK _ _ ?_;clear hK K)|refine jJ fun K hK=>?_|refine jK ?_|refine jL ?_|refine jM ?_|refine jN ?_|refine jO ?_|refine jP ?_|refine jQ ?_|(refine jB ?_;clear hK K)|(refine jC ?_;clear hK K)|refine jD ?_|refine jE ?_|refine jG ?_|refine jH ?_|refine jI ?_)|((with_reducible refine jR ?hq ?_);case hq=>rfl)|((first|(with_reducible first|refine jS fun K hK=>?_|refine jT ?_|refine jU ?_)|((with_reducible refine jV ?hy fun K hK=>?_);case hy=>rfl));simp only [go_sem, Nat.reduceEqDiff, Nat.reduceAdd, Nat.reduceMul, Nat.reduceLeDiff, Nat.reduceLT, Int.reduceLT, Int.reduceLE, Int.reduceEq, Int.reduceNeg, Int.reduceToNat, Nat.reducePow, reduceIte, reduceCtorEq, i9, ew2])|((with_reducible first|refine jW ?hy ?_|refine jY ?hy ?_);case hy=>rfl)|((with_reducible first|refine jX ?hy ?_|refine jZ ?hy ?_);case hy=>rfl)|((with_reducible refine jF ?hy ?_);case hy=>decide))
   refine loop_normal (m' := i) (by omega) ⟨i, B4, v', rfl, rfl, by omega, ?_, ?_, hf3.trans' hf4 fun b hb e => ?_, rfl⟩
   ·have : (eL S B).drop i = x1 :: (eL S B).drop (i + 1) := by rw [List.drop_eq_getElem_cons hi, (List.getElem?_eq_some_iff.1 hx1).2]
    rw [this, List.reverse_cons, ← List.append_assoc]
    exact hw4
   ·rcases hB4 with e | ⟨g, q1, q2⟩
    ·rw [e]; exact hB'
    ·have := hf3.size; exact .inr ⟨g, q1, by omega⟩
   ·rcases hB' with e' | ⟨g, q1, q2⟩
    ·rw [← e']; exact e
    ·rw [q1] at e
     obtain rfl := Option.some.inj e
     omega
 clear fin
 refine x_loop (fun m e' H' => ∃ (A B : List Nat) (w : Nat) (s : List Nat) (va vb : Value), H' = H2 ∧ Str S u v A B w s ∧ (eL S A).length ≤ 64 ∧ (eL S B).length ≤ 64 ∧ SR Ed.cells 4 H2 Ba va (eL S A) ∧ SR Ed.cells 4 H2 Bb vb (eL S B) ∧ e' 7 = va ∧ e' 8 = vb ∧ m = A.length) A0.length
  ⟨A0, B0, r, [], wa, wb, rfl, ⟨hlu, hlv, hrn⟩, leu, lev, ha2, hb, rfl, rfl, rfl⟩ ?_
 rintro m e1 H3 ⟨A, B, w, s, va, vb, rfl, hs, lA, lB, hA, hB, i7, i8, rfl⟩ hoff
 clear hoff
 have non : ∀ (Bo : Option Nat) (va : Value), SR Ed.cells 4 H3 Bo va [] → ∃ a c, va = .slice a 0 c := fun Bo va h => h.slice
 rcases hs.last k hu with e | ⟨A', y, e, e1', e2, e3, e4, e5⟩
 ·have e0 : eL S A = [] := by rw [e]; rfl
  have hA' := hA
  rw [e0] at hA'
  obtain ⟨a, c, rfl⟩ := hA'.slice
  have t1 : ((0 : Int) < 0) = False := by simp
  repeat' (first|(with_reducible first|refine jA ?_|(refine hK _ _ ?_;clear hK K)|refine jJ fun K hK=>?_|refine jK ?_|refine jL ?_|refine jM ?_|refine jN ?_|refine jO ?_|refine jP ?_|refine jQ ?_|(refine jB ?_;clear hK K)|(refine jC ?_;clear hK K)|refine jD ?_|refine jE ?_|refine jG ?_|refine jH ?_|refine jI ?_)|((with_reducible refine jR ?hq ?_);case hq=>rfl)|((first|(with_reducible first|refine jS fun K hK=>?_|refine jT ?_|refine jU ?_)|((with_reducible refine jV ?hy fun K hK=>?_);case hy=>rfl));simp only [go_sem, Nat.reduceEqDiff, Nat.reduceAdd, Nat.reduceMul, Nat.reduceLeDiff, Nat.reduceLT, Int.reduceLT, Int.reduceLE, Int.reduceEq, Int.reduceNeg, Int.reduceToNat, Nat.reducePow, reduceIte, reduceCtorEq, i7, t1])|((with_reducible first|refine jW ?hy ?_|refine jY ?hy ?_);case hy=>rfl)|((with_reducible first|refine jX ?hy ?_|refine jZ ?hy ?_);case hy=>rfl)|((with_reducible refine jF ?hy ?_);case hy=>decide))
  exact tail _ A B w s _ vb hs lA lB (by rw [e0]; nofun) hA hB i7 i8
 rcases hs.symm.last k hv with f | ⟨B', z, f, f1', f2, f3, f4, f5⟩
 ·have e0 : eL S B = [] := by rw [f]; rfl
  have hB' := hB
  rw [e0] at hB'
  obtain ⟨a, c, rfl⟩ := hB'.slice
  rw [e4] at hA
  obtain ⟨ga, ca, q1, rfl, _⟩ := sr_drop hA
  have t1 : ((0 : Int) < 0) = False := by simp
  have t2 : (0 < (((eL S A').length + 1 : Nat) : Int)) = True := eq_true (by omega)
  repeat' (first|(with_reducible first|refine jA ?_|(refine hK _ _ ?_;clear hK K)|refine jJ fun K hK=>?_|refine jK ?_|refine jL ?_|refine jM ?_|refine jN ?_|refine jO ?_|refine jP ?_|refine jQ ?_|(refine jB ?_;clear hK K)|(refine jC ?_;clear hK K)|refine jD ?_|refine jE ?_|refine jG ?_|refine jH ?_|refine jI ?_)|((with_reducible refine jR ?hq ?_);case hq=>rfl)|((first|(with_reducible first|refine jS fun K hK=>?_|refine jT ?_|refine jU ?_)|((with_reducible refine jV ?hy fun K hK=>?_);case hy=>rfl));simp only [go_sem, Nat.reduceEqDiff, Nat.reduceAdd, Nat.reduceMul, Nat.reduceLeDiff, Nat.reduceLT, Int.reduceLT, Int.reduceLE, Int.reduceEq, Int.reduceNeg, Int.reduceToNat, Nat.reducePow, reduceIte, reduceCtorEq, i7, i8, t1, t2])|((with_reducible first|refine jW ?hy ?_|refine jY ?hy ?_);case hy=>rfl)|((with_reducible first|refine jX ?hy ?_|refine jZ ?hy ?_);case hy=>rfl)|((with_reducible refine jF ?hy ?_);case hy=>decide))
  rw [← e4] at hA
  exact tail _ A B w s _ _ hs lA lB (by rw [e0]; intro a _ b hb; cases hb) hA hB i7 i8
 rw [e4] at hA
 rw [f4] at hB
 obtain ⟨ga, ca, q1, rfl, qa, qi, qs⟩ := sr_drop hA
 obtain ⟨gb', cb', p1, rfl, pa, pi, ps⟩ := sr_drop hB
 rw [e4] at lA
 rw [f4] at lB
 simp only [List.length_append, List.length_cons, List.length_nil] at lA lB
 have t2 : (0 < (((eL S A').length + 1 : Nat) : Int)) = True := eq_true (by omega)
 have t3 : (0 < (((eL S B').length + 1 : Nat) : Int)) = True := eq_true (by omega)
 have wa' : IntKind.i64.wrap ((((eL S A').length + 1 : Nat) : Int) - 1) = ((eL S A').length : Int) := by rw [wrap_i64] <;> omega
 have wb' : IntKind.i64.wrap ((((eL S B').length + 1 : Nat) : Int) - 1) = ((eL S B').length : Int) := by rw [wrap_i64] <;> omega
 have t4 : ((eL S A').length < (eL S A').length + 1) = True := eq_true (by omega)
 have t5 : ((eL S B').length < (eL S B').length + 1) = True := eq_true (by omega)
 have t6 : ((eL S A').length ≤ ca) = True := eq_true (by omega)
 have t7 : ((eL S B').length ≤ cb') = True := eq_true (by omega)
 by_cases hid : e.id = f.id
 ·have y1 : (e.id == f.id) = true := by simp [hid]
  have hgg := k.uq _ _ _ _ e3 f3 hid
  obtain ⟨c, _, _, _, _, _, c5⟩ := k.kid e3
  obtain rfl : y = z := by have := c5 _ rfl; have := c5 (z + 1) hgg.symm; omega
  subst q1 p1
  repeat' (first|(with_reducible first|refine jA ?_|(refine hK _ _ ?_;clear hK K)|refine jJ fun K hK=>?_|refine jK ?_|refine jL ?_|refine jM ?_|refine jN ?_|refine jO ?_|refine jP ?_|refine jQ ?_|(refine jB ?_;clear hK K)|(refine jC ?_;clear hK K)|refine jD ?_|refine jE ?_|refine jG ?_|refine jH ?_|refine jI ?_)|((with_reducible refine jR ?hq ?_);case hq=>rfl)|((first|(with_reducible first|refine jS fun K hK=>?_|refine jT ?_|refine jU ?_)|((with_reducible refine jV ?hy fun K hK=>?_);case hy=>rfl));simp only [go_sem, Nat.reduceEqDiff, Nat.reduceAdd, Nat.reduceMul, Nat.reduceLeDiff, Nat.reduceLT, Int.reduceLT, Int.reduceLE, Int.reduceEq, Int.reduceNeg, Int.reduceToNat, Nat.reducePow, reduceIte, reduceCtorEq, i7, i8, t2, t3, t4, t5, t6, t7, wa', wb', qi, pi, y1, Nat.sub_zero, ite_self])|((with_reducible first|refine jW ?hy ?_|refine jY ?hy ?_);case hy=>rfl)|((with_reducible first|refine jX ?hy ?_|refine jZ ?hy ?_);case hy=>rfl)|((with_reducible refine jF ?hy ?_);case hy=>decide))
  refine loop_normal (m' := A'.length) (by rw [e1']; simp) ⟨A', B', y, S.par (y + 1) :: (w + 1) :: s, .slice (some ⟨ga, 0, none⟩) (eL S A').length ca, .slice (some ⟨gb', 0, none⟩) (eL S B').length cb', rfl, ⟨?_, ?_, e2⟩, by omega, by omega, qs, ps, rfl, rfl, rfl⟩
  ·have := hs.a; rw [e1'] at this; simpa using this
  ·have := hs.b; rw [f1'] at this; simpa using this
 ·have y1 : (e.id == f.id) = false := by simp [hid]
  repeat' (first|(with_reducible first|refine jA ?_|(refine hK _ _ ?_;clear hK K)|refine jJ fun K hK=>?_|refine jK ?_|refine jL ?_|refine jM ?_|refine jN ?_|refine jO ?_|refine jP ?_|refine jQ ?_|(refine jB ?_;clear hK K)|(refine jC ?_;clear hK K)|refine jD ?_|refine jE ?_|refine jG ?_|refine jH ?_|refine jI ?_)|((with_reducible refine jR ?hq ?_);case hq=>rfl)|((first|(with_reducible first|refine jS fun K hK=>?_|refine jT ?_|refine jU ?_)|((with_reducible refine jV ?hy fun K hK=>?_);case hy=>rfl));simp only [go_sem, Nat.reduceEqDiff, Nat.reduceAdd, Nat.reduceMul, Nat.reduceLeDiff, Nat.reduceLT, Int.reduceLT, Int.reduceLE, Int.reduceEq, Int.reduceNeg, Int.reduceToNat, Nat.reducePow, reduceIte, reduceCtorEq, i7, i8, t2, t3, t4, t5, wa', wb', qi, pi, y1])|((with_reducible first|refine jW ?hy ?_|refine jY ?hy ?_);case hy=>rfl)|((with_reducible first|refine jX ?hy ?_|refine jZ ?hy ?_);case hy=>rfl)|((with_reducible refine jF ?hy ?_);case hy=>decide))
  rw [← e4] at hA
  rw [← f4] at hB
  refine tail _ A B w s _ _ hs (by rw [e4]; simp; omega) (by rw [f4]; simp; omega) ?_ hA hB i7 i8
  rw [e4, f4]
  intro a ha b hb
  simp at ha hb
  subst ha hb
  exact hid
end
end Go.Proofs.Ytoplhfhjokjbiaa
namespace Go.Li
open Go Go.Hp
theorem heavy_irr (e : Ed) : heavy e e = false := by unfold heavy; simp
section
variable {S : Ls}
theorem IsMost.eL {P : List Nat} {em : Ed} (h : IsMost S.E P em) : em ∈ eL S P ∧ ∀ y ∈ eL S P, y = em ∨ heavy em y = true := by
 obtain ⟨b, h1, h2, h3⟩ := h
 refine ⟨List.mem_filterMap.2 ⟨b, h1, h2⟩, fun y hy => ?_⟩
 obtain ⟨g, hg, hy⟩ := List.mem_filterMap.1 hy
 rcases h3 g hg y hy with rfl | h4
 ·rw [h2] at hy; exact .inl (Option.some.inj hy).symm
 ·exact .inr h4
end
end Go.Li
namespace Go.Proofs.Ytoplhfhjokjbiaa
open Go Go.Hp Go.Li
set_option linter.all false
set_option maxRecDepth 100000
set_option maxHeartbeats 1600000
section
variable {H H' : Heap} {x : Nat} {T : Nat → Prop} {S : Ls} {K : Value → Heap → Prop}
theorem xp_bad {u v : Int} (h : RXM H x T S) (hv : (inB S.n u && inB S.n v) = false) (fin : K (.tuple #[.slice none 0 0, .int .i64 50]) H) : CallsH Try.prog 39 #[.pointer (some ⟨x, 0, none⟩), .int .i64 u, .int .i64 v] H K := by
 refine call39 (by simp) ?_
 simp only [Try.f39, Option.getD_some]
 have z : ((50 : Int) != 0) = true := rfl
 repeat' (first|(with_reducible first|refine jA ?_|(refine hK _ _ ?_;clear hK K)|refine jJ fun K hK=>?_|refine jK ?_|refine jL ?_|refine jM ?_|refine jN ?_|refine jO ?_|refine jP ?_|refine jQ ?_|(refine jB ?_;clear hK K)|(refine jC ?_;clear hK K)|refine jD ?_|refine jE ?_|refine jG ?_|refine jH ?_|refine jI ?_)|((with_reducible refine jR ?hq ?_);case hq=>rfl)|((first|(with_reducible first|refine jS fun K hK=>?_|refine jT ?_|refine jU ?_)|((with_reducible refine jV ?hy fun K hK=>?_);case hy=>rfl));simp only [go_sem, Nat.reduceEqDiff, Nat.reduceAdd, Nat.reduceMul, Nat.reduceLeDiff, Nat.reduceLT, Int.reduceLT, Int.reduceLE, Int.reduceEq, Int.reduceNeg, Int.reduceToNat, Nat.reducePow, reduceIte, reduceCtorEq])|((with_reducible first|refine jW ?hy ?_|refine jY ?hy ?_);case hy=>rfl)|((with_reducible first|refine jX ?hy ?_|refine jZ ?hy ?_);case hy=>rfl)|((with_reducible refine jF ?hy ?_);case hy=>decide))
 refine xs_bad h hv ?_
 repeat' (first|(with_reducible first|refine jA ?_|(refine hK _ _ ?_;clear hK K)|refine jJ fun K hK=>?_|refine jK ?_|refine jL ?_|refine jM ?_|refine jN ?_|refine jO ?_|refine jP ?_|refine jQ ?_|(refine jB ?_;clear hK K)|(refine jC ?_;clear hK K)|refine jD ?_|refine jE ?_|refine jG ?_|refine jH ?_|refine jI ?_)|((with_reducible refine jR ?hq ?_);case hq=>rfl)|((first|(with_reducible first|refine jS fun K hK=>?_|refine jT ?_|refine jU ?_)|((with_reducible refine jV ?hy fun K hK=>?_);case hy=>rfl));simp only [go_sem, Nat.reduceEqDiff, Nat.reduceAdd, Nat.reduceMul, Nat.reduceLeDiff, Nat.reduceLT, Int.reduceLT, Int.reduceLE, Int.reduceEq, Int.reduceNeg, Int.reduceToNat, Nat.reducePow, reduceIte, reduceCtorEq, z])|((with_reducible first|refine jW ?hy ?_|refine jY ?hy ?_);case hy=>rfl)|((with_reducible first|refine jX ?hy ?_|refine jZ ?hy ?_);case hy=>rfl)|((with_reducible refine jF ?hy ?_);case hy=>decide))
 exact fin
theorem xp_none {u v ru rv : Nat} (h : RXM H x T S) (k : S.Ok) (hu : u < S.n) (hv : v < S.n) (hru : RootOf S.par (u + 1) (ru + 1)) (hrv : RootOf S.par (v + 1) (rv + 1)) (hne : ru ≠ rv) (fin : K (.tuple #[.slice none 0 0, .int .i64 54]) H) : CallsH Try.prog 39 #[.pointer (some ⟨x, 0, none⟩), .int .i64 (u : Nat), .int .i64 (v : Nat)] H K := by
 refine call39 (by simp) ?_
 simp only [Try.f39, Option.getD_some]
 have z : ((0 : Int) != 0) = false := rfl
 have t1 : decide (ru + 1 = rv + 1) = false := decide_eq_false (by omega)
 repeat' (first|(with_reducible first|refine jA ?_|(refine hK _ _ ?_;clear hK K)|refine jJ fun K hK=>?_|refine jK ?_|refine jL ?_|refine jM ?_|refine jN ?_|refine jO ?_|refine jP ?_|refine jQ ?_|(refine jB ?_;clear hK K)|(refine jC ?_;clear hK K)|refine jD ?_|refine jE ?_|refine jG ?_|refine jH ?_|refine jI ?_)|((with_reducible refine jR ?hq ?_);case hq=>rfl)|((first|(with_reducible first|refine jS fun K hK=>?_|refine jT ?_|refine jU ?_)|((with_reducible refine jV ?hy fun K hK=>?_);case hy=>rfl));simp only [go_sem, Nat.reduceEqDiff, Nat.reduceAdd, Nat.reduceMul, Nat.reduceLeDiff, Nat.reduceLT, Int.reduceLT, Int.reduceLE, Int.reduceEq, Int.reduceNeg, Int.reduceToNat, Nat.reducePow, reduceIte, reduceCtorEq])|((with_reducible first|refine jW ?hy ?_|refine jY ?hy ?_);case hy=>rfl)|((with_reducible first|refine jX ?hy ?_|refine jZ ?hy ?_);case hy=>rfl)|((with_reducible refine jF ?hy ?_);case hy=>decide))
 refine xs_ok h k hu hv hru hrv ?_
 rw [t1]
 repeat' (first|(with_reducible first|refine jA ?_|(refine hK _ _ ?_;clear hK K)|refine jJ fun K hK=>?_|refine jK ?_|refine jL ?_|refine jM ?_|refine jN ?_|refine jO ?_|refine jP ?_|refine jQ ?_|(refine jB ?_;clear hK K)|(refine jC ?_;clear hK K)|refine jD ?_|refine jE ?_|refine jG ?_|refine jH ?_|refine jI ?_)|((with_reducible refine jR ?hq ?_);case hq=>rfl)|((first|(with_reducible first|refine jS fun K hK=>?_|refine jT ?_|refine jU ?_)|((with_reducible refine jV ?hy fun K hK=>?_);case hy=>rfl));simp only [go_sem, Nat.reduceEqDiff, Nat.reduceAdd, Nat.reduceMul, Nat.reduceLeDiff, Nat.reduceLT, Int.reduceLT, Int.reduceLE, Int.reduceEq, Int.reduceNeg, Int.reduceToNat, Nat.reducePow, reduceIte, reduceCtorEq, z, Bool.not_false])|((with_reducible first|refine jW ?hy ?_|refine jY ?hy ?_);case hy=>rfl)|((with_reducible first|refine jX ?hy ?_|refine jZ ?hy ?_);case hy=>rfl)|((with_reducible refine jF ?hy ?_);case hy=>decide))
 exact fin
theorem xp_ok {u v r : Nat} (h : RXM H x T S) (k : S.Ok) (hu : u < S.n) (hv : v < S.n) (hru : RootOf S.par (u + 1) (r + 1)) (hrv : RootOf S.par (v + 1) (r + 1))
  (fin : ∀ H' P B w, SP S.par (u + 1) (v + 1) P → IR H' B w (outI S.E P) → (outI S.E P).length ≤ 128 → (∀ b, B = some b → H.size ≤ b) → Fr (fun _ => False) H H' → K (.tuple #[w, .int .i64 0]) H') : CallsH Try.prog 39 #[.pointer (some ⟨x, 0, none⟩), .int .i64 (u : Nat), .int .i64 (v : Nat)] H K := by
 refine call39 (by simp) ?_
 simp only [Try.f39, Option.getD_some]
 have z : ((0 : Int) != 0) = false := rfl
 have t1 : decide (r + 1 = r + 1) = true := decide_eq_true rfl
 repeat' (first|(with_reducible first|refine jA ?_|(refine hK _ _ ?_;clear hK K)|refine jJ fun K hK=>?_|refine jK ?_|refine jL ?_|refine jM ?_|refine jN ?_|refine jO ?_|refine jP ?_|refine jQ ?_|(refine jB ?_;clear hK K)|(refine jC ?_;clear hK K)|refine jD ?_|refine jE ?_|refine jG ?_|refine jH ?_|refine jI ?_)|((with_reducible refine jR ?hq ?_);case hq=>rfl)|((first|(with_reducible first|refine jS fun K hK=>?_|refine jT ?_|refine jU ?_)|((with_reducible refine jV ?hy fun K hK=>?_);case hy=>rfl));simp only [go_sem, Nat.reduceEqDiff, Nat.reduceAdd, Nat.reduceMul, Nat.reduceLeDiff, Nat.reduceLT, Int.reduceLT, Int.reduceLE, Int.reduceEq, Int.reduceNeg, Int.reduceToNat, Nat.reducePow, reduceIte, reduceCtorEq])|((with_reducible first|refine jW ?hy ?_|refine jY ?hy ?_);case hy=>rfl)|((with_reducible first|refine jX ?hy ?_|refine jZ ?hy ?_);case hy=>rfl)|((with_reducible refine jF ?hy ?_);case hy=>decide))
 refine xs_ok h k hu hv hru hrv ?_
 rw [t1]
 repeat' (first|(with_reducible first|refine jA ?_|(refine hK _ _ ?_;clear hK K)|refine jJ fun K hK=>?_|refine jK ?_|refine jL ?_|refine jM ?_|refine jN ?_|refine jO ?_|refine jP ?_|refine jQ ?_|(refine jB ?_;clear hK K)|(refine jC ?_;clear hK K)|refine jD ?_|refine jE ?_|refine jG ?_|refine jH ?_|refine jI ?_)|((with_reducible refine jR ?hq ?_);case hq=>rfl)|((first|(with_reducible first|refine jS fun K hK=>?_|refine jT ?_|refine jU ?_)|((with_reducible refine jV ?hy fun K hK=>?_);case hy=>rfl));simp only [go_sem, Nat.reduceEqDiff, Nat.reduceAdd, Nat.reduceMul, Nat.reduceLeDiff, Nat.reduceLT, Int.reduceLT, Int.reduceLE, Int.reduceEq, Int.reduceNeg, Int.reduceToNat, Nat.reducePow, reduceIte, reduceCtorEq, z, Bool.not_true])|((with_reducible first|refine jW ?hy ?_|refine jY ?hy ?_);case hy=>rfl)|((with_reducible first|refine jX ?hy ?_|refine jZ ?hy ?_);case hy=>rfl)|((with_reducible refine jF ?hy ?_);case hy=>decide))
 obtain ⟨gu, gb, cu, h1, h2⟩ := h
 refine rx_way h1 k hu hv hru hrv fun H1 P Bl wl hP hl hle hBl hf1 => ?_
 obtain ⟨sl, cl, rfl⟩ := hl.slice
 repeat' (first|(with_reducible first|refine jA ?_|(refine hK _ _ ?_;clear hK K)|refine jJ fun K hK=>?_|refine jK ?_|refine jL ?_|refine jM ?_|refine jN ?_|refine jO ?_|refine jP ?_|refine jQ ?_|(refine jB ?_;clear hK K)|(refine jC ?_;clear hK K)|refine jD ?_|refine jE ?_|refine jG ?_|refine jH ?_|refine jI ?_)|((with_reducible refine jR ?hq ?_);case hq=>rfl)|((first|(with_reducible first|refine jS fun K hK=>?_|refine jT ?_|refine jU ?_)|((with_reducible refine jV ?hy fun K hK=>?_);case hy=>rfl));simp only [go_sem, Nat.reduceEqDiff, Nat.reduceAdd, Nat.reduceMul, Nat.reduceLeDiff, Nat.reduceLT, Int.reduceLT, Int.reduceLE, Int.reduceEq, Int.reduceNeg, Int.reduceToNat, Nat.reducePow, reduceIte, reduceCtorEq])|((with_reducible first|refine jW ?hy ?_|refine jY ?hy ?_);case hy=>rfl)|((with_reducible first|refine jX ?hy ?_|refine jZ ?hy ?_);case hy=>rfl)|((with_reducible refine jF ?hy ?_);case hy=>decide))
 refine x_loop (fun m e' H' => ∃ (i : Nat) (B : Option Nat) (w : Value), e' 12 = .int .i64 (i : Nat) ∧ e' 11 = w ∧ i ≤ (eL S P).length ∧ IR H' B w (((eL S P).take i).map (·.id)) ∧ (∀ b, B = some b → H1.size ≤ b) ∧ Fr (fun _ => False) H1 H' ∧ m = (eL S P).length - i) (eL S P).length
  ⟨0, none, _, rfl, rfl, Nat.zero_le _, IR.nil _, nofun, Fr.refl _ _, rfl⟩ ?_
 rintro m e1 H2 ⟨i, B, w, i12, i11, hi, hw, hB, hf2, hm⟩ hoff
 have i10 : e1 10 = .slice sl (eL S P).length cl := (hoff 10 rfl).trans rfl
 clear hoff
 by_cases hlt : i < (eL S P).length
 ·have t3 : (i < (eL S P).length) = True := eq_true hlt
  obtain ⟨y, hy⟩ : ∃ x, (eL S P)[i]? = some x := ⟨_, List.getElem?_eq_getElem hlt⟩
  obtain ⟨gl, cl', q1, q2, _, hc⟩ := (hl.frame hf2 fun _ _ h => h).at edC_len hy
  simp only [Value.slice.injEq] at q2
  obtain ⟨rfl, _, rfl⟩ := q2
  have c0 := hc 0 (.int .i64 y.id) rfl
  rw [Nat.add_zero] at c0
  have ew : IntKind.i64.wrap ((i : Int) + 1) = ((i + 1 : Nat) : Int) := by rw [wrap_i64] <;> omega
  have hle2 : (((eL S P).take i).map (·.id)).length ≤ 128 := by simp; omega
  have hbs : 2 * ((((eL S P).take i).map (·.id)).length + 1) * 8 ≤ 2 ^ 48 := by omega
  repeat' (first|(with_reducible first|refine jA ?_|(refine hK _ _ ?_;clear hK K)|refine jJ fun K hK=>?_|refine jK ?_|refine jL ?_|refine jM ?_|refine jN ?_|refine jO ?_|refine jP ?_|refine jQ ?_|(refine jB ?_;clear hK K)|(refine jC ?_;clear hK K)|refine jD ?_|refine jE ?_|refine jG ?_|refine jH ?_|refine jI ?_)|((with_reducible refine jR ?hq ?_);case hq=>rfl)|((first|(with_reducible first|refine jS fun K hK=>?_|refine jT ?_|refine jU ?_)|((with_reducible refine jV ?hy fun K hK=>?_);case hy=>rfl));simp only [go_sem, Nat.reduceEqDiff, Nat.reduceAdd, Nat.reduceMul, Nat.reduceLeDiff, Nat.reduceLT, Int.reduceLT, Int.reduceLE, Int.reduceEq, Int.reduceNeg, Int.reduceToNat, Nat.reducePow, reduceIte, reduceCtorEq, i10, i11, i12, t3, c0])|((with_reducible first|refine jW ?hy ?_|refine jY ?hy ?_);case hy=>rfl)|((with_reducible first|refine jX ?hy ?_|refine jZ ?hy ?_);case hy=>rfl)|((with_reducible refine jF ?hy ?_);case hy=>decide))
  refine append_ir elems22 tl3 hw rfl (by decide) hbs rfl ?_
  intro v' H3 B' hw3 hf3 hB3
  repeat' (first|(with_reducible first|refine jA ?_|(refine hK _ _ ?_;clear hK K)|refine jJ fun K hK=>?_|refine jK ?_|refine jL ?_|refine jM ?_|refine jN ?_|refine jO ?_|refine jP ?_|refine jQ ?_|(refine jB ?_;clear hK K)|(refine jC ?_;clear hK K)|refine jD ?_|refine jE ?_|refine jG ?_|refine jH ?_|refine jI ?_)|((with_reducible refine jR ?hq ?_);case hq=>rfl)|((first|(with_reducible first|refine jS fun K hK=>?_|refine jT ?_|refine jU ?_)|((with_reducible refine jV ?hy fun K hK=>?_);case hy=>rfl));simp only [go_sem, Nat.reduceEqDiff, Nat.reduceAdd, Nat.reduceMul, Nat.reduceLeDiff, Nat.reduceLT, Int.reduceLT, Int.reduceLE, Int.reduceEq, Int.reduceNeg, Int.reduceToNat, Nat.reducePow, reduceIte, reduceCtorEq, i12, ew])|((with_reducible first|refine jW ?hy ?_|refine jY ?hy ?_);case hy=>rfl)|((with_reducible first|refine jX ?hy ?_|refine jZ ?hy ?_);case hy=>rfl)|((with_reducible refine jF ?hy ?_);case hy=>decide))
  refine loop_normal (m' := (eL S P).length - (i + 1)) (by omega) ⟨i + 1, B', v', rfl, rfl, hlt, ?_, fun b hb => ?_, hf2.trans' hf3 fun b hb e => by have := hB b e; omega, rfl⟩
  ·rw [List.take_add_one, hy, List.map_append]; exact hw3
  ·rcases hB3 with e | ⟨g, q3, q4⟩
   ·exact hB b (by rw [← e]; exact hb)
   ·rw [q3] at hb
    obtain rfl := Option.some.inj hb
    have := hf2.size; omega
 ·have t3 : (i < (eL S P).length) = False := eq_false hlt
  subst i11
  repeat' (first|(with_reducible first|refine jA ?_|(refine hK _ _ ?_;clear hK K)|refine jJ fun K hK=>?_|refine jK ?_|refine jL ?_|refine jM ?_|refine jN ?_|refine jO ?_|refine jP ?_|refine jQ ?_|(refine jB ?_;clear hK K)|(refine jC ?_;clear hK K)|refine jD ?_|refine jE ?_|refine jG ?_|refine jH ?_|refine jI ?_)|((with_reducible refine jR ?hq ?_);case hq=>rfl)|((first|(with_reducible first|refine jS fun K hK=>?_|refine jT ?_|refine jU ?_)|((with_reducible refine jV ?hy fun K hK=>?_);case hy=>rfl));simp only [go_sem, Nat.reduceEqDiff, Nat.reduceAdd, Nat.reduceMul, Nat.reduceLeDiff, Nat.reduceLT, Int.reduceLT, Int.reduceLE, Int.reduceEq, Int.reduceNeg, Int.reduceToNat, Nat.reducePow, reduceIte, reduceCtorEq, i10, i12, t3])|((with_reducible first|refine jW ?hy ?_|refine jY ?hy ?_);case hy=>rfl)|((with_reducible first|refine jX ?hy ?_|refine jZ ?hy ?_);case hy=>rfl)|((with_reducible refine jF ?hy ?_);case hy=>decide))
  rw [List.take_of_length_le (by omega), ← outI_eL] at hw
  exact fin _ _ _ _ hP hw (by rw [outI_eL]; simpa using hle) (fun b hb => by have := hB b hb; have := hf1.size; omega) (hf1.trans hf2)
theorem xm_bad {u v : Int} (h : RXM H x T S) (hv : (inB S.n u && inB S.n v) = false) (fin : ∀ H', Fr (fun _ => False) H H' → K (.tuple #[Ed.zero.val, .int .i64 50]) H') : CallsH Try.prog 38 #[.pointer (some ⟨x, 0, none⟩), .int .i64 u, .int .i64 v] H K := by
 refine call38 (by simp) ?_
 simp only [Try.f38, Option.getD_some]
 have z : ((50 : Int) != 0) = true := rfl
 repeat' (first|(with_reducible first|refine jA ?_|(refine hK _ _ ?_;clear hK K)|refine jJ fun K hK=>?_|refine jK ?_|refine jL ?_|refine jM ?_|refine jN ?_|refine jO ?_|refine jP ?_|refine jQ ?_|(refine jB ?_;clear hK K)|(refine jC ?_;clear hK K)|refine jD ?_|refine jE ?_|refine jG ?_|refine jH ?_|refine jI ?_)|((with_reducible refine jR ?hq ?_);case hq=>rfl)|((first|(with_reducible first|refine jS fun K hK=>?_|refine jT ?_|refine jU ?_)|((with_reducible refine jV ?hy fun K hK=>?_);case hy=>rfl));simp only [go_sem, Nat.reduceEqDiff, Nat.reduceAdd, Nat.reduceMul, Nat.reduceLeDiff, Nat.reduceLT, Int.reduceLT, Int.reduceLE, Int.reduceEq, Int.reduceNeg, Int.reduceToNat, Nat.reducePow, reduceIte, reduceCtorEq, hcell_push, hcell_top, okW_push, okW_top, hcell_hset_ne, hcell_hset_off, hcell_hset_eq, okW_hset, hset_size, Array.size_push, Nat.lt_add_one, ne_add_one, add_one_ne, Nat.add_assoc, add_same, add_lt_same, Nat.reduceEqDiff, lt_add_k, add_k_ne, ne_add_k])|((with_reducible first|refine jW ?hy ?_|refine jY ?hy ?_);case hy=>rfl)|((with_reducible first|refine jX ?hy ?_|refine jZ ?hy ?_);case hy=>rfl)|((with_reducible refine jF ?hy ?_);case hy=>decide))
 refine xs_bad (h.grow ((Fr.refl _ _).push _)) hv ?_
 repeat' (first|(with_reducible first|refine jA ?_|(refine hK _ _ ?_;clear hK K)|refine jJ fun K hK=>?_|refine jK ?_|refine jL ?_|refine jM ?_|refine jN ?_|refine jO ?_|refine jP ?_|refine jQ ?_|(refine jB ?_;clear hK K)|(refine jC ?_;clear hK K)|refine jD ?_|refine jE ?_|refine jG ?_|refine jH ?_|refine jI ?_)|((with_reducible refine jR ?hq ?_);case hq=>rfl)|((first|(with_reducible first|refine jS fun K hK=>?_|refine jT ?_|refine jU ?_)|((with_reducible refine jV ?hy fun K hK=>?_);case hy=>rfl));simp only [go_sem, Nat.reduceEqDiff, Nat.reduceAdd, Nat.reduceMul, Nat.reduceLeDiff, Nat.reduceLT, Int.reduceLT, Int.reduceLE, Int.reduceEq, Int.reduceNeg, Int.reduceToNat, Nat.reducePow, reduceIte, reduceCtorEq, z, hcell_push, hcell_top, okW_push, okW_top, hcell_hset_ne, hcell_hset_off, hcell_hset_eq, okW_hset, hset_size, Array.size_push, Nat.lt_add_one, ne_add_one, add_one_ne, Nat.add_assoc, add_same, add_lt_same, Nat.reduceEqDiff, lt_add_k, add_k_ne, ne_add_k])|((with_reducible first|refine jW ?hy ?_|refine jY ?hy ?_);case hy=>rfl)|((with_reducible first|refine jX ?hy ?_|refine jZ ?hy ?_);case hy=>rfl)|((with_reducible refine jF ?hy ?_);case hy=>decide))
 exact fin _ (by ((repeat (first | refine Fr.set ?_ (by simp) _ | refine Fr.push ?_ _)); exact Fr.refl _ _))
theorem xm_none {u v ru rv : Nat} (h : RXM H x T S) (k : S.Ok) (hu : u < S.n) (hv : v < S.n) (hru : RootOf S.par (u + 1) (ru + 1)) (hrv : RootOf S.par (v + 1) (rv + 1)) (hne : ru ≠ rv ∨ u = v) (fin : ∀ H', Fr (fun _ => False) H H' → K (.tuple #[Ed.zero.val, .int .i64 54]) H') : CallsH Try.prog 38 #[.pointer (some ⟨x, 0, none⟩), .int .i64 (u : Nat), .int .i64 (v : Nat)] H K := by
 refine call38 (by simp) ?_
 simp only [Try.f38, Option.getD_some]
 have z : ((0 : Int) != 0) = false := rfl
 repeat' (first|(with_reducible first|refine jA ?_|(refine hK _ _ ?_;clear hK K)|refine jJ fun K hK=>?_|refine jK ?_|refine jL ?_|refine jM ?_|refine jN ?_|refine jO ?_|refine jP ?_|refine jQ ?_|(refine jB ?_;clear hK K)|(refine jC ?_;clear hK K)|refine jD ?_|refine jE ?_|refine jG ?_|refine jH ?_|refine jI ?_)|((with_reducible refine jR ?hq ?_);case hq=>rfl)|((first|(with_reducible first|refine jS fun K hK=>?_|refine jT ?_|refine jU ?_)|((with_reducible refine jV ?hy fun K hK=>?_);case hy=>rfl));simp only [go_sem, Nat.reduceEqDiff, Nat.reduceAdd, Nat.reduceMul, Nat.reduceLeDiff, Nat.reduceLT, Int.reduceLT, Int.reduceLE, Int.reduceEq, Int.reduceNeg, Int.reduceToNat, Nat.reducePow, reduceIte, reduceCtorEq, hcell_push, hcell_top, okW_push, okW_top, hcell_hset_ne, hcell_hset_off, hcell_hset_eq, okW_hset, hset_size, Array.size_push, Nat.lt_add_one, ne_add_one, add_one_ne, Nat.add_assoc, add_same, add_lt_same, Nat.reduceEqDiff, lt_add_k, add_k_ne, ne_add_k])|((with_reducible first|refine jW ?hy ?_|refine jY ?hy ?_);case hy=>rfl)|((with_reducible first|refine jX ?hy ?_|refine jZ ?hy ?_);case hy=>rfl)|((with_reducible refine jF ?hy ?_);case hy=>decide))
 refine xs_ok (h.grow ((Fr.refl _ _).push _)) k hu hv hru hrv ?_
 by_cases hr : ru = rv
 ·have t1 : decide (ru + 1 = rv + 1) = true := decide_eq_true (by omega)
  have t2 : ((u : Int) == (v : Int)) = true := by simp; omega
  rw [t1]
  repeat' (first|(with_reducible first|refine jA ?_|(refine hK _ _ ?_;clear hK K)|refine jJ fun K hK=>?_|refine jK ?_|refine jL ?_|refine jM ?_|refine jN ?_|refine jO ?_|refine jP ?_|refine jQ ?_|(refine jB ?_;clear hK K)|(refine jC ?_;clear hK K)|refine jD ?_|refine jE ?_|refine jG ?_|refine jH ?_|refine jI ?_)|((with_reducible refine jR ?hq ?_);case hq=>rfl)|((first|(with_reducible first|refine jS fun K hK=>?_|refine jT ?_|refine jU ?_)|((with_reducible refine jV ?hy fun K hK=>?_);case hy=>rfl));simp only [go_sem, Nat.reduceEqDiff, Nat.reduceAdd, Nat.reduceMul, Nat.reduceLeDiff, Nat.reduceLT, Int.reduceLT, Int.reduceLE, Int.reduceEq, Int.reduceNeg, Int.reduceToNat, Nat.reducePow, reduceIte, reduceCtorEq, z, Bool.not_true, t2, hcell_push, hcell_top, okW_push, okW_top, hcell_hset_ne, hcell_hset_off, hcell_hset_eq, okW_hset, hset_size, Array.size_push, Nat.lt_add_one, ne_add_one, add_one_ne, Nat.add_assoc, add_same, add_lt_same, Nat.reduceEqDiff, lt_add_k, add_k_ne, ne_add_k])|((with_reducible first|refine jW ?hy ?_|refine jY ?hy ?_);case hy=>rfl)|((with_reducible first|refine jX ?hy ?_|refine jZ ?hy ?_);case hy=>rfl)|((with_reducible refine jF ?hy ?_);case hy=>decide))
  exact fin _ (by ((repeat (first | refine Fr.set ?_ (by simp) _ | refine Fr.push ?_ _)); exact Fr.refl _ _))
 ·have t1 : decide (ru + 1 = rv + 1) = false := decide_eq_false (by omega)
  rw [t1]
  repeat' (first|(with_reducible first|refine jA ?_|(refine hK _ _ ?_;clear hK K)|refine jJ fun K hK=>?_|refine jK ?_|refine jL ?_|refine jM ?_|refine jN ?_|refine jO ?_|refine jP ?_|refine jQ ?_|(refine jB ?_;clear hK K)|(refine jC ?_;clear hK K)|refine jD ?_|refine jE ?_|refine jG ?_|refine jH ?_|refine jI ?_)|((with_reducible refine jR ?hq ?_);case hq=>rfl)|((first|(with_reducible first|refine jS fun K hK=>?_|refine jT ?_|refine jU ?_)|((with_reducible refine jV ?hy fun K hK=>?_);case hy=>rfl));simp only [go_sem, Nat.reduceEqDiff, Nat.reduceAdd, Nat.reduceMul, Nat.reduceLeDiff, Nat.reduceLT, Int.reduceLT, Int.reduceLE, Int.reduceEq, Int.reduceNeg, Int.reduceToNat, Nat.reducePow, reduceIte, reduceCtorEq, z, Bool.not_false, hcell_push, hcell_top, okW_push, okW_top, hcell_hset_ne, hcell_hset_off, hcell_hset_eq, okW_hset, hset_size, Array.size_push, Nat.lt_add_one, ne_add_one, add_one_ne, Nat.add_assoc, add_same, add_lt_same, Nat.reduceEqDiff, lt_add_k, add_k_ne, ne_add_k])|((with_reducible first|refine jW ?hy ?_|refine jY ?hy ?_);case hy=>rfl)|((with_reducible first|refine jX ?hy ?_|refine jZ ?hy ?_);case hy=>rfl)|((with_reducible refine jF ?hy ?_);case hy=>decide))
  exact fin _ (by ((repeat (first | refine Fr.set ?_ (by simp) _ | refine Fr.push ?_ _)); exact Fr.refl _ _))
theorem xm_ok {u v r : Nat} {em : Ed} (h : RXM H x T S) (k : S.Ok) (hu : u < S.n) (hv : v < S.n) (huv : u ≠ v) (hru : RootOf S.par (u + 1) (r + 1)) (hrv : RootOf S.par (v + 1) (r + 1)) (hem : ∀ P, SP S.par (u + 1) (v + 1) P → IsMost S.E P em)
  (fin : ∀ H', Fr (fun _ => False) H H' → K (.tuple #[em.val, .int .i64 0]) H') : CallsH Try.prog 38 #[.pointer (some ⟨x, 0, none⟩), .int .i64 (u : Nat), .int .i64 (v : Nat)] H K := by
 have lx : ∀ b, T b → b < H.size := h.below
 obtain ⟨gu, gb, cu, h1, h2⟩ := id h
 refine call38 (by simp) ?_
 simp only [Try.f38, Option.getD_some]
 have z : ((0 : Int) != 0) = false := rfl
 have t1 : decide (r + 1 = r + 1) = true := decide_eq_true rfl
 have t2 : ((u : Int) == (v : Int)) = false := by simp; omega
 repeat' (first|(with_reducible first|refine jA ?_|(refine hK _ _ ?_;clear hK K)|refine jJ fun K hK=>?_|refine jK ?_|refine jL ?_|refine jM ?_|refine jN ?_|refine jO ?_|refine jP ?_|refine jQ ?_|(refine jB ?_;clear hK K)|(refine jC ?_;clear hK K)|refine jD ?_|refine jE ?_|refine jG ?_|refine jH ?_|refine jI ?_)|((with_reducible refine jR ?hq ?_);case hq=>rfl)|((first|(with_reducible first|refine jS fun K hK=>?_|refine jT ?_|refine jU ?_)|((with_reducible refine jV ?hy fun K hK=>?_);case hy=>rfl));simp only [go_sem, Nat.reduceEqDiff, Nat.reduceAdd, Nat.reduceMul, Nat.reduceLeDiff, Nat.reduceLT, Int.reduceLT, Int.reduceLE, Int.reduceEq, Int.reduceNeg, Int.reduceToNat, Nat.reducePow, reduceIte, reduceCtorEq, hcell_push, hcell_top, okW_push, okW_top, hcell_hset_ne, hcell_hset_off, hcell_hset_eq, okW_hset, hset_size, Array.size_push, Nat.lt_add_one, ne_add_one, add_one_ne, Nat.add_assoc, add_same, add_lt_same, Nat.reduceEqDiff, lt_add_k, add_k_ne, ne_add_k])|((with_reducible first|refine jW ?hy ?_|refine jY ?hy ?_);case hy=>rfl)|((with_reducible first|refine jX ?hy ?_|refine jZ ?hy ?_);case hy=>rfl)|((with_reducible refine jF ?hy ?_);case hy=>decide))
 refine xs_ok (h.grow ((Fr.refl _ _).push _)) k hu hv hru hrv ?_
 rw [t1]
 repeat' (first|(with_reducible first|refine jA ?_|(refine hK _ _ ?_;clear hK K)|refine jJ fun K hK=>?_|refine jK ?_|refine jL ?_|refine jM ?_|refine jN ?_|refine jO ?_|refine jP ?_|refine jQ ?_|(refine jB ?_;clear hK K)|(refine jC ?_;clear hK K)|refine jD ?_|refine jE ?_|refine jG ?_|refine jH ?_|refine jI ?_)|((with_reducible refine jR ?hq ?_);case hq=>rfl)|((first|(with_reducible first|refine jS fun K hK=>?_|refine jT ?_|refine jU ?_)|((with_reducible refine jV ?hy fun K hK=>?_);case hy=>rfl));simp only [go_sem, Nat.reduceEqDiff, Nat.reduceAdd, Nat.reduceMul, Nat.reduceLeDiff, Nat.reduceLT, Int.reduceLT, Int.reduceLE, Int.reduceEq, Int.reduceNeg, Int.reduceToNat, Nat.reducePow, reduceIte, reduceCtorEq, z, Bool.not_true, t2, hcell_push, hcell_top, okW_push, okW_top, hcell_hset_ne, hcell_hset_off, hcell_hset_eq, okW_hset, hset_size, Array.size_push, Nat.lt_add_one, ne_add_one, add_one_ne, Nat.add_assoc, add_same, add_lt_same, Nat.reduceEqDiff, lt_add_k, add_k_ne, ne_add_k])|((with_reducible first|refine jW ?hy ?_|refine jY ?hy ?_);case hy=>rfl)|((with_reducible first|refine jX ?hy ?_|refine jZ ?hy ?_);case hy=>rfl)|((with_reducible refine jF ?hy ?_);case hy=>decide))
 have f0 : Fr (fun _ => False) H (H.push (.cells #[.int .i64 0, .int .i64 0, .int .i64 0, .int .i64 0] 31)) := (Fr.refl _ _).push _
 refine rx_way (h1.grow f0) k hu hv hru hrv fun H1 P Bl wl hP hl hle hBl hf1 => ?_
 obtain ⟨hem1, hem2⟩ := (hem P hP).eL
 have hpos : 0 < (eL S P).length := List.length_pos_of_mem hem1
 obtain ⟨x0, hx0⟩ : ∃ x, (eL S P)[0]? = some x := ⟨_, List.getElem?_eq_getElem hpos⟩
 have b0 : Blk _ H.size [.int .i64 0, .int .i64 0, .int .i64 0, .int .i64 0] := (Blk.new H [.int .i64 0, .int .i64 0, .int .i64 0, .int .i64 0] 31).frame hf1 id
 have f01 := f0.trans hf1
 have hBl' : ∀ b, Bl = some b → b ≠ H.size := fun b hb e => by have := hBl b hb; simp at this; omega
 obtain ⟨gl, cl, rfl, rfl, _, hc⟩ := hl.at edC_len hx0
 have z0 := hc 0 (.int .i64 x0.id) rfl
 have z1 := hc 1 (.int .i64 x0.u) rfl
 have z2 := hc 2 (.int .i64 x0.v) rfl
 have z3 := hc 3 (.int .i64 x0.w) rfl
 simp only [Nat.zero_mul, Nat.zero_add] at z0 z1 z2 z3
 have t4 : (0 < (eL S P).length) = True := eq_true hpos
 have t4' : (0 < ((eL S P).length : Int)) = True := eq_true (by omega)
 repeat' (first|(with_reducible first|refine jA ?_|(refine hK _ _ ?_;clear hK K)|refine jJ fun K hK=>?_|refine jK ?_|refine jL ?_|refine jM ?_|refine jN ?_|refine jO ?_|refine jP ?_|refine jQ ?_|(refine jB ?_;clear hK K)|(refine jC ?_;clear hK K)|refine jD ?_|refine jE ?_|refine jG ?_|refine jH ?_|refine jI ?_)|((with_reducible refine jR ?hq ?_);case hq=>rfl)|((first|(with_reducible first|refine jS fun K hK=>?_|refine jT ?_|refine jU ?_)|((with_reducible refine jV ?hy fun K hK=>?_);case hy=>rfl));simp only [go_sem, Nat.reduceEqDiff, Nat.reduceAdd, Nat.reduceMul, Nat.reduceLeDiff, Nat.reduceLT, Int.reduceLT, Int.reduceLE, Int.reduceEq, Int.reduceNeg, Int.reduceToNat, Nat.reducePow, reduceIte, reduceCtorEq, t4, t4', z0, z1, z2, z3, hcell_push, hcell_top, okW_push, okW_top, hcell_hset_ne, hcell_hset_off, hcell_hset_eq, okW_hset, hset_size, Array.size_push, Nat.lt_add_one, ne_add_one, add_one_ne, Nat.add_assoc, add_same, add_lt_same, Nat.reduceEqDiff, lt_add_k, add_k_ne, ne_add_k])|((with_reducible first|refine jW ?hy ?_|refine jY ?hy ?_);case hy=>rfl)|((with_reducible first|refine jX ?hy ?_|refine jZ ?hy ?_);case hy=>rfl)|((with_reducible refine jF ?hy ?_);case hy=>decide))
 obtain ⟨bx, fx⟩ := edge_box (H := H1) x0 (T0 := 31)
 generalize hset _ _ _ = H2 at bx fx ⊢
 have l1 := bx.lt
 have l0 := b0.lt
 refine x_loop (fun m e' H' => ∃ (i : Nat) (y : Ed), e' 12 = .int .i64 (i : Nat) ∧ 1 ≤ i ∧ i ≤ (eL S P).length ∧ Blk H' H1.size y.cells ∧ Blk H' H.size [.int .i64 0, .int .i64 0, .int .i64 0, .int .i64 0] ∧ SR Ed.cells 4 H' (some gl) (.slice (some ⟨gl, 0, none⟩) (eL S P).length cl) (eL S P) ∧ y ∈ eL S P ∧ (em ∈ (eL S P).take i → y = em) ∧ Fr (fun _ => False) H1 H' ∧ m = (eL S P).length - i) ((eL S P).length - 1)
  ⟨1, x0, rfl, Nat.le_refl _, hpos, bx, b0.frame fx id, hl.frame fx fun _ _ h => h, List.mem_of_getElem? hx0, fun hm => ?_, fx, rfl⟩ ?_
 ·have : (eL S P).take 1 = [x0] := by
   cases he : eL S P with
   | nil => rw [he] at hpos; simp at hpos
   | cons a r => rw [he] at hx0; simp at hx0 ⊢; exact hx0
  rw [this] at hm
  exact (List.mem_singleton.1 hm).symm
 rintro m e1 H3 ⟨i, y, i12, hi1, hi, hy, hb0, hl3, hym, hye, hf3, hmm⟩ hoff
 have i10 : e1 10 = .slice (some ⟨gl, 0, none⟩) (eL S P).length cl := (hoff 10 rfl).trans rfl
 have i11 : e1 11 = .pointer (some ⟨H1.size, 0, none⟩) := (hoff 11 rfl).trans rfl
 have i6 : e1 6 = .pointer (some ⟨H.size, 0, none⟩) := (hoff 6 rfl).trans rfl
 clear hoff
 have q0 := hy.cellOf (i := 0) rfl
 have q1 := hy.cellOf (i := 1) rfl
 have q2 := hy.cellOf (i := 2) rfl
 have q3 := hy.cellOf (i := 3) rfl
 by_cases hlt : i < (eL S P).length
 ·have t3 : (i < (eL S P).length) = True := eq_true hlt
  obtain ⟨w, hw⟩ : ∃ x, (eL S P)[i]? = some x := ⟨_, List.getElem?_eq_getElem hlt⟩
  obtain ⟨_, _, r1, r2, _, hc⟩ := hl3.at edC_len hw
  simp only [Value.slice.injEq] at r2
  obtain ⟨rr, _, rfl⟩ := r2
  obtain rfl := Option.some.inj r1
  have c0 := hc 0 (.int .i64 w.id) rfl
  have c1 := hc 1 (.int .i64 w.u) rfl
  have c2 := hc 2 (.int .i64 w.v) rfl
  have c3 := hc 3 (.int .i64 w.w) rfl
  rw [Nat.add_zero] at c0
  have ew : IntKind.i64.wrap ((i : Int) + 1) = ((i + 1 : Nat) : Int) := by rw [wrap_i64] <;> omega
  have hwm := List.mem_of_getElem? hw
  have tk : (eL S P).take (i + 1) = (eL S P).take i ++ [w] := by rw [List.take_add_one, hw]; rfl
  repeat' (first|(with_reducible first|refine jA ?_|(refine hK _ _ ?_;clear hK K)|refine jJ fun K hK=>?_|refine jK ?_|refine jL ?_|refine jM ?_|refine jN ?_|refine jO ?_|refine jP ?_|refine jQ ?_|(refine jB ?_;clear hK K)|(refine jC ?_;clear hK K)|refine jD ?_|refine jE ?_|refine jG ?_|refine jH ?_|refine jI ?_)|((with_reducible refine jR ?hq ?_);case hq=>rfl)|((first|(with_reducible first|refine jS fun K hK=>?_|refine jT ?_|refine jU ?_)|((with_reducible refine jV ?hy fun K hK=>?_);case hy=>rfl));simp only [go_sem, Nat.reduceEqDiff, Nat.reduceAdd, Nat.reduceMul, Nat.reduceLeDiff, Nat.reduceLT, Int.reduceLT, Int.reduceLE, Int.reduceEq, Int.reduceNeg, Int.reduceToNat, Nat.reducePow, reduceIte, reduceCtorEq, i10, i11, i12, t3, c0, c1, c2, c3, q0, q1, q2, q3])|((with_reducible first|refine jW ?hy ?_|refine jY ?hy ?_);case hy=>rfl)|((with_reducible first|refine jX ?hy ?_|refine jZ ?hy ?_);case hy=>rfl)|((with_reducible refine jF ?hy ?_);case hy=>decide))
  refine rx_Heavier (a := w) (b := y) fun H4 hf4 => ?_
  have hy4 := hy.frame hf4 id
  have hb4 := hb0.frame hf4 id
  have hl4 := hl3.frame hf4 fun _ _ h => h
  have ok0 := hy4.okW (i := 0) (by simp [Ed.cells])
  have ok1 := hy4.okW (i := 1) (by simp [Ed.cells])
  have ok2 := hy4.okW (i := 2) (by simp [Ed.cells])
  have ok3 := hy4.okW (i := 3) (by simp [Ed.cells])
  have mv : ∀ {a : Addr} {v : Value}, hcell H3 a = some v → hcell H4 a = some v := fun h => by rw [hf4.cell (hcell_lt h) (fun h => h)]; exact h
  have c0 := mv c0
  have c1 := mv c1
  have c2 := mv c2
  have c3 := mv c3
  by_cases hh : heavy w y = true
  ·obtain ⟨hy5, hf5⟩ := store4 hy4 (.int .i64 w.id) (.int .i64 w.u) (.int .i64 w.v) (.int .i64 w.w)
   have n1 : gl ≠ H1.size := by have := hl.lt (g := gl) rfl; omega
   repeat' (first|(with_reducible first|refine jA ?_|(refine hK _ _ ?_;clear hK K)|refine jJ fun K hK=>?_|refine jK ?_|refine jL ?_|refine jM ?_|refine jN ?_|refine jO ?_|refine jP ?_|refine jQ ?_|(refine jB ?_;clear hK K)|(refine jC ?_;clear hK K)|refine jD ?_|refine jE ?_|refine jG ?_|refine jH ?_|refine jI ?_)|((with_reducible refine jR ?hq ?_);case hq=>rfl)|((first|(with_reducible first|refine jS fun K hK=>?_|refine jT ?_|refine jU ?_)|((with_reducible refine jV ?hy fun K hK=>?_);case hy=>rfl));simp only [go_sem, Nat.reduceEqDiff, Nat.reduceAdd, Nat.reduceMul, Nat.reduceLeDiff, Nat.reduceLT, Int.reduceLT, Int.reduceLE, Int.reduceEq, Int.reduceNeg, Int.reduceToNat, Nat.reducePow, reduceIte, reduceCtorEq, hh, i10, i11, i12, t3, c0, c1, c2, c3, ok0, ok1, ok2, ok3, ew, okW_hset])|((with_reducible first|refine jW ?hy ?_|refine jY ?hy ?_);case hy=>rfl)|((with_reducible first|refine jX ?hy ?_|refine jZ ?hy ?_);case hy=>rfl)|((with_reducible refine jF ?hy ?_);case hy=>decide))
   generalize hset _ _ _ = H5 at hy5 hf5 ⊢
   have s13 := hf3.size
   have s34 := hf4.size
   refine loop_normal (m' := (eL S P).length - (i + 1)) (by omega) ⟨i + 1, w, rfl, by omega, hlt, hy5, hb4.frame hf5 (by omega), hl4.frame hf5 (fun b hb e => n1 (by rw [← e]; exact Option.some.inj hb)), hwm, fun hm => ?_, (hf3.trans hf4).trans' hf5 (fun b hb e => by omega), rfl⟩
   rw [tk] at hm
   rcases List.mem_append.1 hm with hm | hm
   ·have := hye hm
    subst this
    rcases hem2 w hwm with e | e
    ·exact e
    ·rw [heavy_asymm e] at hh; cases hh
   ·exact (List.mem_singleton.1 hm).symm
  ·have hh : heavy w y = false := by simpa using hh
   repeat' (first|(with_reducible first|refine jA ?_|(refine hK _ _ ?_;clear hK K)|refine jJ fun K hK=>?_|refine jK ?_|refine jL ?_|refine jM ?_|refine jN ?_|refine jO ?_|refine jP ?_|refine jQ ?_|(refine jB ?_;clear hK K)|(refine jC ?_;clear hK K)|refine jD ?_|refine jE ?_|refine jG ?_|refine jH ?_|refine jI ?_)|((with_reducible refine jR ?hq ?_);case hq=>rfl)|((first|(with_reducible first|refine jS fun K hK=>?_|refine jT ?_|refine jU ?_)|((with_reducible refine jV ?hy fun K hK=>?_);case hy=>rfl));simp only [go_sem, Nat.reduceEqDiff, Nat.reduceAdd, Nat.reduceMul, Nat.reduceLeDiff, Nat.reduceLT, Int.reduceLT, Int.reduceLE, Int.reduceEq, Int.reduceNeg, Int.reduceToNat, Nat.reducePow, reduceIte, reduceCtorEq, hh, i12, ew])|((with_reducible first|refine jW ?hy ?_|refine jY ?hy ?_);case hy=>rfl)|((with_reducible first|refine jX ?hy ?_|refine jZ ?hy ?_);case hy=>rfl)|((with_reducible refine jF ?hy ?_);case hy=>decide))
   refine loop_normal (m' := (eL S P).length - (i + 1)) (by omega) ⟨i + 1, y, rfl, by omega, hlt, hy4, hb4, hl4, hym, fun hm => ?_, hf3.trans hf4, rfl⟩
   rw [tk] at hm
   rcases List.mem_append.1 hm with hm | hm
   ·exact hye hm
   ·obtain rfl := List.mem_singleton.1 hm
    rcases hem2 y hym with e | e
    ·exact e
    ·rw [hh] at e; cases e
 ·have t3 : (i < (eL S P).length) = False := eq_false hlt
  have ey : y = em := hye (by rw [List.take_of_length_le (by omega)]; exact hem1)
  subst ey
  have ok0 := hb0.okW (i := 0) (by simp)
  have ok1 := hb0.okW (i := 1) (by simp)
  have ok2 := hb0.okW (i := 2) (by simp)
  have ok3 := hb0.okW (i := 3) (by simp)
  obtain ⟨hb5, hf5⟩ := store4 hb0 (.int .i64 y.id) (.int .i64 y.u) (.int .i64 y.v) (.int .i64 y.w)
  have s13 := hf3.size
  have s01 := f01.size
  have e0 := hb5.cellOf (i := 0) rfl
  have e1' := hb5.cellOf (i := 1) rfl
  have e2 := hb5.cellOf (i := 2) rfl
  have e3 := hb5.cellOf (i := 3) rfl
  repeat' (first|(with_reducible first|refine jA ?_|(refine hK _ _ ?_;clear hK K)|refine jJ fun K hK=>?_|refine jK ?_|refine jL ?_|refine jM ?_|refine jN ?_|refine jO ?_|refine jP ?_|refine jQ ?_|(refine jB ?_;clear hK K)|(refine jC ?_;clear hK K)|refine jD ?_|refine jE ?_|refine jG ?_|refine jH ?_|refine jI ?_)|((with_reducible refine jR ?hq ?_);case hq=>rfl)|((first|(with_reducible first|refine jS fun K hK=>?_|refine jT ?_|refine jU ?_)|((with_reducible refine jV ?hy fun K hK=>?_);case hy=>rfl));simp only [go_sem, Nat.reduceEqDiff, Nat.reduceAdd, Nat.reduceMul, Nat.reduceLeDiff, Nat.reduceLT, Int.reduceLT, Int.reduceLE, Int.reduceEq, Int.reduceNeg, Int.reduceToNat, Nat.reducePow, reduceIte, reduceCtorEq, i6, i10, i11, i12, t3, q0, q1, q2, q3, ok0, ok1, ok2, ok3, okW_hset])|((with_reducible first|refine jW ?hy ?_|refine jY ?hy ?_);case hy=>rfl)|((with_reducible first|refine jX ?hy ?_|refine jZ ?hy ?_);case hy=>rfl)|((with_reducible refine jF ?hy ?_);case hy=>decide))
  generalize hset _ _ _ = H5 at hf5 e0 e1' e2 e3 ⊢
  simp only [go_sem, Nat.reduceEqDiff, Nat.reduceAdd, Nat.reduceMul, Nat.reduceLeDiff, Nat.reduceLT, Int.reduceLT, Int.reduceLE, Int.reduceEq, Int.reduceNeg, Int.reduceToNat, Nat.reducePow, reduceIte, reduceCtorEq, e0, e1', e2, e3]
  exact fin _ ((f01.trans hf3).trans' hf5 fun b hb e => by omega)
end
end Go.Proofs.Ytoplhfhjokjbiaa
