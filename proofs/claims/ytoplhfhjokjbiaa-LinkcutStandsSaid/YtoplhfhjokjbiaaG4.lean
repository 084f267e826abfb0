/-
  Linked trees in memory: Path; what Path and Most answer where there is no way.
  Linked trees: roots behind a link; trees that grow vertex by vertex; Link told by roots.
  The helpers of a law's package: pick, same.
  Linked trees: simple ways one by one; the law's helpers; awake.
  Lists of edges in memory: the place of a name; the heavier one of two edges.
  Lists of edges: who is joined with whom.
  What a law's walk is told of slices that came in.
  LinkcutEverts returns true, whatever it is given, and writes nothing that was there.
-/
import Derived.Test.YtoplhfhjokjbiaaG3
import Derived.Test.YtoplhfhjokjbiaaHpV
import Derived.Test.YtoplhfhjokjbiaaTabM
import Derived.Test.YtoplhfhjokjbiaaHpCR
import Derived.Test.YtoplhfhjokjbiaaHpW
import Derived.Test.YtoplhfhjokjbiaaHpN
import Derived.WalkKit
import Derived.ProofKit
import Derived.OpenShut
import Derived.ShutString
import Derived.ChangeOld
import Derived.Below
import Derived.Deep.Fields
namespace Go.Proofs.Ytoplhfhjokjbiaa
open Go Go.Hp Go.Li
set_option linter.all false
set_option maxRecDepth 100000
set_option maxHeartbeats 1600000
section
variable {H H' : Heap} {t g c len r : Nat} {Bf : Option Nat} {vf : Value} {S : Ls} {N N' : Nodes} {rows rows' : List (List Nat)} {ids : Int → Option Nat} {fr : List Nat} {T : Nat → Prop} {K : Value → Heap → Prop}
theorem m_path {u v r0 : Nat} (h : LtM H t T S) (hu : u < S.n) (hv : v < S.n) (hru : RootOf S.par (u + 1) r0) (hrv : RootOf S.par (v + 1) r0)
  (fin : ∀ H' P B w, SP S.par (u + 1) (v + 1) P → IR H' B w (outI S.E P) → (∀ b, B = some b → H.size ≤ b) → LtM H' t T S → Fr T H H' → K (.tuple #[w, .int .i64 0]) H') :
  CallsH Try.prog 11 #[.pointer (some ⟨t, 0, none⟩), .int .i64 (u : Nat), .int .i64 (v : Nat)] H K := by
 obtain ⟨g, c, len, r, Bf, vf, N, rows, ids, fr, h, e⟩ := h
 have hn := h.ok.n64
 have ew : IntKind.i64.wrap ((u : Int) + 1) = ((u + 1 : Nat) : Int) := by rw [wrap_i64] <;> omega
 have ew2 : IntKind.i64.wrap ((v : Int) + 1) = ((v + 1 : Nat) : Int) := by rw [wrap_i64] <;> omega
 refine call11 (by simp) ?_
 simp only [Try.f11, Option.getD_some]
 repeat' (first|(with_reducible first|refine jA ?_|(refine hK _ _ ?_;clear hK K)|refine jJ fun K hK=>?_|refine jK ?_|refine jL ?_|refine jM ?_|refine jN ?_|refine jO ?_|refine jP ?_|refine jQ ?_|(refine jB ?_;clear hK K)|(refine jC ?_;clear hK K)|refine jD ?_|refine jE ?_|refine jG ?_|refine jH ?_|refine jI ?_)|((with_reducible refine jR ?hq ?_);case hq=>rfl)|((first|(with_reducible first|refine jS fun K hK=>?_|refine jT ?_|refine jU ?_)|((with_reducible refine jV ?hy fun K hK=>?_);case hy=>rfl));simp only [go_sem, Nat.reduceEqDiff, Nat.reduceAdd, Nat.reduceMul, Nat.reduceLeDiff, Nat.reduceLT, Int.reduceLT, Int.reduceLE, Int.reduceEq, Int.reduceNeg, Int.reduceToNat, Nat.reducePow, reduceIte, reduceCtorEq])|((with_reducible first|refine jW ?hy ?_|refine jY ?hy ?_);case hy=>rfl)|((with_reducible first|refine jX ?hy ?_|refine jZ ?hy ?_);case hy=>rfl)|((with_reducible refine jF ?hy ?_);case hy=>decide))
 generalize eH1 : H.push _ = H1
 have f1 : Fr (fun _ => False) H H1 := by rw [← eH1]; exact (Fr.refl _ _).push _
 have s1 : H1.size = H.size + 1 := by rw [← eH1]; simp
 have q1 : Blk H1 H.size [.pointer (some ⟨t, 0, none⟩)] := by rw [← eH1]; exact Blk.new H [.pointer (some ⟨t, 0, none⟩)] _
 have h2 := h.grow f1
 have c1 := q1.cellOf (i := 0) rfl
 clear eH1
 simp only [go_sem, Nat.reduceEqDiff, Nat.reduceAdd, Nat.reduceMul, Nat.reduceLeDiff, Nat.reduceLT, Int.reduceLT, Int.reduceLE, Int.reduceEq, Int.reduceNeg, Int.reduceToNat, Nat.reducePow, reduceIte, reduceCtorEq, c1]
 repeat' (first|(with_reducible first|refine jA ?_|(refine hK _ _ ?_;clear hK K)|refine jJ fun K hK=>?_|refine jK ?_|refine jL ?_|refine jM ?_|refine jN ?_|refine jO ?_|refine jP ?_|refine jQ ?_|(refine jB ?_;clear hK K)|(refine jC ?_;clear hK K)|refine jD ?_|refine jE ?_|refine jG ?_|refine jH ?_|refine jI ?_)|((with_reducible refine jR ?hq ?_);case hq=>rfl)|((first|(with_reducible first|refine jS fun K hK=>?_|refine jT ?_|refine jU ?_)|((with_reducible refine jV ?hy fun K hK=>?_);case hy=>rfl));simp only [go_sem, Nat.reduceEqDiff, Nat.reduceAdd, Nat.reduceMul, Nat.reduceLeDiff, Nat.reduceLT, Int.reduceLT, Int.reduceLE, Int.reduceEq, Int.reduceNeg, Int.reduceToNat, Nat.reducePow, reduceIte, reduceCtorEq])|((with_reducible first|refine jW ?hy ?_|refine jY ?hy ?_);case hy=>rfl)|((with_reducible first|refine jX ?hy ?_|refine jZ ?hy ?_);case hy=>rfl)|((with_reducible refine jF ?hy ?_);case hy=>decide))
 refine hasA2 h2 fun H3 h3 hf3 => ?_
 rw [inB_of hu, inB_of hv]
 have c3 := (hf3.cell (a := ⟨H.size, 0, none⟩) (hcell_lt c1) id).trans c1
 repeat' (first|(with_reducible first|refine jA ?_|(refine hK _ _ ?_;clear hK K)|refine jJ fun K hK=>?_|refine jK ?_|refine jL ?_|refine jM ?_|refine jN ?_|refine jO ?_|refine jP ?_|refine jQ ?_|(refine jB ?_;clear hK K)|(refine jC ?_;clear hK K)|refine jD ?_|refine jE ?_|refine jG ?_|refine jH ?_|refine jI ?_)|((with_reducible refine jR ?hq ?_);case hq=>rfl)|((first|(with_reducible first|refine jS fun K hK=>?_|refine jT ?_|refine jU ?_)|((with_reducible refine jV ?hy fun K hK=>?_);case hy=>rfl));simp only [go_sem, Nat.reduceEqDiff, Nat.reduceAdd, Nat.reduceMul, Nat.reduceLeDiff, Nat.reduceLT, Int.reduceLT, Int.reduceLE, Int.reduceEq, Int.reduceNeg, Int.reduceToNat, Nat.reducePow, reduceIte, reduceCtorEq, Bool.and_self, c3, ew, ew2])|((with_reducible first|refine jW ?hy ?_|refine jY ?hy ?_);case hy=>rfl)|((with_reducible first|refine jX ?hy ?_|refine jZ ?hy ?_);case hy=>rfl)|((with_reducible refine jF ?hy ?_);case hy=>decide))
 refine same_ok h3.na h3.lc h3.lt (Ls.vtx hu) (Ls.vtx hv) hru hrv fun H4 N4 rows4 hN4 hL4 hf4 => ?_
 rw [decide_eq_true rfl]
 have hg := h3.na.lt
 have hlH := h.na.lt
 have h4 := h3.keep hN4 hL4 hf4
 have c4 := (hf4.cell (a := ⟨H.size, 0, none⟩) (hcell_lt c3) (by show ¬ H.size = g; omega)).trans c3
 have l4 := hcell_lt c4
 simp only [] at l4
 repeat' (first|(with_reducible first|refine jA ?_|(refine hK _ _ ?_;clear hK K)|refine jJ fun K hK=>?_|refine jK ?_|refine jL ?_|refine jM ?_|refine jN ?_|refine jO ?_|refine jP ?_|refine jQ ?_|(refine jB ?_;clear hK K)|(refine jC ?_;clear hK K)|refine jD ?_|refine jE ?_|refine jG ?_|refine jH ?_|refine jI ?_)|((with_reducible refine jR ?hq ?_);case hq=>rfl)|((first|(with_reducible first|refine jS fun K hK=>?_|refine jT ?_|refine jU ?_)|((with_reducible refine jV ?hy fun K hK=>?_);case hy=>rfl));simp only [go_sem, Nat.reduceEqDiff, Nat.reduceAdd, Nat.reduceMul, Nat.reduceLeDiff, Nat.reduceLT, Int.reduceLT, Int.reduceLE, Int.reduceEq, Int.reduceNeg, Int.reduceToNat, Nat.reducePow, reduceIte, reduceCtorEq])|((with_reducible first|refine jW ?hy ?_|refine jY ?hy ?_);case hy=>rfl)|((with_reducible first|refine jX ?hy ?_|refine jZ ?hy ?_);case hy=>rfl)|((with_reducible refine jF ?hy ?_);case hy=>decide))
 generalize eH5 : H4.push _ = H5
 have f5 : Fr (fun _ => False) H4 H5 := by rw [← eH5]; exact (Fr.refl _ _).push _
 have s5 : H5.size = H4.size + 1 := by rw [← eH5]; simp
 have d5 : Blk H5 H4.size [.slice none 0 0] := by rw [← eH5]; exact Blk.new H4 [.slice none 0 0] _
 clear eH5
 have h5 := h4.grow f5
 have c5 := (f5.cell (a := ⟨H.size, 0, none⟩) (hcell_lt c4) id).trans c4
 have hg4 := h4.na.lt
 simp only [go_sem, Nat.reduceEqDiff, Nat.reduceAdd, Nat.reduceMul, Nat.reduceLeDiff, Nat.reduceLT, Int.reduceLT, Int.reduceLE, Int.reduceEq, Int.reduceNeg, Int.reduceToNat, Nat.reducePow, reduceIte, reduceCtorEq, c5]
 repeat' (first|(with_reducible first|refine jA ?_|(refine hK _ _ ?_;clear hK K)|refine jJ fun K hK=>?_|refine jK ?_|refine jL ?_|refine jM ?_|refine jN ?_|refine jO ?_|refine jP ?_|refine jQ ?_|(refine jB ?_;clear hK K)|(refine jC ?_;clear hK K)|refine jD ?_|refine jE ?_|refine jG ?_|refine jH ?_|refine jI ?_)|((with_reducible refine jR ?hq ?_);case hq=>rfl)|((first|(with_reducible first|refine jS fun K hK=>?_|refine jT ?_|refine jU ?_)|((with_reducible refine jV ?hy fun K hK=>?_);case hy=>rfl));simp only [go_sem, Nat.reduceEqDiff, Nat.reduceAdd, Nat.reduceMul, Nat.reduceLeDiff, Nat.reduceLT, Int.reduceLT, Int.reduceLE, Int.reduceEq, Int.reduceNeg, Int.reduceToNat, Nat.reducePow, reduceIte, reduceCtorEq])|((with_reducible first|refine jW ?hy ?_|refine jY ?hy ?_);case hy=>rfl)|((with_reducible first|refine jX ?hy ?_|refine jZ ?hy ?_);case hy=>rfl)|((with_reducible refine jF ?hy ?_);case hy=>decide))
 refine way_ok (Q := fun b => b = H4.size) (PO := fun X => ∃ P w B, SP S.par (u + 1) (v + 1) P ∧ Blk X H4.size [w] ∧ IR X B w (outI S.E P) ∧ ∀ b, B = some b → H5.size ≤ b) h5 hu hv hru hrv ?_ ?_ ?_
 ·rintro X1 X2 ⟨P, w, B, p1, p2, p3, p4⟩ hf
  exact ⟨P, w, B, p1, p2.frame hf (by omega), p3.frame hf fun b hb (eb : b = g) => by have := p4 b hb; omega, p4⟩
 ·intro H6 N6 par1 a R K' hN6 hA6 hP hf6 hk
  have s6 := hf6.size
  refine path1_ok hN6 hA6 h5.lt (d5.frame hf6 (by omega)) (by omega) (by omega) ((hf6.cell (a := ⟨H.size, 0, none⟩) (hcell_lt c5) (by show ¬ H.size = g; omega)).trans c5) (by omega) (by omega) fun H7 N7 B w hN7 hL7 hd7 hw7 hB7 hf7 => ?_
  exact hk _ _ _ hN7 hL7 hf7 ⟨_, w, B, hP, hd7, hw7, fun b hb => by have := hB7 b hb; omega⟩
 ·rintro H6 N6 rows6 hN6 hL6 hf6 ⟨P, w, B, hP, hd6, hw6, hB6⟩
  have hbel := h4.below
  have h6 : LtAt H6 t g c len r Bf vf S N6 rows6 ids fr := h5.keepQ hN6 hL6 hf6 fun b hb hx => by
   rcases hx with e1 | e1
   ·rcases hb with e2 | e2 | e2
    ·exact h.na.ne (e2.symm.trans e1)
    ·exact h.ap.2.1 (e1.symm.trans e2)
    ·exact h.ap.2.2.2.1 (by rw [e2, e1])
   ·have := hbel b (hb.imp id fun h => .inr h)
    omega
  obtain ⟨wa, wc, hwv⟩ := hw6.slice
  subst hwv
  have r0 := hd6.cellOf (i := 0) rfl
  repeat' (first|(with_reducible first|refine jA ?_|(refine hK _ _ ?_;clear hK K)|refine jJ fun K hK=>?_|refine jK ?_|refine jL ?_|refine jM ?_|refine jN ?_|refine jO ?_|refine jP ?_|refine jQ ?_|(refine jB ?_;clear hK K)|(refine jC ?_;clear hK K)|refine jD ?_|refine jE ?_|refine jG ?_|refine jH ?_|refine jI ?_)|((with_reducible refine jR ?hq ?_);case hq=>rfl)|((first|(with_reducible first|refine jS fun K hK=>?_|refine jT ?_|refine jU ?_)|((with_reducible refine jV ?hy fun K hK=>?_);case hy=>rfl));simp only [go_sem, Nat.reduceEqDiff, Nat.reduceAdd, Nat.reduceMul, Nat.reduceLeDiff, Nat.reduceLT, Int.reduceLT, Int.reduceLE, Int.reduceEq, Int.reduceNeg, Int.reduceToNat, Nat.reducePow, reduceIte, reduceCtorEq, r0])|((with_reducible first|refine jW ?hy ?_|refine jY ?hy ?_);case hy=>rfl)|((with_reducible first|refine jX ?hy ?_|refine jZ ?hy ?_);case hy=>rfl)|((with_reducible refine jF ?hy ?_);case hy=>decide))
  refine fin _ P B _ hP hw6 (fun b hb => by have := hB6 b hb; omega) (h6.mT e) ?_
  have g04 : Fr (· = g) H H4 := ((f1.trans hf3).mono fun _ _ h => h.elim).trans hf4
  refine fr_g ((e g).2 (.inr (.inl rfl))) ((g04.trans (f5.mono fun _ _ h => h.elim)).trans' hf6 fun b hb hx => ?_)
  rcases hx with hx | hx
  ·exact hx
  ·omega
theorem m_path_bad {u v : Int} (h : LtM H t T S) (hv : (inB S.n u && inB S.n v) = false) (fin : ∀ H', LtM H' t T S → Fr T H H' → K (.tuple #[.slice none 0 0, .int .i64 50]) H') :
  CallsH Try.prog 11 #[.pointer (some ⟨t, 0, none⟩), .int .i64 u, .int .i64 v] H K := by
 obtain ⟨g, c, len, r, Bf, vf, N, rows, ids, fr, h, e⟩ := h
 refine call11 (by simp) ?_
 simp only [Try.f11, Option.getD_some]
 repeat' (first|(with_reducible first|refine jA ?_|(refine hK _ _ ?_;clear hK K)|refine jJ fun K hK=>?_|refine jK ?_|refine jL ?_|refine jM ?_|refine jN ?_|refine jO ?_|refine jP ?_|refine jQ ?_|(refine jB ?_;clear hK K)|(refine jC ?_;clear hK K)|refine jD ?_|refine jE ?_|refine jG ?_|refine jH ?_|refine jI ?_)|((with_reducible refine jR ?hq ?_);case hq=>rfl)|((first|(with_reducible first|refine jS fun K hK=>?_|refine jT ?_|refine jU ?_)|((with_reducible refine jV ?hy fun K hK=>?_);case hy=>rfl));simp only [go_sem, Nat.reduceEqDiff, Nat.reduceAdd, Nat.reduceMul, Nat.reduceLeDiff, Nat.reduceLT, Int.reduceLT, Int.reduceLE, Int.reduceEq, Int.reduceNeg, Int.reduceToNat, Nat.reducePow, reduceIte, reduceCtorEq])|((with_reducible first|refine jW ?hy ?_|refine jY ?hy ?_);case hy=>rfl)|((with_reducible first|refine jX ?hy ?_|refine jZ ?hy ?_);case hy=>rfl)|((with_reducible refine jF ?hy ?_);case hy=>decide))
 generalize eH1 : H.push _ = H1
 have f1 : Fr (fun _ => False) H H1 := by rw [← eH1]; exact (Fr.refl _ _).push _
 have q1 : Blk H1 H.size [.pointer (some ⟨t, 0, none⟩)] := by rw [← eH1]; exact Blk.new H [.pointer (some ⟨t, 0, none⟩)] _
 have h2 := h.grow f1
 have c1 := q1.cellOf (i := 0) rfl
 clear eH1
 simp only [go_sem, Nat.reduceEqDiff, Nat.reduceAdd, Nat.reduceMul, Nat.reduceLeDiff, Nat.reduceLT, Int.reduceLT, Int.reduceLE, Int.reduceEq, Int.reduceNeg, Int.reduceToNat, Nat.reducePow, reduceIte, reduceCtorEq, c1]
 repeat' (first|(with_reducible first|refine jA ?_|(refine hK _ _ ?_;clear hK K)|refine jJ fun K hK=>?_|refine jK ?_|refine jL ?_|refine jM ?_|refine jN ?_|refine jO ?_|refine jP ?_|refine jQ ?_|(refine jB ?_;clear hK K)|(refine jC ?_;clear hK K)|refine jD ?_|refine jE ?_|refine jG ?_|refine jH ?_|refine jI ?_)|((with_reducible refine jR ?hq ?_);case hq=>rfl)|((first|(with_reducible first|refine jS fun K hK=>?_|refine jT ?_|refine jU ?_)|((with_reducible refine jV ?hy fun K hK=>?_);case hy=>rfl));simp only [go_sem, Nat.reduceEqDiff, Nat.reduceAdd, Nat.reduceMul, Nat.reduceLeDiff, Nat.reduceLT, Int.reduceLT, Int.reduceLE, Int.reduceEq, Int.reduceNeg, Int.reduceToNat, Nat.reducePow, reduceIte, reduceCtorEq])|((with_reducible first|refine jW ?hy ?_|refine jY ?hy ?_);case hy=>rfl)|((with_reducible first|refine jX ?hy ?_|refine jZ ?hy ?_);case hy=>rfl)|((with_reducible refine jF ?hy ?_);case hy=>decide))
 refine hasA2 h2 fun H3 h3 hf3 => ?_
 rw [hv]
 repeat' (first|(with_reducible first|refine jA ?_|(refine hK _ _ ?_;clear hK K)|refine jJ fun K hK=>?_|refine jK ?_|refine jL ?_|refine jM ?_|refine jN ?_|refine jO ?_|refine jP ?_|refine jQ ?_|(refine jB ?_;clear hK K)|(refine jC ?_;clear hK K)|refine jD ?_|refine jE ?_|refine jG ?_|refine jH ?_|refine jI ?_)|((with_reducible refine jR ?hq ?_);case hq=>rfl)|((first|(with_reducible first|refine jS fun K hK=>?_|refine jT ?_|refine jU ?_)|((with_reducible refine jV ?hy fun K hK=>?_);case hy=>rfl));simp only [go_sem, Nat.reduceEqDiff, Nat.reduceAdd, Nat.reduceMul, Nat.reduceLeDiff, Nat.reduceLT, Int.reduceLT, Int.reduceLE, Int.reduceEq, Int.reduceNeg, Int.reduceToNat, Nat.reducePow, reduceIte, reduceCtorEq])|((with_reducible first|refine jW ?hy ?_|refine jY ?hy ?_);case hy=>rfl)|((with_reducible first|refine jX ?hy ?_|refine jZ ?hy ?_);case hy=>rfl)|((with_reducible refine jF ?hy ?_);case hy=>decide))
 exact fin _ (h3.mT e) ((f1.trans hf3).mono fun _ _ h => h.elim)
theorem m_path_none {u v ru rv : Nat} (h : LtM H t T S) (hu : u < S.n) (hv : v < S.n) (hru : RootOf S.par (u + 1) ru) (hrv : RootOf S.par (v + 1) rv) (hne : ru ≠ rv) (fin : ∀ H', LtM H' t T S → Fr T H H' → K (.tuple #[.slice none 0 0, .int .i64 54]) H') :
  CallsH Try.prog 11 #[.pointer (some ⟨t, 0, none⟩), .int .i64 (u : Nat), .int .i64 (v : Nat)] H K := by
 obtain ⟨g, c, len, r, Bf, vf, N, rows, ids, fr, h, e⟩ := h
 have hn := h.ok.n64
 have ew : IntKind.i64.wrap ((u : Int) + 1) = ((u + 1 : Nat) : Int) := by rw [wrap_i64] <;> omega
 have ew2 : IntKind.i64.wrap ((v : Int) + 1) = ((v + 1 : Nat) : Int) := by rw [wrap_i64] <;> omega
 refine call11 (by simp) ?_
 simp only [Try.f11, Option.getD_some]
 repeat' (first|(with_reducible first|refine jA ?_|(refine hK _ _ ?_;clear hK K)|refine jJ fun K hK=>?_|refine jK ?_|refine jL ?_|refine jM ?_|refine jN ?_|refine jO ?_|refine jP ?_|refine jQ ?_|(refine jB ?_;clear hK K)|(refine jC ?_;clear hK K)|refine jD ?_|refine jE ?_|refine jG ?_|refine jH ?_|refine jI ?_)|((with_reducible refine jR ?hq ?_);case hq=>rfl)|((first|(with_reducible first|refine jS fun K hK=>?_|refine jT ?_|refine jU ?_)|((with_reducible refine jV ?hy fun K hK=>?_);case hy=>rfl));simp only [go_sem, Nat.reduceEqDiff, Nat.reduceAdd, Nat.reduceMul, Nat.reduceLeDiff, Nat.reduceLT, Int.reduceLT, Int.reduceLE, Int.reduceEq, Int.reduceNeg, Int.reduceToNat, Nat.reducePow, reduceIte, reduceCtorEq])|((with_reducible first|refine jW ?hy ?_|refine jY ?hy ?_);case hy=>rfl)|((with_reducible first|refine jX ?hy ?_|refine jZ ?hy ?_);case hy=>rfl)|((with_reducible refine jF ?hy ?_);case hy=>decide))
 generalize eH1 : H.push _ = H1
 have f1 : Fr (fun _ => False) H H1 := by rw [← eH1]; exact (Fr.refl _ _).push _
 have s1 : H1.size = H.size + 1 := by rw [← eH1]; simp
 have q1 : Blk H1 H.size [.pointer (some ⟨t, 0, none⟩)] := by rw [← eH1]; exact Blk.new H [.pointer (some ⟨t, 0, none⟩)] _
 have h2 := h.grow f1
 have c1 := q1.cellOf (i := 0) rfl
 clear eH1
 simp only [go_sem, Nat.reduceEqDiff, Nat.reduceAdd, Nat.reduceMul, Nat.reduceLeDiff, Nat.reduceLT, Int.reduceLT, Int.reduceLE, Int.reduceEq, Int.reduceNeg, Int.reduceToNat, Nat.reducePow, reduceIte, reduceCtorEq, c1]
 repeat' (first|(with_reducible first|refine jA ?_|(refine hK _ _ ?_;clear hK K)|refine jJ fun K hK=>?_|refine jK ?_|refine jL ?_|refine jM ?_|refine jN ?_|refine jO ?_|refine jP ?_|refine jQ ?_|(refine jB ?_;clear hK K)|(refine jC ?_;clear hK K)|refine jD ?_|refine jE ?_|refine jG ?_|refine jH ?_|refine jI ?_)|((with_reducible refine jR ?hq ?_);case hq=>rfl)|((first|(with_reducible first|refine jS fun K hK=>?_|refine jT ?_|refine jU ?_)|((with_reducible refine jV ?hy fun K hK=>?_);case hy=>rfl));simp only [go_sem, Nat.reduceEqDiff, Nat.reduceAdd, Nat.reduceMul, Nat.reduceLeDiff, Nat.reduceLT, Int.reduceLT, Int.reduceLE, Int.reduceEq, Int.reduceNeg, Int.reduceToNat, Nat.reducePow, reduceIte, reduceCtorEq])|((with_reducible first|refine jW ?hy ?_|refine jY ?hy ?_);case hy=>rfl)|((with_reducible first|refine jX ?hy ?_|refine jZ ?hy ?_);case hy=>rfl)|((with_reducible refine jF ?hy ?_);case hy=>decide))
 refine hasA2 h2 fun H3 h3 hf3 => ?_
 rw [inB_of hu, inB_of hv]
 have c3 := (hf3.cell (a := ⟨H.size, 0, none⟩) (hcell_lt c1) id).trans c1
 repeat' (first|(with_reducible first|refine jA ?_|(refine hK _ _ ?_;clear hK K)|refine jJ fun K hK=>?_|refine jK ?_|refine jL ?_|refine jM ?_|refine jN ?_|refine jO ?_|refine jP ?_|refine jQ ?_|(refine jB ?_;clear hK K)|(refine jC ?_;clear hK K)|refine jD ?_|refine jE ?_|refine jG ?_|refine jH ?_|refine jI ?_)|((with_reducible refine jR ?hq ?_);case hq=>rfl)|((first|(with_reducible first|refine jS fun K hK=>?_|refine jT ?_|refine jU ?_)|((with_reducible refine jV ?hy fun K hK=>?_);case hy=>rfl));simp only [go_sem, Nat.reduceEqDiff, Nat.reduceAdd, Nat.reduceMul, Nat.reduceLeDiff, Nat.reduceLT, Int.reduceLT, Int.reduceLE, Int.reduceEq, Int.reduceNeg, Int.reduceToNat, Nat.reducePow, reduceIte, reduceCtorEq, Bool.and_self, c3, ew, ew2])|((with_reducible first|refine jW ?hy ?_|refine jY ?hy ?_);case hy=>rfl)|((with_reducible first|refine jX ?hy ?_|refine jZ ?hy ?_);case hy=>rfl)|((with_reducible refine jF ?hy ?_);case hy=>decide))
 refine same_ok h3.na h3.lc h3.lt (Ls.vtx hu) (Ls.vtx hv) hru hrv fun H4 N4 rows4 hN4 hL4 hf4 => ?_
 rw [decide_eq_false hne]
 have h4 := h3.keep hN4 hL4 hf4
 repeat' (first|(with_reducible first|refine jA ?_|(refine hK _ _ ?_;clear hK K)|refine jJ fun K hK=>?_|refine jK ?_|refine jL ?_|refine jM ?_|refine jN ?_|refine jO ?_|refine jP ?_|refine jQ ?_|(refine jB ?_;clear hK K)|(refine jC ?_;clear hK K)|refine jD ?_|refine jE ?_|refine jG ?_|refine jH ?_|refine jI ?_)|((with_reducible refine jR ?hq ?_);case hq=>rfl)|((first|(with_reducible first|refine jS fun K hK=>?_|refine jT ?_|refine jU ?_)|((with_reducible refine jV ?hy fun K hK=>?_);case hy=>rfl));simp only [go_sem, Nat.reduceEqDiff, Nat.reduceAdd, Nat.reduceMul, Nat.reduceLeDiff, Nat.reduceLT, Int.reduceLT, Int.reduceLE, Int.reduceEq, Int.reduceNeg, Int.reduceToNat, Nat.reducePow, reduceIte, reduceCtorEq])|((with_reducible first|refine jW ?hy ?_|refine jY ?hy ?_);case hy=>rfl)|((with_reducible first|refine jX ?hy ?_|refine jZ ?hy ?_);case hy=>rfl)|((with_reducible refine jF ?hy ?_);case hy=>decide))
 exact fin _ (h4.mT e) (fr_g ((e g).2 (.inr (.inl rfl))) (((f1.trans hf3).mono fun _ _ h => h.elim).trans hf4))
theorem m_most_bad {u v : Int} (h : LtM H t T S) (hv : (inB S.n u && inB S.n v) = false) (fin : ∀ H', LtM H' t T S → Fr T H H' → K (.tuple #[Ed.zero.val, .int .i64 50]) H') :
  CallsH Try.prog 12 #[.pointer (some ⟨t, 0, none⟩), .int .i64 u, .int .i64 v] H K := by
 obtain ⟨g, c, len, r, Bf, vf, N, rows, ids, fr, h, e⟩ := h
 refine call12 (by simp) ?_
 simp only [Try.f12, Option.getD_some]
 repeat' (first|(with_reducible first|refine jA ?_|(refine hK _ _ ?_;clear hK K)|refine jJ fun K hK=>?_|refine jK ?_|refine jL ?_|refine jM ?_|refine jN ?_|refine jO ?_|refine jP ?_|refine jQ ?_|(refine jB ?_;clear hK K)|(refine jC ?_;clear hK K)|refine jD ?_|refine jE ?_|refine jG ?_|refine jH ?_|refine jI ?_)|((with_reducible refine jR ?hq ?_);case hq=>rfl)|((first|(with_reducible first|refine jS fun K hK=>?_|refine jT ?_|refine jU ?_)|((with_reducible refine jV ?hy fun K hK=>?_);case hy=>rfl));simp only [go_sem, Nat.reduceEqDiff, Nat.reduceAdd, Nat.reduceMul, Nat.reduceLeDiff, Nat.reduceLT, Int.reduceLT, Int.reduceLE, Int.reduceEq, Int.reduceNeg, Int.reduceToNat, Nat.reducePow, reduceIte, reduceCtorEq, Array.size_push])|((with_reducible first|refine jW ?hy ?_|refine jY ?hy ?_);case hy=>rfl)|((with_reducible first|refine jX ?hy ?_|refine jZ ?hy ?_);case hy=>rfl)|((with_reducible refine jF ?hy ?_);case hy=>decide))
 generalize eH1 : H.push (.cells #[.pointer (some ⟨t, 0, none⟩)] _) = H1
 generalize eH2 : H1.push _ = H2
 have f1 : Fr (fun _ => False) H H1 := by rw [← eH1]; exact (Fr.refl _ _).push _
 have f2 : Fr (fun _ => False) H1 H2 := by rw [← eH2]; exact (Fr.refl _ _).push _
 have s1 : H1.size = H.size + 1 := by rw [← eH1]; simp
 have q1 : Blk H1 H.size [.pointer (some ⟨t, 0, none⟩)] := by rw [← eH1]; exact Blk.new H [.pointer (some ⟨t, 0, none⟩)] _
 have q2 : Blk H2 (H.size + 1) [.int .i64 0, .int .i64 0, .int .i64 0, .int .i64 0] := by rw [← s1, ← eH2]; exact Blk.new H1 [.int .i64 0, .int .i64 0, .int .i64 0, .int .i64 0] _
 have q12 := q1.frame f2 fun h => h
 have h2 := h.grow (f1.trans f2)
 have c1 := q12.cellOf (i := 0) rfl
 simp only [go_sem, Nat.reduceEqDiff, Nat.reduceAdd, Nat.reduceMul, Nat.reduceLeDiff, Nat.reduceLT, Int.reduceLT, Int.reduceLE, Int.reduceEq, Int.reduceNeg, Int.reduceToNat, Nat.reducePow, reduceIte, reduceCtorEq, c1]
 repeat' (first|(with_reducible first|refine jA ?_|(refine hK _ _ ?_;clear hK K)|refine jJ fun K hK=>?_|refine jK ?_|refine jL ?_|refine jM ?_|refine jN ?_|refine jO ?_|refine jP ?_|refine jQ ?_|(refine jB ?_;clear hK K)|(refine jC ?_;clear hK K)|refine jD ?_|refine jE ?_|refine jG ?_|refine jH ?_|refine jI ?_)|((with_reducible refine jR ?hq ?_);case hq=>rfl)|((first|(with_reducible first|refine jS fun K hK=>?_|refine jT ?_|refine jU ?_)|((with_reducible refine jV ?hy fun K hK=>?_);case hy=>rfl));simp only [go_sem, Nat.reduceEqDiff, Nat.reduceAdd, Nat.reduceMul, Nat.reduceLeDiff, Nat.reduceLT, Int.reduceLT, Int.reduceLE, Int.reduceEq, Int.reduceNeg, Int.reduceToNat, Nat.reducePow, reduceIte, reduceCtorEq])|((with_reducible first|refine jW ?hy ?_|refine jY ?hy ?_);case hy=>rfl)|((with_reducible first|refine jX ?hy ?_|refine jZ ?hy ?_);case hy=>rfl)|((with_reducible refine jF ?hy ?_);case hy=>decide))
 clear eH1 eH2
 refine hasA2 h2 fun H3 h3 hf3 => ?_
 rw [hv]
 have q23 := q2.frame hf3 id
 have o0 := q23.okW (i := 0) (by simp)
 have o1 := q23.okW (i := 1) (by simp)
 have o2 := q23.okW (i := 2) (by simp)
 have o3 := q23.okW (i := 3) (by simp)
 repeat' (first|(with_reducible first|refine jA ?_|(refine hK _ _ ?_;clear hK K)|refine jJ fun K hK=>?_|refine jK ?_|refine jL ?_|refine jM ?_|refine jN ?_|refine jO ?_|refine jP ?_|refine jQ ?_|(refine jB ?_;clear hK K)|(refine jC ?_;clear hK K)|refine jD ?_|refine jE ?_|refine jG ?_|refine jH ?_|refine jI ?_)|((with_reducible refine jR ?hq ?_);case hq=>rfl)|((first|(with_reducible first|refine jS fun K hK=>?_|refine jT ?_|refine jU ?_)|((with_reducible refine jV ?hy fun K hK=>?_);case hy=>rfl));simp only [go_sem, Nat.reduceEqDiff, Nat.reduceAdd, Nat.reduceMul, Nat.reduceLeDiff, Nat.reduceLT, Int.reduceLT, Int.reduceLE, Int.reduceEq, Int.reduceNeg, Int.reduceToNat, Nat.reducePow, reduceIte, reduceCtorEq, o0, o1, o2, o3, okW_hset, hcell_push, hcell_top, okW_push, okW_top, hcell_hset_ne, hcell_hset_off, hcell_hset_eq, okW_hset, hset_size, Array.size_push, Nat.lt_add_one, ne_add_one, add_one_ne, Nat.add_assoc, add_same, add_lt_same, Nat.reduceEqDiff, lt_add_k, add_k_ne, ne_add_k])|((with_reducible first|refine jW ?hy ?_|refine jY ?hy ?_);case hy=>rfl)|((with_reducible first|refine jX ?hy ?_|refine jZ ?hy ?_);case hy=>rfl)|((with_reducible refine jF ?hy ?_);case hy=>decide))
 obtain ⟨b7, f7⟩ := store4 q23 (.int .i64 0) (.int .i64 0) (.int .i64 0) (.int .i64 0)
 have hb0 := h.below
 refine fin _ ((h3.frame f7 fun b hb (e1 : b = H.size + 1) => ?_).mT e) ?_
 ·have := hb0 b hb
  omega
 ·exact (((f1.trans f2).trans hf3).trans' f7 fun b hb (e1 : b = H.size + 1) => by omega).mono fun _ _ h => h.elim
theorem m_most_self {u v : Nat} (h : LtM H t T S) (hu : u < S.n) (hv : v < S.n) (huv : u = v) (fin : ∀ H', LtM H' t T S → Fr T H H' → K (.tuple #[Ed.zero.val, .int .i64 54]) H') :
  CallsH Try.prog 12 #[.pointer (some ⟨t, 0, none⟩), .int .i64 (u : Nat), .int .i64 (v : Nat)] H K := by
 obtain ⟨g, c, len, r, Bf, vf, N, rows, ids, fr, h, e⟩ := h
 have hn := h.ok.n64
 have hlH := h.na.lt
 have ew : IntKind.i64.wrap ((u : Int) + 1) = ((u + 1 : Nat) : Int) := by rw [wrap_i64] <;> omega
 have ew2 : IntKind.i64.wrap ((v : Int) + 1) = ((v + 1 : Nat) : Int) := by rw [wrap_i64] <;> omega
 refine call12 (by simp) ?_
 simp only [Try.f12, Option.getD_some]
 repeat' (first|(with_reducible first|refine jA ?_|(refine hK _ _ ?_;clear hK K)|refine jJ fun K hK=>?_|refine jK ?_|refine jL ?_|refine jM ?_|refine jN ?_|refine jO ?_|refine jP ?_|refine jQ ?_|(refine jB ?_;clear hK K)|(refine jC ?_;clear hK K)|refine jD ?_|refine jE ?_|refine jG ?_|refine jH ?_|refine jI ?_)|((with_reducible refine jR ?hq ?_);case hq=>rfl)|((first|(with_reducible first|refine jS fun K hK=>?_|refine jT ?_|refine jU ?_)|((with_reducible refine jV ?hy fun K hK=>?_);case hy=>rfl));simp only [go_sem, Nat.reduceEqDiff, Nat.reduceAdd, Nat.reduceMul, Nat.reduceLeDiff, Nat.reduceLT, Int.reduceLT, Int.reduceLE, Int.reduceEq, Int.reduceNeg, Int.reduceToNat, Nat.reducePow, reduceIte, reduceCtorEq, Array.size_push])|((with_reducible first|refine jW ?hy ?_|refine jY ?hy ?_);case hy=>rfl)|((with_reducible first|refine jX ?hy ?_|refine jZ ?hy ?_);case hy=>rfl)|((with_reducible refine jF ?hy ?_);case hy=>decide))
 generalize eH1 : H.push (.cells #[.pointer (some ⟨t, 0, none⟩)] _) = H1
 generalize eH2 : H1.push _ = H2
 have f1 : Fr (fun _ => False) H H1 := by rw [← eH1]; exact (Fr.refl _ _).push _
 have f2 : Fr (fun _ => False) H1 H2 := by rw [← eH2]; exact (Fr.refl _ _).push _
 have s1 : H1.size = H.size + 1 := by rw [← eH1]; simp
 have q1 : Blk H1 H.size [.pointer (some ⟨t, 0, none⟩)] := by rw [← eH1]; exact Blk.new H [.pointer (some ⟨t, 0, none⟩)] _
 have q2 : Blk H2 (H.size + 1) [.int .i64 0, .int .i64 0, .int .i64 0, .int .i64 0] := by rw [← s1, ← eH2]; exact Blk.new H1 [.int .i64 0, .int .i64 0, .int .i64 0, .int .i64 0] _
 have q12 := q1.frame f2 fun h => h
 have h2 := h.grow (f1.trans f2)
 have c1 := q12.cellOf (i := 0) rfl
 simp only [go_sem, Nat.reduceEqDiff, Nat.reduceAdd, Nat.reduceMul, Nat.reduceLeDiff, Nat.reduceLT, Int.reduceLT, Int.reduceLE, Int.reduceEq, Int.reduceNeg, Int.reduceToNat, Nat.reducePow, reduceIte, reduceCtorEq, c1]
 repeat' (first|(with_reducible first|refine jA ?_|(refine hK _ _ ?_;clear hK K)|refine jJ fun K hK=>?_|refine jK ?_|refine jL ?_|refine jM ?_|refine jN ?_|refine jO ?_|refine jP ?_|refine jQ ?_|(refine jB ?_;clear hK K)|(refine jC ?_;clear hK K)|refine jD ?_|refine jE ?_|refine jG ?_|refine jH ?_|refine jI ?_)|((with_reducible refine jR ?hq ?_);case hq=>rfl)|((first|(with_reducible first|refine jS fun K hK=>?_|refine jT ?_|refine jU ?_)|((with_reducible refine jV ?hy fun K hK=>?_);case hy=>rfl));simp only [go_sem, Nat.reduceEqDiff, Nat.reduceAdd, Nat.reduceMul, Nat.reduceLeDiff, Nat.reduceLT, Int.reduceLT, Int.reduceLE, Int.reduceEq, Int.reduceNeg, Int.reduceToNat, Nat.reducePow, reduceIte, reduceCtorEq])|((with_reducible first|refine jW ?hy ?_|refine jY ?hy ?_);case hy=>rfl)|((with_reducible first|refine jX ?hy ?_|refine jZ ?hy ?_);case hy=>rfl)|((with_reducible refine jF ?hy ?_);case hy=>decide))
 clear eH1 eH2
 refine hasA2 h2 fun H3 h3 hf3 => ?_
 rw [inB_of hu, inB_of hv]
 have q23 := q2.frame hf3 id
 have c3 := (hf3.cell (a := ⟨H.size, 0, none⟩) (hcell_lt c1) id).trans c1
 have huv' : ((u : Int) == (v : Int)) = true := by simp [huv]
 have o0 := q23.okW (i := 0) (by simp)
 have o1 := q23.okW (i := 1) (by simp)
 have o2 := q23.okW (i := 2) (by simp)
 have o3 := q23.okW (i := 3) (by simp)
 repeat' (first|(with_reducible first|refine jA ?_|(refine hK _ _ ?_;clear hK K)|refine jJ fun K hK=>?_|refine jK ?_|refine jL ?_|refine jM ?_|refine jN ?_|refine jO ?_|refine jP ?_|refine jQ ?_|(refine jB ?_;clear hK K)|(refine jC ?_;clear hK K)|refine jD ?_|refine jE ?_|refine jG ?_|refine jH ?_|refine jI ?_)|((with_reducible refine jR ?hq ?_);case hq=>rfl)|((first|(with_reducible first|refine jS fun K hK=>?_|refine jT ?_|refine jU ?_)|((with_reducible refine jV ?hy fun K hK=>?_);case hy=>rfl));simp only [go_sem, Nat.reduceEqDiff, Nat.reduceAdd, Nat.reduceMul, Nat.reduceLeDiff, Nat.reduceLT, Int.reduceLT, Int.reduceLE, Int.reduceEq, Int.reduceNeg, Int.reduceToNat, Nat.reducePow, reduceIte, reduceCtorEq, Bool.and_self, c3, huv', o0, o1, o2, o3, okW_hset, hcell_push, hcell_top, okW_push, okW_top, hcell_hset_ne, hcell_hset_off, hcell_hset_eq, okW_hset, hset_size, Array.size_push, Nat.lt_add_one, ne_add_one, add_one_ne, Nat.add_assoc, add_same, add_lt_same, Nat.reduceEqDiff, lt_add_k, add_k_ne, ne_add_k])|((with_reducible first|refine jW ?hy ?_|refine jY ?hy ?_);case hy=>rfl)|((with_reducible first|refine jX ?hy ?_|refine jZ ?hy ?_);case hy=>rfl)|((with_reducible refine jF ?hy ?_);case hy=>decide))
 obtain ⟨b7, f7⟩ := store4 q23 (.int .i64 0) (.int .i64 0) (.int .i64 0) (.int .i64 0)
 have hb0 := h.below
 refine fin _ ((h3.frame f7 fun b hb (e1 : b = H.size + 1) => ?_).mT e) ?_
 ·have := hb0 b hb
  omega
 ·exact (((f1.trans f2).trans hf3).mono fun _ _ h => h.elim).trans' f7 fun b hb (e1 : b = H.size + 1) => by omega
theorem m_most_none {u v ru rv : Nat} (h : LtM H t T S) (hu : u < S.n) (hv : v < S.n) (huv : u ≠ v) (hru : RootOf S.par (u + 1) ru) (hrv : RootOf S.par (v + 1) rv) (hne : ru ≠ rv) (fin : ∀ H', LtM H' t T S → Fr T H H' → K (.tuple #[Ed.zero.val, .int .i64 54]) H') :
  CallsH Try.prog 12 #[.pointer (some ⟨t, 0, none⟩), .int .i64 (u : Nat), .int .i64 (v : Nat)] H K := by
 obtain ⟨g, c, len, r, Bf, vf, N, rows, ids, fr, h, e⟩ := h
 have hn := h.ok.n64
 have hlH := h.na.lt
 have ew : IntKind.i64.wrap ((u : Int) + 1) = ((u + 1 : Nat) : Int) := by rw [wrap_i64] <;> omega
 have ew2 : IntKind.i64.wrap ((v : Int) + 1) = ((v + 1 : Nat) : Int) := by rw [wrap_i64] <;> omega
 refine call12 (by simp) ?_
 simp only [Try.f12, Option.getD_some]
 repeat' (first|(with_reducible first|refine jA ?_|(refine hK _ _ ?_;clear hK K)|refine jJ fun K hK=>?_|refine jK ?_|refine jL ?_|refine jM ?_|refine jN ?_|refine jO ?_|refine jP ?_|refine jQ ?_|(refine jB ?_;clear hK K)|(refine jC ?_;clear hK K)|refine jD ?_|refine jE ?_|refine jG ?_|refine jH ?_|refine jI ?_)|((with_reducible refine jR ?hq ?_);case hq=>rfl)|((first|(with_reducible first|refine jS fun K hK=>?_|refine jT ?_|refine jU ?_)|((with_reducible refine jV ?hy fun K hK=>?_);case hy=>rfl));simp only [go_sem, Nat.reduceEqDiff, Nat.reduceAdd, Nat.reduceMul, Nat.reduceLeDiff, Nat.reduceLT, Int.reduceLT, Int.reduceLE, Int.reduceEq, Int.reduceNeg, Int.reduceToNat, Nat.reducePow, reduceIte, reduceCtorEq, Array.size_push])|((with_reducible first|refine jW ?hy ?_|refine jY ?hy ?_);case hy=>rfl)|((with_reducible first|refine jX ?hy ?_|refine jZ ?hy ?_);case hy=>rfl)|((with_reducible refine jF ?hy ?_);case hy=>decide))
 generalize eH1 : H.push (.cells #[.pointer (some ⟨t, 0, none⟩)] _) = H1
 generalize eH2 : H1.push _ = H2
 have f1 : Fr (fun _ => False) H H1 := by rw [← eH1]; exact (Fr.refl _ _).push _
 have f2 : Fr (fun _ => False) H1 H2 := by rw [← eH2]; exact (Fr.refl _ _).push _
 have s1 : H1.size = H.size + 1 := by rw [← eH1]; simp
 have q1 : Blk H1 H.size [.pointer (some ⟨t, 0, none⟩)] := by rw [← eH1]; exact Blk.new H [.pointer (some ⟨t, 0, none⟩)] _
 have q2 : Blk H2 (H.size + 1) [.int .i64 0, .int .i64 0, .int .i64 0, .int .i64 0] := by rw [← s1, ← eH2]; exact Blk.new H1 [.int .i64 0, .int .i64 0, .int .i64 0, .int .i64 0] _
 have q12 := q1.frame f2 fun h => h
 have h2 := h.grow (f1.trans f2)
 have c1 := q12.cellOf (i := 0) rfl
 simp only [go_sem, Nat.reduceEqDiff, Nat.reduceAdd, Nat.reduceMul, Nat.reduceLeDiff, Nat.reduceLT, Int.reduceLT, Int.reduceLE, Int.reduceEq, Int.reduceNeg, Int.reduceToNat, Nat.reducePow, reduceIte, reduceCtorEq, c1]
 repeat' (first|(with_reducible first|refine jA ?_|(refine hK _ _ ?_;clear hK K)|refine jJ fun K hK=>?_|refine jK ?_|refine jL ?_|refine jM ?_|refine jN ?_|refine jO ?_|refine jP ?_|refine jQ ?_|(refine jB ?_;clear hK K)|(refine jC ?_;clear hK K)|refine jD ?_|refine jE ?_|refine jG ?_|refine jH ?_|refine jI ?_)|((with_reducible refine jR ?hq ?_);case hq=>rfl)|((first|(with_reducible first|refine jS fun K hK=>?_|refine jT ?_|refine jU ?_)|((with_reducible refine jV ?hy fun K hK=>?_);case hy=>rfl));simp only [go_sem, Nat.reduceEqDiff, Nat.reduceAdd, Nat.reduceMul, Nat.reduceLeDiff, Nat.reduceLT, Int.reduceLT, Int.reduceLE, Int.reduceEq, Int.reduceNeg, Int.reduceToNat, Nat.reducePow, reduceIte, reduceCtorEq])|((with_reducible first|refine jW ?hy ?_|refine jY ?hy ?_);case hy=>rfl)|((with_reducible first|refine jX ?hy ?_|refine jZ ?hy ?_);case hy=>rfl)|((with_reducible refine jF ?hy ?_);case hy=>decide))
 clear eH1 eH2
 refine hasA2 h2 fun H3 h3 hf3 => ?_
 rw [inB_of hu, inB_of hv]
 have q23 := q2.frame hf3 id
 have c3 := (hf3.cell (a := ⟨H.size, 0, none⟩) (hcell_lt c1) id).trans c1
 have huv' : ((u : Int) == (v : Int)) = false := by simp; omega
 repeat' (first|(with_reducible first|refine jA ?_|(refine hK _ _ ?_;clear hK K)|refine jJ fun K hK=>?_|refine jK ?_|refine jL ?_|refine jM ?_|refine jN ?_|refine jO ?_|refine jP ?_|refine jQ ?_|(refine jB ?_;clear hK K)|(refine jC ?_;clear hK K)|refine jD ?_|refine jE ?_|refine jG ?_|refine jH ?_|refine jI ?_)|((with_reducible refine jR ?hq ?_);case hq=>rfl)|((first|(with_reducible first|refine jS fun K hK=>?_|refine jT ?_|refine jU ?_)|((with_reducible refine jV ?hy fun K hK=>?_);case hy=>rfl));simp only [go_sem, Nat.reduceEqDiff, Nat.reduceAdd, Nat.reduceMul, Nat.reduceLeDiff, Nat.reduceLT, Int.reduceLT, Int.reduceLE, Int.reduceEq, Int.reduceNeg, Int.reduceToNat, Nat.reducePow, reduceIte, reduceCtorEq, Bool.and_self, c3, huv', ew, ew2])|((with_reducible first|refine jW ?hy ?_|refine jY ?hy ?_);case hy=>rfl)|((with_reducible first|refine jX ?hy ?_|refine jZ ?hy ?_);case hy=>rfl)|((with_reducible refine jF ?hy ?_);case hy=>decide))
 refine same_ok h3.na h3.lc h3.lt (Ls.vtx hu) (Ls.vtx hv) hru hrv fun H4 N4 rows4 hN4 hL4 hf4 => ?_
 rw [decide_eq_false hne]
 have h4 := h3.keep hN4 hL4 hf4
 have q24 := q23.frame hf4 (show ¬ H.size + 1 = g by omega)
 have o0 := q24.okW (i := 0) (by simp)
 have o1 := q24.okW (i := 1) (by simp)
 have o2 := q24.okW (i := 2) (by simp)
 have o3 := q24.okW (i := 3) (by simp)
 repeat' (first|(with_reducible first|refine jA ?_|(refine hK _ _ ?_;clear hK K)|refine jJ fun K hK=>?_|refine jK ?_|refine jL ?_|refine jM ?_|refine jN ?_|refine jO ?_|refine jP ?_|refine jQ ?_|(refine jB ?_;clear hK K)|(refine jC ?_;clear hK K)|refine jD ?_|refine jE ?_|refine jG ?_|refine jH ?_|refine jI ?_)|((with_reducible refine jR ?hq ?_);case hq=>rfl)|((first|(with_reducible first|refine jS fun K hK=>?_|refine jT ?_|refine jU ?_)|((with_reducible refine jV ?hy fun K hK=>?_);case hy=>rfl));simp only [go_sem, Nat.reduceEqDiff, Nat.reduceAdd, Nat.reduceMul, Nat.reduceLeDiff, Nat.reduceLT, Int.reduceLT, Int.reduceLE, Int.reduceEq, Int.reduceNeg, Int.reduceToNat, Nat.reducePow, reduceIte, reduceCtorEq, o0, o1, o2, o3, okW_hset, hcell_push, hcell_top, okW_push, okW_top, hcell_hset_ne, hcell_hset_off, hcell_hset_eq, okW_hset, hset_size, Array.size_push, Nat.lt_add_one, ne_add_one, add_one_ne, Nat.add_assoc, add_same, add_lt_same, Nat.reduceEqDiff, lt_add_k, add_k_ne, ne_add_k])|((with_reducible first|refine jW ?hy ?_|refine jY ?hy ?_);case hy=>rfl)|((with_reducible first|refine jX ?hy ?_|refine jZ ?hy ?_);case hy=>rfl)|((with_reducible refine jF ?hy ?_);case hy=>decide))
 obtain ⟨b7, f7⟩ := store4 q24 (.int .i64 0) (.int .i64 0) (.int .i64 0) (.int .i64 0)
 have hb0 := h.below
 refine fin _ ((h4.frame f7 fun b hb (e1 : b = H.size + 1) => ?_).mT e) ?_
 ·have := hb0 b hb
  omega
 ·exact (fr_g ((e g).2 (.inr (.inl rfl))) ((((f1.trans f2).trans hf3).mono fun _ _ h => h.elim).trans hf4)).trans' f7 fun b hb (e1 : b = H.size + 1) => by omega
end
end Go.Proofs.Ytoplhfhjokjbiaa
namespace Go.Li
open Go Go.Hp
set_option linter.unusedVariables false
theorem Ch.up_mem {par : Par} {x : Nat} {l : List Nat} (h : Ch par x l) : ∀ y ∈ l, y = x ∨ ∃ z, par z = y := by
  induction h with
  | root _ => intro y hy; exact .inl (List.mem_singleton.1 hy)
  | @step h l h0 k ih =>
    intro y hy
    rcases List.mem_cons.1 hy with rfl | hy
    · exact .inl rfl
    · rcases ih y hy with rfl | h1
      · exact .inr ⟨h, rfl⟩
      · exact .inr h1
theorem Ch.root_last {par : Par} {x y r : Nat} {l : List Nat} (h : Ch par x l) (hl : l.getLast? = some r) (hy : y ∈ l) (h0 : par y = 0) : y = r := by
  obtain ⟨p, q, e⟩ := List.append_of_mem hy
  subst e
  have h1 := h.tail
  cases h1 with
  | root _ => simpa using hl
  | step h2 _ => exact absurd h0 h2
theorem RootOf.zero {par : Par} {x r : Nat} (h : RootOf par x r) : par r = 0 := by
  obtain ⟨l, h1, h2⟩ := h
  obtain ⟨p, e⟩ : ∃ p, l = p ++ [r] := by
    rcases List.eq_nil_or_concat l with e | ⟨q, z, e⟩
    · exact absurd e h1.ne
    · rw [List.concat_eq_append] at e
      subst e
      have : z = r := by simpa using h2
      exact ⟨q, by rw [this]⟩
  subst e
  have h3 := h1.tail
  cases h3 with
  | root h => exact h
  | step h0 k => exact absurd rfl k.ne
structure Linked (S S' : Ls) (u v : Nat) (e : Ed) : Prop where
  ok : S'.Ok
  n : S'.n = S.n
  ed : ∃ k, S.n < k ∧ S.E k = none ∧ S'.E = setE S.E k (some e)
  root : ∀ ru rv x r, RootOf S.par (u + 1) ru → RootOf S.par (v + 1) rv → (1 ≤ x ∧ x ≤ S.n) → RootOf S.par x r → RootOf S'.par x (if r = ru then rv else r)
  lone : ∀ a, 1 ≤ a → a ≤ S.n → a ≠ u + 1 → a ≠ v + 1 → S.par a = 0 → (∀ y, S.par y ≠ a) → S'.par a = 0 ∧ ∀ y, S'.par y ≠ a
section
variable {S : Ls}
theorem Ls.Ok.linked (k : S.Ok) {u v h ru rv : Nat} {l lv : List Nat} {e : Ed} (hu : u < S.n) (hv : v < S.n) (eu : e.u = (u : Nat)) (ev' : e.v = (v : Nat)) (hl : Ch S.par (u + 1) l) (hlv : Ch (Li.ev S.par 0 l) (v + 1) lv) (hul : u + 1 ∉ lv) (hh : S.n < h) (hE : S.E h = none)
    (hid : ∀ x e', S.E x = some e' → e'.id ≠ e.id) (hru : RootOf S.par (u + 1) ru) (hrv : RootOf S.par (v + 1) rv) (hne : ru ≠ rv) : Linked S (S.link l h e) u v e := by
  have k1 := k.evert ⟨by omega, by omega⟩ hl
  have hV : ¬ S.V h := by
    rintro (⟨_, h1⟩ | h1)
    · omega
    · rw [hE] at h1; cases h1
  have p0 : Li.ev S.par 0 l (u + 1) = 0 := by obtain ⟨r, rfl⟩ := hl.head; exact ev_head
  have ph : Li.ev S.par 0 l h = 0 := k1.dd h hV
  have nk' : ∀ y, Li.ev S.par 0 l y ≠ h := k1.no_kid hV (by omega)
  have tu : e.u.toNat = u := by omega
  have tv : e.v.toNat = v := by omega
  have hlast : l.getLast? = some ru := by
    obtain ⟨l', h1, h2⟩ := hru
    rw [hl.uniq h1]; exact h2
  have hlvl : lv.getLast? = some rv := by
    have h1 := ev_root hl (by omega) hlast hrv
    rw [if_neg (Ne.symm hne)] at h1
    obtain ⟨l', h2, h3⟩ := h1
    rw [hlv.uniq h2]; exact h3
  have hlive := k1.live hlv (Ls.vtx (S := S.ev l) hv)
  have hhl : h ∉ lv := fun hm => hV (hlive h hm)
  have hll : ∀ y ∈ l, S.V y := k.live hl (Ls.vtx hu)
  have hhn : h ≠ u + 1 := by omega
  have epar : (S.link l h e).par = setP (setP (Li.ev S.par 0 l) h (v + 1)) (u + 1) h := by unfold Ls.link; rw [tu, tv]
  refine ⟨k.linkOk hu hv eu ev' hl hlv hul hh hE hid, rfl, ⟨h, hh, hE, rfl⟩, fun ru' rv' x r h1 h2 hx hxr => ?_, fun a a1 a2 a3 a4 a5 a6 => ?_⟩
  · obtain rfl := h1.uniq hru
    obtain rfl := h2.uniq hrv
    rw [epar]
    obtain ⟨m, hm, hml⟩ := ev_root hl (by omega) hlast hxr
    have hhm : h ∉ m := fun hmem => by
      rcases hm.up_mem h hmem with e | ⟨z, e⟩
      · omega
      · exact nk' z e
    obtain ⟨m1, q1, q2, _⟩ := hang_chain (by omega) hlv hhl hm ph
    rw [q2 hhm] at q1
    have hlv2 : Ch (setP (Li.ev S.par 0 l) h (v + 1)) h (h :: lv) := by
      refine .step (by rw [setP_same]; omega) ?_
      rw [setP_same]
      exact hlv.congr fun y hy => setP_ne _ fun e => hhl (e ▸ hy)
    have p2u : setP (Li.ev S.par 0 l) h (v + 1) (u + 1) = 0 := by rw [setP_ne _ (Ne.symm hhn)]; exact p0
    obtain ⟨m2, q3, q4, q5⟩ := hang_chain (by omega) hlv2 (by simp only [List.mem_cons, not_or]; exact ⟨Ne.symm hhn, hul⟩) q1 p2u
    refine ⟨m2, q3, ?_⟩
    by_cases er : r = ru'
    · rw [if_pos er] at hml ⊢
      rw [q5 (List.mem_of_getLast? hml), List.getLast?_append]
      obtain ⟨s, hs⟩ := hlv.head
      rw [hs] at hlvl ⊢
      rw [List.getLast?_cons_cons, hlvl]; rfl
    · rw [if_neg er] at hml ⊢
      have hnm : u + 1 ∉ m := fun hmem => by
        have e1 := hm.root_last hml hmem p0
        have h0 := hxr.zero
        rw [← e1] at h0
        have := (RootOf.self h0).uniq hru
        exact er (by rw [← e1, this])
      rw [q4 hnm]; exact hml
  · rw [epar]
    have hal : a ∉ l := fun hm => by
      rcases hl.up_mem a hm with e | ⟨z, e⟩
      · exact a3 e
      · exact a6 z e
    constructor
    · rw [setP_ne _ a3, setP_ne _ (by omega), ev_not_mem hal]; exact a5
    · intro y hy
      by_cases e1 : y = u + 1
      · rw [e1, setP_same] at hy; omega
      · rw [setP_ne _ e1] at hy
        by_cases e2 : y = h
        · rw [e2, setP_same] at hy; omega
        · rw [setP_ne _ e2] at hy
          rcases ev_mem (l := l) (prev := 0) (par := S.par) (i := y) with h1 | h1 | ⟨_, h1⟩
          · omega
          · rw [hy] at h1; exact hal h1
          · rw [hy] at h1; exact a6 y h1.symm
structure Grow (S : Ls) (i : Nat) : Prop where
  one : ∃ r, ∀ a, a < i → RootOf S.par (a + 1) r
  lone : ∀ a, i ≤ a → a < S.n → S.par (a + 1) = 0 ∧ ∀ y, S.par y ≠ a + 1
theorem Grow.new (n : Nat) : Grow (Ls.new n) 1 :=
  ⟨⟨1, fun a ha => by obtain rfl : a = 0 := by omega
                      exact RootOf.self rfl⟩, fun a _ _ => ⟨rfl, fun y h => by cases h⟩⟩
theorem Grow.self {i : Nat} (h : Grow S i) (hi : i < S.n) : RootOf S.par (i + 1) (i + 1) := RootOf.self (h.lone i (Nat.le_refl _) hi).1
theorem Grow.apart {i a ra : Nat} (h : Grow S i) (hi : i < S.n) (ha : a < i) (hra : RootOf S.par (a + 1) ra) : ra ≠ i + 1 := by
  rintro rfl
  obtain ⟨l, h1, h2⟩ := hra
  rcases h1.up_mem _ (List.mem_of_getLast? h2) with e | ⟨z, e⟩
  · omega
  · exact (h.lone i (Nat.le_refl _) hi).2 z e
theorem Grow.up {i u v : Nat} {S' : Ls} {e : Ed} (h : Grow S i) (hi : i < S.n) (hk : Linked S S' u v e) (hor : (u = i ∧ v < i) ∨ (v = i ∧ u < i)) : Grow S' (i + 1) := by
  obtain ⟨r, hr⟩ := h.one
  have hs := h.self hi
  refine ⟨?_, fun a ha hn => ?_⟩
  · rcases hor with ⟨rfl, hv⟩ | ⟨rfl, hu⟩
    · have hne := h.apart hi hv (hr v hv)
      refine ⟨r, fun a ha => ?_⟩
      by_cases e : a = u
      · subst e
        have := hk.root _ _ _ _ hs (hr v hv) ⟨by omega, by omega⟩ hs
        rwa [if_pos rfl] at this
      · have := hk.root _ _ _ _ hs (hr v hv) ⟨by omega, by omega⟩ (hr a (by omega))
        rwa [if_neg hne] at this
    · have hne := h.apart hi hu (hr u hu)
      refine ⟨v + 1, fun a ha => ?_⟩
      by_cases e : a = v
      · subst e
        have := hk.root _ _ _ _ (hr u hu) hs ⟨by omega, by omega⟩ hs
        rwa [if_neg (Ne.symm hne)] at this
      · have := hk.root _ _ _ _ (hr u hu) hs ⟨by omega, by omega⟩ (hr a (by omega))
        rwa [if_pos rfl] at this
  · rw [hk.n] at hn
    obtain ⟨h1, h2⟩ := h.lone a (by omega) hn
    exact hk.lone (a + 1) (by omega) (by omega) (by omega) (by omega) h1 h2
end
end Go.Li
namespace Go.Proofs.Ytoplhfhjokjbiaa
open Go Go.Hp Go.Li
set_option linter.all false
section
variable {H H' : Heap} {t : Nat} {S : Ls} {T : Nat → Prop} {K : Value → Heap → Prop}
theorem m_link {u v : Nat} {id w : Int} {ru rv : Nat} (h : LtM H t T S) (hu : u < S.n) (hv : v < S.n) (ha : okArg id w = true) (hid : ∀ k x, S.E k = some x → x.id ≠ id) (hru : RootOf S.par (u + 1) ru) (hrv : RootOf S.par (v + 1) rv) (hne : ru ≠ rv)
    (fin : ∀ H' T' S', LtM H' t T' S' → Linked S S' u v ⟨id, (u : Nat), (v : Nat), w⟩ → Fr T H H' → (∀ b, T' b → T b ∨ H.size ≤ b) → K (.int .i64 0) H') :
    CallsH Try.prog 10 #[.pointer (some ⟨t, 0, none⟩), .int .i64 (u : Nat), .int .i64 (v : Nat), .int .i64 id, .int .i64 w] H K := by
  have hok := h.ok
  have hru0 := hru
  obtain ⟨l, hl, hlast⟩ := hru0
  have h1 := ev_root hl (by omega) hlast hrv
  rw [if_neg (Ne.symm hne)] at h1
  obtain ⟨lv, hlv, hlvl⟩ := h1
  have p0 : Li.ev S.par 0 l (u + 1) = 0 := by obtain ⟨r, rfl⟩ := hl.head; exact ev_head
  have hul : u + 1 ∉ lv := fun hm => by
    have e1 := hlv.root_last hlvl hm p0
    have h0 := hrv.zero
    rw [← e1] at h0
    have := (RootOf.self h0).uniq hru
    exact hne (by rw [← this, e1])
  refine link_ok h hu hv ha hid hru hrv hne hl hlv hul fun H' T' k hM hk hE hf hT => ?_
  exact fin H' T' _ hM (hok.linked hu hv rfl rfl hl hlv hul hk hE (fun x e' he => hid x e' he) hru hrv hne) hf hT
end
end Go.Proofs.Ytoplhfhjokjbiaa
namespace Go.Proofs.Ytoplhfhjokjbiaa.Pkisthmuslaw05
open Go Go.Hp
set_option linter.all false
set_option maxRecDepth 100000

theorem pick_ok {H : Heap} {c n : Int} {K : Value → Heap → Prop} (h0 : -9223372036854775808 ≤ c) (h1 : c ≤ 9223372036854775807) (hn : 0 < n) (hk : K (.int .i64 (pickN c n)) H) :
  CallsH Try.prog 9 #[.int .i64 c, .int .i64 n] H K := by
 have en : (n = 0) = False := by simp; omega
 refine call9 (by simp) ?_
 simp only [Try.f9, Option.getD_some]
 by_cases hc : c < 0
 ·have e1 : (c < 0) = True := by simp [hc]
  have e2 : IntKind.i64.wrap (c + 1) = c + 1 := wrap_i64 (by omega) (by omega)
  have e3 : IntKind.i64.wrap (0 - (c + 1)) = -(c + 1) := by rw [wrap_i64] <;> omega
  have e4 : (-(c + 1)).tmod n = pickN c n := by
   unfold pickN
   rw [if_pos hc, Int.tmod_eq_emod_of_nonneg (by omega)]
  repeat' (first|(with_reducible first|refine jA ?_|(refine hK _ _ ?_;clear hK K)|refine jJ fun K hK=>?_|refine jK ?_|refine jL ?_|refine jM ?_|refine jN ?_|refine jO ?_|refine jP ?_|refine jQ ?_|(refine jB ?_;clear hK K)|(refine jC ?_;clear hK K)|refine jD ?_|refine jE ?_|refine jG ?_|refine jH ?_|refine jI ?_)|((with_reducible refine jR ?hq ?_);case hq=>rfl)|((first|(with_reducible first|refine jS fun K hK=>?_|refine jT ?_|refine jU ?_)|((with_reducible refine jV ?hy fun K hK=>?_);case hy=>rfl));simp only [go_sem, Nat.reduceEqDiff, Nat.reduceAdd, Nat.reduceMul, Nat.reduceLeDiff, Nat.reduceLT, Int.reduceLT, Int.reduceLE, Int.reduceEq, Int.reduceNeg, Int.reduceToNat, Nat.reducePow, reduceIte, reduceCtorEq, e1, e2, e3, e4, en])|((with_reducible first|refine jW ?hy ?_|refine jY ?hy ?_);case hy=>rfl)|((with_reducible first|refine jX ?hy ?_|refine jZ ?hy ?_);case hy=>rfl)|((with_reducible refine jF ?hy ?_);case hy=>decide))
  exact hk
 ·have e1 : (c < 0) = False := by simp [hc]
  have e4 : c.tmod n = pickN c n := by
   unfold pickN
   rw [if_neg hc, Int.tmod_eq_emod_of_nonneg (by omega)]
  repeat' (first|(with_reducible first|refine jA ?_|(refine hK _ _ ?_;clear hK K)|refine jJ fun K hK=>?_|refine jK ?_|refine jL ?_|refine jM ?_|refine jN ?_|refine jO ?_|refine jP ?_|refine jQ ?_|(refine jB ?_;clear hK K)|(refine jC ?_;clear hK K)|refine jD ?_|refine jE ?_|refine jG ?_|refine jH ?_|refine jI ?_)|((with_reducible refine jR ?hq ?_);case hq=>rfl)|((first|(with_reducible first|refine jS fun K hK=>?_|refine jT ?_|refine jU ?_)|((with_reducible refine jV ?hy fun K hK=>?_);case hy=>rfl));simp only [go_sem, Nat.reduceEqDiff, Nat.reduceAdd, Nat.reduceMul, Nat.reduceLeDiff, Nat.reduceLT, Int.reduceLT, Int.reduceLE, Int.reduceEq, Int.reduceNeg, Int.reduceToNat, Nat.reducePow, reduceIte, reduceCtorEq, e1, e4, en])|((with_reducible first|refine jW ?hy ?_|refine jY ?hy ?_);case hy=>rfl)|((with_reducible first|refine jX ?hy ?_|refine jZ ?hy ?_);case hy=>rfl)|((with_reducible refine jF ?hy ?_);case hy=>decide))
  exact hk
theorem same_ok {H : Heap} {B C : Option Nat} {v w : Value} {xs ys : List Int} {K : Value → Heap → Prop} (hv : Rds H B v xs) (hw : Rds H C w ys) (hl : xs.length ≤ 4611686018427387904) (fin : K (.bool (decide (xs = ys))) H) :
  CallsH Try.prog 13 #[v, w] H K := by
 obtain ⟨a, c, ev⟩ := hv.slice
 obtain ⟨a', c', ew⟩ := hw.slice
 refine call13 (by simp) ?_
 simp only [Try.f13, Option.getD_some]
 by_cases h : xs.length = ys.length
 ·have t1 : ((xs.length : Int) != (ys.length : Int)) = false := by simp [h]
  rw [ev, ew]
  repeat' (first|(with_reducible first|refine jA ?_|(refine hK _ _ ?_;clear hK K)|refine jJ fun K hK=>?_|refine jK ?_|refine jL ?_|refine jM ?_|refine jN ?_|refine jO ?_|refine jP ?_|refine jQ ?_|(refine jB ?_;clear hK K)|(refine jC ?_;clear hK K)|refine jD ?_|refine jE ?_|refine jG ?_|refine jH ?_|refine jI ?_)|((with_reducible refine jR ?hq ?_);case hq=>rfl)|((first|(with_reducible first|refine jS fun K hK=>?_|refine jT ?_|refine jU ?_)|((with_reducible refine jV ?hy fun K hK=>?_);case hy=>rfl));simp only [go_sem, Nat.reduceEqDiff, Nat.reduceAdd, Nat.reduceMul, Nat.reduceLeDiff, Nat.reduceLT, Int.reduceLT, Int.reduceLE, Int.reduceEq, Int.reduceNeg, Int.reduceToNat, Nat.reducePow, reduceIte, reduceCtorEq, t1])|((with_reducible first|refine jW ?hy ?_|refine jY ?hy ?_);case hy=>rfl)|((with_reducible first|refine jX ?hy ?_|refine jZ ?hy ?_);case hy=>rfl)|((with_reducible refine jF ?hy ?_);case hy=>decide))
  refine x_loop (fun m e' H' => ∃ i : Nat, H' = H ∧ e' 5 = .int .i64 (i : Nat) ∧ i ≤ xs.length ∧ xs.take i = ys.take i ∧ m = xs.length - i) xs.length ⟨0, rfl, rfl, Nat.zero_le _, rfl, rfl⟩ ?_
  rintro m e1 H1 ⟨i, rfl, i5, hi, heq, rfl⟩ hoff
  have i0 := (hoff 0 rfl).trans rfl
  have i1 := (hoff 1 rfl).trans rfl
  clear hoff
  by_cases hlt : i < xs.length
  ·obtain ⟨x, hx⟩ : ∃ x, xs[i]? = some x := ⟨_, List.getElem?_eq_getElem hlt⟩
   obtain ⟨y, hy⟩ : ∃ y, ys[i]? = some y := ⟨_, List.getElem?_eq_getElem (by omega)⟩
   obtain ⟨b, o, c1, _, hv1, cx⟩ := hv.read hx
   obtain ⟨b2, o2, c2, _, hw1, cy⟩ := hw.read hy
   have i0' := i0.trans (ev.symm.trans hv1)
   have i1' := i1.trans (ew.symm.trans hw1)
   have hlt' : (i < ys.length) = True := by simp; omega
   have ewr : IntKind.i64.wrap ((i : Int) + 1) = ((i + 1 : Nat) : Int) := by rw [wrap_i64] <;> omega
   by_cases hxy : x = y
   ·have t2 : (x != y) = false := by simp [hxy]
    repeat' (first|(with_reducible first|refine jA ?_|(refine hK _ _ ?_;clear hK K)|refine jJ fun K hK=>?_|refine jK ?_|refine jL ?_|refine jM ?_|refine jN ?_|refine jO ?_|refine jP ?_|refine jQ ?_|(refine jB ?_;clear hK K)|(refine jC ?_;clear hK K)|refine jD ?_|refine jE ?_|refine jG ?_|refine jH ?_|refine jI ?_)|((with_reducible refine jR ?hq ?_);case hq=>rfl)|((first|(with_reducible first|refine jS fun K hK=>?_|refine jT ?_|refine jU ?_)|((with_reducible refine jV ?hy fun K hK=>?_);case hy=>rfl));simp only [go_sem, Nat.reduceEqDiff, Nat.reduceAdd, Nat.reduceMul, Nat.reduceLeDiff, Nat.reduceLT, Int.reduceLT, Int.reduceLE, Int.reduceEq, Int.reduceNeg, Int.reduceToNat, Nat.reducePow, reduceIte, reduceCtorEq, i5, i0', i1', hlt, hlt', cx, cy, t2, ewr])|((with_reducible first|refine jW ?hy ?_|refine jY ?hy ?_);case hy=>rfl)|((with_reducible first|refine jX ?hy ?_|refine jZ ?hy ?_);case hy=>rfl)|((with_reducible refine jF ?hy ?_);case hy=>decide))
    refine loop_normal (m' := xs.length - (i + 1)) (by omega) ⟨i + 1, rfl, rfl, by omega, ?_, rfl⟩
    rw [List.take_add_one, List.take_add_one, heq, hx, hy, hxy]
   ·have t2 : (x != y) = true := by simp [hxy]
    repeat' (first|(with_reducible first|refine jA ?_|(refine hK _ _ ?_;clear hK K)|refine jJ fun K hK=>?_|refine jK ?_|refine jL ?_|refine jM ?_|refine jN ?_|refine jO ?_|refine jP ?_|refine jQ ?_|(refine jB ?_;clear hK K)|(refine jC ?_;clear hK K)|refine jD ?_|refine jE ?_|refine jG ?_|refine jH ?_|refine jI ?_)|((with_reducible refine jR ?hq ?_);case hq=>rfl)|((first|(with_reducible first|refine jS fun K hK=>?_|refine jT ?_|refine jU ?_)|((with_reducible refine jV ?hy fun K hK=>?_);case hy=>rfl));simp only [go_sem, Nat.reduceEqDiff, Nat.reduceAdd, Nat.reduceMul, Nat.reduceLeDiff, Nat.reduceLT, Int.reduceLT, Int.reduceLE, Int.reduceEq, Int.reduceNeg, Int.reduceToNat, Nat.reducePow, reduceIte, reduceCtorEq, i5, i0', i1', hlt, hlt', cx, cy, t2])|((with_reducible first|refine jW ?hy ?_|refine jY ?hy ?_);case hy=>rfl)|((with_reducible first|refine jX ?hy ?_|refine jZ ?hy ?_);case hy=>rfl)|((with_reducible refine jF ?hy ?_);case hy=>decide))
    have : decide (xs = ys) = false := by
     rw [decide_eq_false_iff_not]
     intro e
     rw [e, hy] at hx
     exact hxy (Option.some.inj hx).symm
    rw [this] at fin
    exact fin
  ·have hlt' : (i < xs.length) = False := by simp; omega
   repeat' (first|(with_reducible first|refine jA ?_|(refine hK _ _ ?_;clear hK K)|refine jJ fun K hK=>?_|refine jK ?_|refine jL ?_|refine jM ?_|refine jN ?_|refine jO ?_|refine jP ?_|refine jQ ?_|(refine jB ?_;clear hK K)|(refine jC ?_;clear hK K)|refine jD ?_|refine jE ?_|refine jG ?_|refine jH ?_|refine jI ?_)|((with_reducible refine jR ?hq ?_);case hq=>rfl)|((first|(with_reducible first|refine jS fun K hK=>?_|refine jT ?_|refine jU ?_)|((with_reducible refine jV ?hy fun K hK=>?_);case hy=>rfl));simp only [go_sem, Nat.reduceEqDiff, Nat.reduceAdd, Nat.reduceMul, Nat.reduceLeDiff, Nat.reduceLT, Int.reduceLT, Int.reduceLE, Int.reduceEq, Int.reduceNeg, Int.reduceToNat, Nat.reducePow, reduceIte, reduceCtorEq, i5, i0, i1, hlt'])|((with_reducible first|refine jW ?hy ?_|refine jY ?hy ?_);case hy=>rfl)|((with_reducible first|refine jX ?hy ?_|refine jZ ?hy ?_);case hy=>rfl)|((with_reducible refine jF ?hy ?_);case hy=>decide))
   have : decide (xs = ys) = true := by
    rw [decide_eq_true_iff]
    have hi' : i = xs.length := by omega
    rw [hi', List.take_length] at heq
    rw [heq, h, List.take_length]
   rw [this] at fin
   exact fin
 ·have t1 : ((xs.length : Int) != (ys.length : Int)) = true := by simp; omega
  have : decide (xs = ys) = false := by
   rw [decide_eq_false_iff_not]
   intro e; exact h (by rw [e])
  rw [this] at fin
  rw [ev, ew]
  repeat' (first|(with_reducible first|refine jA ?_|(refine hK _ _ ?_;clear hK K)|refine jJ fun K hK=>?_|refine jK ?_|refine jL ?_|refine jM ?_|refine jN ?_|refine jO ?_|refine jP ?_|refine jQ ?_|(refine jB ?_;clear hK K)|(refine jC ?_;clear hK K)|refine jD ?_|refine jE ?_|refine jG ?_|refine jH ?_|refine jI ?_)|((with_reducible refine jR ?hq ?_);case hq=>rfl)|((first|(with_reducible first|refine jS fun K hK=>?_|refine jT ?_|refine jU ?_)|((with_reducible refine jV ?hy fun K hK=>?_);case hy=>rfl));simp only [go_sem, Nat.reduceEqDiff, Nat.reduceAdd, Nat.reduceMul, Nat.reduceLeDiff, Nat.reduceLT, Int.reduceLT, Int.reduceLE, Int.reduceEq, Int.reduceNeg, Int.reduceToNat, Nat.reducePow, reduceIte, reduceCtorEq, t1])|((with_reducible first|refine jW ?hy ?_|refine jY ?hy ?_);case hy=>rfl)|((with_reducible first|refine jX ?hy ?_|refine jZ ?hy ?_);case hy=>rfl)|((with_reducible refine jF ?hy ?_);case hy=>decide))
  exact fin
end Go.Proofs.Ytoplhfhjokjbiaa.Pkisthmuslaw05
namespace Go.Li
open Go Go.Hp
set_option linter.unusedVariables false
section
variable {S : Ls}
theorem Ls.Ok.par0 (k : S.Ok) : S.par 0 = 0 := k.dd 0 k.v0
theorem Ls.Ok.adj0 (k : S.Ok) {x : Nat} : ¬ Adj S.par x 0 := by
 rintro (⟨_, h⟩ | ⟨h, h2⟩)
 ·exact h rfl
 ·rw [k.par0] at h; exact h2 h.symm
theorem Ls.Ok.wk0 (k : S.Ok) : ∀ {l : List Nat} {x : Nat}, Wk S.par (x :: l) → 0 ∉ l
 | [], _, _ => by simp
 | y :: r, x, h => by
  simp only [List.mem_cons, not_or]
  refine ⟨fun e => ?_, k.wk0 h.2⟩
  have := h.1
  rw [← e] at this
  exact k.adj0 this
theorem Ls.Ok.sp0 (k : S.Ok) {a b : Nat} {P : List Nat} (h : SP S.par a b P) (ha : a ≠ 0) : 0 ∉ P := by
 obtain ⟨h1, h2, h3, h4⟩ := h
 cases P with
 | nil => simp
 | cons x r =>
  have e : x = a := by simpa using h1
  subst e
  simp only [List.mem_cons, not_or]
  exact ⟨Ne.symm ha, k.wk0 h4⟩
theorem Ls.Ok.sp (k : S.Ok) {a b : Nat} {P P' : List Nat} (ha : S.V a) (h : SP S.par a b P) (h' : SP S.par a b P') : P = P' := by
 have ha0 : a ≠ 0 := fun e => k.v0 (e ▸ ha)
 obtain ⟨m, hm⟩ := k.ac a ha
 exact SP.uniq hm ha0 h h' (k.sp0 h ha0) (k.sp0 h' ha0)
theorem Ls.Ok.over (k : S.Ok) {h : Nat} {e : Ed} {a : Nat} (he : S.E h = some e) (ha : a = e.u.toNat + 1 ∨ a = e.v.toNat + 1) : Adj S.par a h ∧ Adj S.par h a :=
 ⟨((k.ad h e a he).2 ha).symm, (k.ad h e a he).2 ha⟩
def Has (S : Ls) (es : List Ed) : Prop := ∀ e, (∃ k, S.E k = some e) ↔ e ∈ es
theorem Has.new (n : Nat) : Has (Ls.new n) [] := fun e => ⟨fun ⟨k, h⟩ => (by cases h), fun h => (by cases h)⟩
theorem Linked.has {S' : Ls} {u v : Nat} {e : Ed} {es : List Ed} (h : Linked S S' u v e) (he : Has S es) : Has S' (es ++ [e]) := fun x => by
 obtain ⟨k, k1, k2, k3⟩ := h.ed
 rw [k3]
 simp only [List.mem_append, List.mem_singleton]
 rw [← he x]
 constructor
 ·rintro ⟨y, hy⟩
  by_cases ey : y = k
  ·rw [ey, setE_same] at hy
   exact .inr (Option.some.inj hy).symm
  ·rw [setE_ne _ _ ey] at hy
   exact .inl ⟨y, hy⟩
 ·rintro (⟨y, hy⟩ | rfl)
  ·exact ⟨y, by rw [setE_ne _ _ fun ey => by rw [ey, k2] at hy; cases hy]; exact hy⟩
  ·exact ⟨k, setE_same _ _ _⟩
theorem Has.id {es : List Ed} (h : Has S es) {i : Int} (hi : ∀ e ∈ es, e.id ≠ i) : ∀ k x, S.E k = some x → x.id ≠ i := fun k x hk => hi x ((h x).1 ⟨k, hk⟩)
theorem heavy_asymm {a b : Ed} (h : heavy a b = true) : heavy b a = false := by
 unfold heavy at *
 simp only [Bool.or_eq_true, decide_eq_true_eq, Bool.and_eq_true, Bool.or_eq_false_iff, decide_eq_false_iff_not, Bool.and_eq_false_iff] at *
 omega
theorem IsMost.uniq {E : Es} {P P' : List Nat} {e e' : Ed} (hm : ∀ x, x ∈ P ↔ x ∈ P') (h : IsMost E P e) (h' : IsMost E P' e') : e = e' := by
 obtain ⟨b, h1, h2, h3⟩ := h
 obtain ⟨b', h4, h5, h6⟩ := h'
 rcases h3 b' ((hm b').2 h4) e' h5 with rfl | h7
 ·rw [h2] at h5; exact Option.some.inj h5
 ·rcases h6 b ((hm b).1 h1) e h2 with rfl | h8
  ·rw [h2] at h5; exact Option.some.inj h5
  ·rw [heavy_asymm h7] at h8; cases h8
end
end Go.Li
namespace Go.Proofs.Ytoplhfhjokjbiaa
open Go Go.Hp Go.Li
set_option linter.all false
set_option maxRecDepth 100000
set_option maxHeartbeats 1600000
section
variable {H H' : Heap} {t : Nat} {S : Ls} {T : Nat → Prop} {L : Value → Heap → Prop}
theorem pick_nat {c : Int} {n : Nat} (h : -9223372036854775808 ≤ c ∧ c ≤ 9223372036854775807) (hn : 0 < n) (fin : ∀ k : Nat, pickN c n = k → k < n → L (.int .i64 (k : Nat)) H) : CallsH Try.prog 9 #[.int .i64 c, .int .i64 (n : Nat)] H L := by
 refine Pkisthmuslaw05.pick_ok h.1 h.2 (by omega) ?_
 obtain ⟨u0, u1⟩ := pickN_range c (n := (n : Int)) (by omega)
 obtain ⟨u, eu⟩ := Int.eq_ofNat_of_zero_le u0
 rw [eu] at u1 ⊢
 exact fin u eu (Int.ofNat_lt.1 u1)
theorem edgeFlat : flatS Try.prog 31 = some [(.int .i64, 0), (.int .i64, 1), (.int .i64, 2), (.int .i64, 3)] := by kernel_rfl
theorem edge_eq {op : BinOp} {ox oy : Operand} {a b : Ed} {H : Heap} {K : Value → Prop} (hK : match op with | .eql => K (.bool (decide (a = b))) | .neq => K (.bool (!decide (a = b))) | _ => False) : binX Try.prog op 31 ox oy a.val b.val H K := by
 refine binX_flat edgeFlat (b := decide (a = b)) ?_ hK
 obtain ⟨a1, a2, a3, a4⟩ := a
 obtain ⟨b1, b2, b3, b4⟩ := b
 simp only [allEq, sEq, List.getElem?_toArray, List.getElem?_cons_zero, List.getElem?_cons_succ, if_true, Ed.mk.injEq]
 have key : ∀ x y : Int, (x == y) = decide (x = y) := fun x y => by by_cases h : x = y <;> simp [h]
 simp only [key]
 by_cases h1 : a1 = b1 <;> by_cases h2 : a2 = b2 <;> by_cases h3 : a3 = b3 <;> by_cases h4 : a4 = b4 <;> simp [h1, h2, h3, h4]
structure LS (H0 H : Heap) (t : Nat) (T : Nat → Prop) (S : Ls) : Prop where
 m : LtM H t T S
 fr : Fr (fun _ => False) H0 H
 new : ∀ b, T b → H0.size ≤ b
theorem LS.op {H0 : Heap} {T' : Nat → Prop} {S' : Ls} (h : LS H0 H t T S) (hm : LtM H' t T' S') (hf : Fr T H H') (hT : ∀ b, T' b → T b ∨ H.size ≤ b) : LS H0 H' t T' S' :=
 ⟨hm, h.fr.trans' hf fun b hb hx => by have := h.new b hx; omega, fun b hb => (hT b hb).elim (h.new b) fun h1 => Nat.le_trans h.fr.size h1⟩
theorem LS.keep {H0 : Heap} {S' : Ls} (h : LS H0 H t T S) (hm : LtM H' t T S') (hf : Fr T H H') : LS H0 H' t T S' := h.op hm hf fun _ h => .inl h
theorem LS.grow {H0 : Heap} (h : LS H0 H t T S) (hf : Fr (fun _ => False) H H') : LS H0 H' t T S := ⟨h.m.grow hf, h.fr.trans hf, h.new⟩
theorem ir_lit (H : Heap) (xs : List Int) (T : TypeId) (hx : xs ≠ []) : IR (H.push (.cells (xs.map (Value.int .i64)).toArray T)) (some H.size) (.slice (some ⟨H.size, 0, none⟩) xs.length xs.length) xs :=
 ⟨by simp, .inr ⟨H.size, xs.length, [], rfl, rfl, by rw [List.append_nil]; exact Blk.new H _ T, by simp, Nat.le_refl _⟩⟩
theorem awake_ok (fin : ∀ H', Fr (fun _ => False) H H' → L (.bool true) H') : CallsH Try.prog 7 #[] H L := by
 refine call7 (by simp) ?_
 simp only [Try.f7, Option.getD_some]
 repeat' (first|(with_reducible first|refine jA ?_|(refine hK _ _ ?_;clear hK K)|refine jJ fun K hK=>?_|refine jK ?_|refine jL ?_|refine jM ?_|refine jN ?_|refine jO ?_|refine jP ?_|refine jQ ?_|(refine jB ?_;clear hK K)|(refine jC ?_;clear hK K)|refine jD ?_|refine jE ?_|refine jG ?_|refine jH ?_|refine jI ?_)|((with_reducible refine jR ?hq ?_);case hq=>rfl)|((first|(with_reducible first|refine jS fun K hK=>?_|refine jT ?_|refine jU ?_)|((with_reducible refine jV ?hy fun K hK=>?_);case hy=>rfl));simp only [go_sem, Nat.reduceEqDiff, Nat.reduceAdd, Nat.reduceMul, Nat.reduceLeDiff, Nat.reduceLT, Int.reduceLT, Int.reduceLE, Int.reduceEq, Int.reduceNeg, Int.reduceToNat, Nat.reducePow, reduceIte, reduceCtorEq])|((with_reducible first|refine jW ?hy ?_|refine jY ?hy ?_);case hy=>rfl)|((with_reducible first|refine jX ?hy ?_|refine jZ ?hy ?_);case hy=>rfl)|((with_reducible refine jF ?hy ?_);case hy=>decide))
 refine lnew_ok (n := 5) (by omega) (by omega) fun H1 t T1 hM1 hf1 hT1 => ?_
 have S1 : LS H H1 t T1 (Ls.new 5) := ⟨hM1, hf1, hT1⟩
 have z1 : ((0 : Int) != 0) = false := rfl
 have ok1 := hM1.ok
 have r1 : ∀ x, 1 ≤ x → RootOf (Ls.new 5).par x x := fun x _ => RootOf.self rfl
 repeat' (first|(with_reducible first|refine jA ?_|(refine hK _ _ ?_;clear hK K)|refine jJ fun K hK=>?_|refine jK ?_|refine jL ?_|refine jM ?_|refine jN ?_|refine jO ?_|refine jP ?_|refine jQ ?_|(refine jB ?_;clear hK K)|(refine jC ?_;clear hK K)|refine jD ?_|refine jE ?_|refine jG ?_|refine jH ?_|refine jI ?_)|((with_reducible refine jR ?hq ?_);case hq=>rfl)|((first|(with_reducible first|refine jS fun K hK=>?_|refine jT ?_|refine jU ?_)|((with_reducible refine jV ?hy fun K hK=>?_);case hy=>rfl));simp only [go_sem, Nat.reduceEqDiff, Nat.reduceAdd, Nat.reduceMul, Nat.reduceLeDiff, Nat.reduceLT, Int.reduceLT, Int.reduceLE, Int.reduceEq, Int.reduceNeg, Int.reduceToNat, Nat.reducePow, reduceIte, reduceCtorEq, z1])|((with_reducible first|refine jW ?hy ?_|refine jY ?hy ?_);case hy=>rfl)|((with_reducible first|refine jX ?hy ?_|refine jZ ?hy ?_);case hy=>rfl)|((with_reducible refine jF ?hy ?_);case hy=>decide))
 refine m_link (u := 1) (v := 0) (id := 7) (w := 30) S1.m (by decide) (by decide) (by simp [okArg]) (fun k x h => by cases h) (r1 2 (by omega)) (r1 1 (by omega)) (by omega) fun H2 T2 Q2 hM2 hK2 hf2 hT2 => ?_
 have S2 := S1.op hM2 hf2 hT2
 have h2 := hK2.has (Has.new 5)
 have n2 : Q2.n = 5 := hK2.n
 have r21 : RootOf Q2.par 1 1 := hK2.root 2 1 1 1 (r1 2 (by omega)) (r1 1 (by omega)) ⟨by omega, by show 1 ≤ 5; omega⟩ (r1 1 (by omega))
 have r22 : RootOf Q2.par 2 1 := hK2.root 2 1 2 2 (r1 2 (by omega)) (r1 1 (by omega)) ⟨by omega, by show 2 ≤ 5; omega⟩ (r1 2 (by omega))
 have r23 : RootOf Q2.par 3 3 := hK2.root 2 1 3 3 (r1 2 (by omega)) (r1 1 (by omega)) ⟨by omega, by show 3 ≤ 5; omega⟩ (r1 3 (by omega))
 have r24 : RootOf Q2.par 4 4 := hK2.root 2 1 4 4 (r1 2 (by omega)) (r1 1 (by omega)) ⟨by omega, by show 4 ≤ 5; omega⟩ (r1 4 (by omega))
 repeat' (first|(with_reducible first|refine jA ?_|(refine hK _ _ ?_;clear hK K)|refine jJ fun K hK=>?_|refine jK ?_|refine jL ?_|refine jM ?_|refine jN ?_|refine jO ?_|refine jP ?_|refine jQ ?_|(refine jB ?_;clear hK K)|(refine jC ?_;clear hK K)|refine jD ?_|refine jE ?_|refine jG ?_|refine jH ?_|refine jI ?_)|((with_reducible refine jR ?hq ?_);case hq=>rfl)|((first|(with_reducible first|refine jS fun K hK=>?_|refine jT ?_|refine jU ?_)|((with_reducible refine jV ?hy fun K hK=>?_);case hy=>rfl));simp only [go_sem, Nat.reduceEqDiff, Nat.reduceAdd, Nat.reduceMul, Nat.reduceLeDiff, Nat.reduceLT, Int.reduceLT, Int.reduceLE, Int.reduceEq, Int.reduceNeg, Int.reduceToNat, Nat.reducePow, reduceIte, reduceCtorEq])|((with_reducible first|refine jW ?hy ?_|refine jY ?hy ?_);case hy=>rfl)|((with_reducible first|refine jX ?hy ?_|refine jZ ?hy ?_);case hy=>rfl)|((with_reducible refine jF ?hy ?_);case hy=>decide))
 refine m_link (u := 2) (v := 1) (id := 8) (w := 50) S2.m (by omega) (by omega) (by simp [okArg]) (h2.id (by simp)) r23 r22 (by omega) fun H3 T3 Q3 hM3 hK3 hf3 hT3 => ?_
 have S3 := S2.op hM3 hf3 hT3
 have h3 := hK3.has h2
 have n3 : Q3.n = 5 := hK3.n.trans n2
 have r31 : RootOf Q3.par 1 1 := hK3.root 3 1 1 1 r23 r22 ⟨by omega, by omega⟩ r21
 have r32 : RootOf Q3.par 2 1 := hK3.root 3 1 2 1 r23 r22 ⟨by omega, by omega⟩ r22
 have r33 : RootOf Q3.par 3 1 := hK3.root 3 1 3 3 r23 r22 ⟨by omega, by omega⟩ r23
 have r34 : RootOf Q3.par 4 4 := hK3.root 3 1 4 4 r23 r22 ⟨by omega, by omega⟩ r24
 repeat' (first|(with_reducible first|refine jA ?_|(refine hK _ _ ?_;clear hK K)|refine jJ fun K hK=>?_|refine jK ?_|refine jL ?_|refine jM ?_|refine jN ?_|refine jO ?_|refine jP ?_|refine jQ ?_|(refine jB ?_;clear hK K)|(refine jC ?_;clear hK K)|refine jD ?_|refine jE ?_|refine jG ?_|refine jH ?_|refine jI ?_)|((with_reducible refine jR ?hq ?_);case hq=>rfl)|((first|(with_reducible first|refine jS fun K hK=>?_|refine jT ?_|refine jU ?_)|((with_reducible refine jV ?hy fun K hK=>?_);case hy=>rfl));simp only [go_sem, Nat.reduceEqDiff, Nat.reduceAdd, Nat.reduceMul, Nat.reduceLeDiff, Nat.reduceLT, Int.reduceLT, Int.reduceLE, Int.reduceEq, Int.reduceNeg, Int.reduceToNat, Nat.reducePow, reduceIte, reduceCtorEq])|((with_reducible first|refine jW ?hy ?_|refine jY ?hy ?_);case hy=>rfl)|((with_reducible first|refine jX ?hy ?_|refine jZ ?hy ?_);case hy=>rfl)|((with_reducible refine jF ?hy ?_);case hy=>decide))
 refine m_link (u := 3) (v := 1) (id := 9) (w := 50) S3.m (by omega) (by omega) (by simp [okArg]) (h3.id (by simp)) r34 r32 (by omega) fun H4 T4 Q4 hM4 hK4 hf4 hT4 => ?_
 have S4 := S3.op hM4 hf4 hT4
 have h4 := hK4.has h3
 have n4 : Q4.n = 5 := hK4.n.trans n3
 have r41 : RootOf Q4.par 1 1 := hK4.root 4 1 1 1 r34 r32 ⟨by omega, by omega⟩ r31
 have r43 : RootOf Q4.par 3 1 := hK4.root 4 1 3 1 r34 r32 ⟨by omega, by omega⟩ r33
 have r44 : RootOf Q4.par 4 1 := hK4.root 4 1 4 4 r34 r32 ⟨by omega, by omega⟩ r34
 have ok4 := hM4.ok
 obtain ⟨k1, g1⟩ := (h4 ⟨7, 1, 0, 30⟩).2 (by simp)
 obtain ⟨k2, g2⟩ := (h4 ⟨8, 2, 1, 50⟩).2 (by simp)
 obtain ⟨k3, g3⟩ := (h4 ⟨9, 3, 1, 50⟩).2 (by simp)
 have b1 := (ok4.en k1 _ g1).1
 have b2 := (ok4.en k2 _ g2).1
 have b3 := (ok4.en k3 _ g3).1
 rw [n4] at b1 b2 b3
 have k12 : k1 ≠ k2 := fun e => by rw [e, g2] at g1; cases g1
 have k23 : k2 ≠ k3 := fun e => by rw [e, g3] at g2; cases g2
 have e1 : Q4.E 1 = none := ok4.eno (by omega)
 have e2 : Q4.E 2 = none := ok4.eno (by omega)
 have e3 : Q4.E 3 = none := ok4.eno (by omega)
 have e4 : Q4.E 4 = none := ok4.eno (by omega)
 have p1 : SP Q4.par 3 1 [3, k2, 2, k1, 1] := ⟨rfl, rfl, by simp; omega, (ok4.over g2 (.inl rfl)).1, (ok4.over g2 (.inr rfl)).2, (ok4.over g1 (.inl rfl)).1, (ok4.over g1 (.inr rfl)).2, trivial⟩
 have p2 : SP Q4.par 3 4 [3, k2, 2, k3, 4] := ⟨rfl, rfl, by simp; omega, (ok4.over g2 (.inl rfl)).1, (ok4.over g2 (.inr rfl)).2, (ok4.over g3 (.inr rfl)).1, (ok4.over g3 (.inl rfl)).2, trivial⟩
 repeat' (first|(with_reducible first|refine jA ?_|(refine hK _ _ ?_;clear hK K)|refine jJ fun K hK=>?_|refine jK ?_|refine jL ?_|refine jM ?_|refine jN ?_|refine jO ?_|refine jP ?_|refine jQ ?_|(refine jB ?_;clear hK K)|(refine jC ?_;clear hK K)|refine jD ?_|refine jE ?_|refine jG ?_|refine jH ?_|refine jI ?_)|((with_reducible refine jR ?hq ?_);case hq=>rfl)|((first|(with_reducible first|refine jS fun K hK=>?_|refine jT ?_|refine jU ?_)|((with_reducible refine jV ?hy fun K hK=>?_);case hy=>rfl));simp only [go_sem, Nat.reduceEqDiff, Nat.reduceAdd, Nat.reduceMul, Nat.reduceLeDiff, Nat.reduceLT, Int.reduceLT, Int.reduceLE, Int.reduceEq, Int.reduceNeg, Int.reduceToNat, Nat.reducePow, reduceIte, reduceCtorEq])|((with_reducible first|refine jW ?hy ?_|refine jY ?hy ?_);case hy=>rfl)|((with_reducible first|refine jX ?hy ?_|refine jZ ?hy ?_);case hy=>rfl)|((with_reducible refine jF ?hy ?_);case hy=>decide))
 refine m_root (v := 3) (r0 := 0) S4.m (by omega) r44 fun H5 hM5 hf5 => ?_
 have S5 := S4.keep hM5 hf5
 repeat' (first|(with_reducible first|refine jA ?_|(refine hK _ _ ?_;clear hK K)|refine jJ fun K hK=>?_|refine jK ?_|refine jL ?_|refine jM ?_|refine jN ?_|refine jO ?_|refine jP ?_|refine jQ ?_|(refine jB ?_;clear hK K)|(refine jC ?_;clear hK K)|refine jD ?_|refine jE ?_|refine jG ?_|refine jH ?_|refine jI ?_)|((with_reducible refine jR ?hq ?_);case hq=>rfl)|((first|(with_reducible first|refine jS fun K hK=>?_|refine jT ?_|refine jU ?_)|((with_reducible refine jV ?hy fun K hK=>?_);case hy=>rfl));simp only [go_sem, Nat.reduceEqDiff, Nat.reduceAdd, Nat.reduceMul, Nat.reduceLeDiff, Nat.reduceLT, Int.reduceLT, Int.reduceLE, Int.reduceEq, Int.reduceNeg, Int.reduceToNat, Nat.reducePow, reduceIte, reduceCtorEq])|((with_reducible first|refine jW ?hy ?_|refine jY ?hy ?_);case hy=>rfl)|((with_reducible first|refine jX ?hy ?_|refine jZ ?hy ?_);case hy=>rfl)|((with_reducible refine jF ?hy ?_);case hy=>decide))
 refine m_most (u := 2) (v := 3) S5.m (by omega) (by omega) (by omega) r43 r44 fun H6 P e hP hMo hM6 hf6 => ?_
 have S6 := S5.keep hM6 hf6
 obtain rfl := ok4.sp (Ls.vtx (S := Q4) (v := 2) (by omega)) hP p2
 have ee : e = ⟨9, 3, 1, 50⟩ := by
  obtain ⟨b, hb, hbe, hbb⟩ := hMo
  simp only [List.mem_cons, List.not_mem_nil, or_false] at hb
  rcases hb with rfl | rfl | rfl | rfl | rfl
  ·rw [e3] at hbe; cases hbe
  ·rw [g2] at hbe
   obtain rfl := Option.some.inj hbe
   rcases hbb k3 (by simp) _ g3 with h | h
   ·exact absurd h.symm k23
   ·exact absurd h (by decide)
  ·rw [e2] at hbe; cases hbe
  ·rw [g3] at hbe; exact (Option.some.inj hbe).symm
  ·rw [e4] at hbe; cases hbe
 subst ee
 simp only [Ed.val]
 repeat' (first|(with_reducible first|refine jA ?_|(refine hK _ _ ?_;clear hK K)|refine jJ fun K hK=>?_|refine jK ?_|refine jL ?_|refine jM ?_|refine jN ?_|refine jO ?_|refine jP ?_|refine jQ ?_|(refine jB ?_;clear hK K)|(refine jC ?_;clear hK K)|refine jD ?_|refine jE ?_|refine jG ?_|refine jH ?_|refine jI ?_)|((with_reducible refine jR ?hq ?_);case hq=>rfl)|((first|(with_reducible first|refine jS fun K hK=>?_|refine jT ?_|refine jU ?_)|((with_reducible refine jV ?hy fun K hK=>?_);case hy=>rfl));simp only [go_sem, Nat.reduceEqDiff, Nat.reduceAdd, Nat.reduceMul, Nat.reduceLeDiff, Nat.reduceLT, Int.reduceLT, Int.reduceLE, Int.reduceEq, Int.reduceNeg, Int.reduceToNat, Nat.reducePow, reduceIte, reduceCtorEq, hcell_push, hcell_top, okW_push, okW_top, hcell_hset_ne, hcell_hset_off, hcell_hset_eq, okW_hset, hset_size, Array.size_push, Nat.lt_add_one, ne_add_one, add_one_ne, Nat.add_assoc, add_same, add_lt_same, Nat.reduceEqDiff, lt_add_k, add_k_ne, ne_add_k])|((with_reducible first|refine jW ?hy ?_|refine jY ?hy ?_);case hy=>rfl)|((with_reducible first|refine jX ?hy ?_|refine jZ ?hy ?_);case hy=>rfl)|((with_reducible refine jF ?hy ?_);case hy=>decide))
 have bn := Blk.new H6 [.int .i64 0, .int .i64 0, .int .i64 0, .int .i64 0] 31
 have fn : Fr (fun _ => False) H6 (H6.push (.cells #[.int .i64 0, .int .i64 0, .int .i64 0, .int .i64 0] 31)) := (Fr.refl _ H6).push _
 obtain ⟨b7, f7⟩ := store4 bn (.int .i64 9) (.int .i64 3) (.int .i64 1) (.int .i64 50)
 have f67 : Fr (fun _ => False) H6 _ := fn.trans' f7 fun b hb (e : b = H6.size) => by omega
 generalize hset _ _ _ = H7 at b7 f67 ⊢
 clear f7 bn fn
 have S7 := S6.grow f67
 refine m_path (u := 2) (v := 0) S7.m (by omega) (by omega) r43 r41 fun H8 P B w hP hw hB hM8 hf8 => ?_
 have S8 := S7.keep hM8 hf8
 obtain rfl := ok4.sp (Ls.vtx (S := Q4) (v := 2) (by omega)) hP p1
 have eo : outI Q4.E [3, k2, 2, k1, 1] = [8, 7] := by simp [outI, e1, e2, e3, g1, g2]
 rw [eo] at hw
 obtain ⟨wa, wc, hwv⟩ := hw.slice
 subst hwv
 have b8 := b7.frame hf8 fun hx => by have := S6.m.below _ hx; omega
 repeat' (first|(with_reducible first|refine jA ?_|(refine hK _ _ ?_;clear hK K)|refine jJ fun K hK=>?_|refine jK ?_|refine jL ?_|refine jM ?_|refine jN ?_|refine jO ?_|refine jP ?_|refine jQ ?_|(refine jB ?_;clear hK K)|(refine jC ?_;clear hK K)|refine jD ?_|refine jE ?_|refine jG ?_|refine jH ?_|refine jI ?_)|((with_reducible refine jR ?hq ?_);case hq=>rfl)|((first|(with_reducible first|refine jS fun K hK=>?_|refine jT ?_|refine jU ?_)|((with_reducible refine jV ?hy fun K hK=>?_);case hy=>rfl));simp only [go_sem, Nat.reduceEqDiff, Nat.reduceAdd, Nat.reduceMul, Nat.reduceLeDiff, Nat.reduceLT, Int.reduceLT, Int.reduceLE, Int.reduceEq, Int.reduceNeg, Int.reduceToNat, Nat.reducePow, reduceIte, reduceCtorEq])|((with_reducible first|refine jW ?hy ?_|refine jY ?hy ?_);case hy=>rfl)|((with_reducible first|refine jX ?hy ?_|refine jZ ?hy ?_);case hy=>rfl)|((with_reducible refine jF ?hy ?_);case hy=>decide))
 have fl : Fr (fun _ => False) H8 (H8.push (.cells ([8, 7].map (Value.int .i64)).toArray 3)) := (Fr.refl _ _).push _
 have il := ir_lit H8 [8, 7] 3 (by simp)
 refine Pkisthmuslaw05.same_ok (hw.frame fl fun _ _ h => h).rds il.rds (by simp) ?_
 rw [decide_eq_true rfl]
 have S9 := S8.grow fl
 have b9 := b8.frame fl fun h => h

 have r0 := b9.cellOf (i := 0) rfl
 have r1 := b9.cellOf (i := 1) rfl
 have r2 := b9.cellOf (i := 2) rfl
 have r3 := b9.cellOf (i := 3) rfl
 have z2 : ((0 : Int) == 0) = true := rfl
 have z3 : ((51 : Int) == 51) = true := rfl
 have z4 : decide (True) = true := rfl
 repeat' (first|(with_reducible first|refine jA ?_|(refine hK _ _ ?_;clear hK K)|refine jJ fun K hK=>?_|refine jK ?_|refine jL ?_|refine jM ?_|refine jN ?_|refine jO ?_|refine jP ?_|refine jQ ?_|(refine jB ?_;clear hK K)|(refine jC ?_;clear hK K)|refine jD ?_|refine jE ?_|refine jG ?_|refine jH ?_|refine jI ?_)|((with_reducible refine jR ?hq ?_);case hq=>rfl)|((first|(with_reducible first|refine jS fun K hK=>?_|refine jT ?_|refine jU ?_)|((with_reducible refine jV ?hy fun K hK=>?_);case hy=>rfl));simp only [go_sem, Nat.reduceEqDiff, Nat.reduceAdd, Nat.reduceMul, Nat.reduceLeDiff, Nat.reduceLT, Int.reduceLT, Int.reduceLE, Int.reduceEq, Int.reduceNeg, Int.reduceToNat, Nat.reducePow, reduceIte, reduceCtorEq, z2])|((with_reducible first|refine jW ?hy ?_|refine jY ?hy ?_);case hy=>rfl)|((with_reducible first|refine jX ?hy ?_|refine jZ ?hy ?_);case hy=>rfl)|((with_reducible refine jF ?hy ?_);case hy=>decide))
 simp only [List.map_cons, List.map_nil] at r0 r1 r2 r3
 simp only [go_sem, Nat.reduceEqDiff, Nat.reduceAdd, Nat.reduceMul, Nat.reduceLeDiff, Nat.reduceLT, Int.reduceLT, Int.reduceLE, Int.reduceEq, Int.reduceNeg, Int.reduceToNat, Nat.reducePow, reduceIte, reduceCtorEq, r0, r1, r2, r3]
 repeat' (first|(with_reducible first|refine jA ?_|(refine hK _ _ ?_;clear hK K)|refine jJ fun K hK=>?_|refine jK ?_|refine jL ?_|refine jM ?_|refine jN ?_|refine jO ?_|refine jP ?_|refine jQ ?_|(refine jB ?_;clear hK K)|(refine jC ?_;clear hK K)|refine jD ?_|refine jE ?_|refine jG ?_|refine jH ?_|refine jI ?_)|((with_reducible refine jR ?hq ?_);case hq=>rfl)|((first|(with_reducible first|refine jS fun K hK=>?_|refine jT ?_|refine jU ?_)|((with_reducible refine jV ?hy fun K hK=>?_);case hy=>rfl));simp only [go_sem, Nat.reduceEqDiff, Nat.reduceAdd, Nat.reduceMul, Nat.reduceLeDiff, Nat.reduceLT, Int.reduceLT, Int.reduceLE, Int.reduceEq, Int.reduceNeg, Int.reduceToNat, Nat.reducePow, reduceIte, reduceCtorEq])|((with_reducible first|refine jW ?hy ?_|refine jY ?hy ?_);case hy=>rfl)|((with_reducible first|refine jX ?hy ?_|refine jZ ?hy ?_);case hy=>rfl)|((with_reducible refine jF ?hy ?_);case hy=>decide))
 refine edge_eq (op := .eql) (ox := .tmp 79) (oy := .tmp 80) (a := ⟨9, 3, 1, 50⟩) (b := ⟨9, 3, 1, 50⟩) ?_
 simp only [decide_true]
 repeat' (first|(with_reducible first|refine jA ?_|(refine hK _ _ ?_;clear hK K)|refine jJ fun K hK=>?_|refine jK ?_|refine jL ?_|refine jM ?_|refine jN ?_|refine jO ?_|refine jP ?_|refine jQ ?_|(refine jB ?_;clear hK K)|(refine jC ?_;clear hK K)|refine jD ?_|refine jE ?_|refine jG ?_|refine jH ?_|refine jI ?_)|((with_reducible refine jR ?hq ?_);case hq=>rfl)|((first|(with_reducible first|refine jS fun K hK=>?_|refine jT ?_|refine jU ?_)|((with_reducible refine jV ?hy fun K hK=>?_);case hy=>rfl));simp only [go_sem, Nat.reduceEqDiff, Nat.reduceAdd, Nat.reduceMul, Nat.reduceLeDiff, Nat.reduceLT, Int.reduceLT, Int.reduceLE, Int.reduceEq, Int.reduceNeg, Int.reduceToNat, Nat.reducePow, reduceIte, reduceCtorEq])|((with_reducible first|refine jW ?hy ?_|refine jY ?hy ?_);case hy=>rfl)|((with_reducible first|refine jX ?hy ?_|refine jZ ?hy ?_);case hy=>rfl)|((with_reducible refine jF ?hy ?_);case hy=>decide))
 refine link_same (u := 3) (v := 0) (id := 10) (w := 1) S9.m (by omega) (by omega) (by simp [okArg]) (h4.id (by simp)) r44 r41 fun H10 hM10 hf10 => ?_
 have S10 := S9.keep hM10 hf10
 repeat' (first|(with_reducible first|refine jA ?_|(refine hK _ _ ?_;clear hK K)|refine jJ fun K hK=>?_|refine jK ?_|refine jL ?_|refine jM ?_|refine jN ?_|refine jO ?_|refine jP ?_|refine jQ ?_|(refine jB ?_;clear hK K)|(refine jC ?_;clear hK K)|refine jD ?_|refine jE ?_|refine jG ?_|refine jH ?_|refine jI ?_)|((with_reducible refine jR ?hq ?_);case hq=>rfl)|((first|(with_reducible first|refine jS fun K hK=>?_|refine jT ?_|refine jU ?_)|((with_reducible refine jV ?hy fun K hK=>?_);case hy=>rfl));simp only [go_sem, Nat.reduceEqDiff, Nat.reduceAdd, Nat.reduceMul, Nat.reduceLeDiff, Nat.reduceLT, Int.reduceLT, Int.reduceLE, Int.reduceEq, Int.reduceNeg, Int.reduceToNat, Nat.reducePow, reduceIte, reduceCtorEq, z3])|((with_reducible first|refine jW ?hy ?_|refine jY ?hy ?_);case hy=>rfl)|((with_reducible first|refine jX ?hy ?_|refine jZ ?hy ?_);case hy=>rfl)|((with_reducible refine jF ?hy ?_);case hy=>decide))
 exact fin _ S10.fr
end
end Go.Proofs.Ytoplhfhjokjbiaa
namespace Go.Li
open Go Go.Hp
def idL (l : List Ed) (i : Int) : Option Nat := l.findIdx? fun x => decide (x.id = i)
theorem idL_some {l : List Ed} {i : Int} {k : Nat} (h : idL l i = some k) : ∃ x, l[k]? = some x ∧ x.id = i ∧ k < l.length := by
 unfold idL at h
 rw [List.findIdx?_eq_some_iff_getElem] at h
 obtain ⟨hk, h1, _⟩ := h
 exact ⟨l[k], List.getElem?_eq_getElem hk, by simpa using h1, hk⟩
theorem idL_none {l : List Ed} {i : Int} : idL l i = none ↔ ∀ x ∈ l, x.id ≠ i := by
 unfold idL
 rw [List.findIdx?_eq_none_iff]
 simp
theorem idL_of {l : List Ed} {x : Ed} (hx : x ∈ l) (hu : ∀ y ∈ l, y.id = x.id → y = x) : ∃ k, idL l x.id = some k ∧ l[k]? = some x := by
 cases h : idL l x.id with
 | none => exact absurd rfl (idL_none.1 h x hx)
 | some k =>
  obtain ⟨y, h1, h2, h3⟩ := idL_some h
  rw [hu y (List.mem_of_getElem? h1) h2] at h1
  exact ⟨k, rfl, h1⟩
def idI (k : Option Nat) : Int := match k with | some i => (i : Int) | none => -1
theorem idI_none : idI none = -1 := rfl
theorem idI_some (k : Nat) : idI (some k) = (k : Int) := rfl
end Go.Li
namespace Go.Proofs.Ytoplhfhjokjbiaa
open Go Go.Hp Go.Li
set_option linter.all false
set_option maxRecDepth 100000
set_option maxHeartbeats 1600000
theorem edC_len (x : Ed) : (Ed.cells x).length = 4 := rfl
theorem edC_plain (x : Ed) : ∀ u ∈ Ed.cells x, plainVal u = true := by
 intro u hu
 simp only [Ed.cells, List.mem_cons, List.not_mem_nil, or_false] at hu
 rcases hu with rfl | rfl | rfl | rfl <;> rfl
section
variable {H0 H H' : Heap} {L : Value → Heap → Prop}
theorem id_ok {i0 : Int} {B : Option Nat} {vl : Value} {l : List Ed} (hl : SR Ed.cells 4 H B vl l) (hll : l.length ≤ 9223372036854775806) (fin : L (.int .i64 (idI (idL l i0))) H) :
  CallsH Try.prog 15 #[vl, .int .i64 i0] H L := by
 obtain ⟨al, cl, rfl⟩ := hl.slice
 refine call15 (by simp) ?_
 simp only [Try.f15, Option.getD_some]
 repeat' (first|(with_reducible first|refine jA ?_|(refine hK _ _ ?_;clear hK K)|refine jJ fun K hK=>?_|refine jK ?_|refine jL ?_|refine jM ?_|refine jN ?_|refine jO ?_|refine jP ?_|refine jQ ?_|(refine jB ?_;clear hK K)|(refine jC ?_;clear hK K)|refine jD ?_|refine jE ?_|refine jG ?_|refine jH ?_|refine jI ?_)|((with_reducible refine jR ?hq ?_);case hq=>rfl)|((first|(with_reducible first|refine jS fun K hK=>?_|refine jT ?_|refine jU ?_)|((with_reducible refine jV ?hy fun K hK=>?_);case hy=>rfl));simp only [go_sem, Nat.reduceEqDiff, Nat.reduceAdd, Nat.reduceMul, Nat.reduceLeDiff, Nat.reduceLT, Int.reduceLT, Int.reduceLE, Int.reduceEq, Int.reduceNeg, Int.reduceToNat, Nat.reducePow, reduceIte, reduceCtorEq])|((with_reducible first|refine jW ?hy ?_|refine jY ?hy ?_);case hy=>rfl)|((with_reducible first|refine jX ?hy ?_|refine jZ ?hy ?_);case hy=>rfl)|((with_reducible refine jF ?hy ?_);case hy=>decide))
 refine x_loop (fun m e' H' => ∃ i : Nat, H' = H ∧ e' 5 = .int .i64 (i : Nat) ∧ i ≤ l.length ∧ (∀ j x, j < i → l[j]? = some x → x.id ≠ i0) ∧ m = l.length - i) l.length ⟨0, rfl, rfl, Nat.zero_le _, fun j p h => (by omega), rfl⟩ ?_
 rintro m e1 H1 ⟨i, rfl, i5, hi, hall, rfl⟩ hoff
 have i0' : e1 0 = .slice al l.length cl := (hoff 0 rfl).trans rfl
 have i1 : e1 1 = .int .i64 i0 := (hoff 1 rfl).trans rfl
 clear hoff
 by_cases hlt : i < l.length
 ·obtain ⟨x, hx⟩ : ∃ x, l[i]? = some x := ⟨_, List.getElem?_eq_getElem hlt⟩
  obtain ⟨gl, cl', rfl, hv, _, hc⟩ := hl.at edC_len hx
  simp only [Value.slice.injEq] at hv
  obtain ⟨rfl, _, rfl⟩ := hv
  have c0 := hc 0 (.int .i64 x.id) rfl
  rw [Nat.add_zero] at c0
  have ew : IntKind.i64.wrap ((i : Int) + 1) = ((i + 1 : Nat) : Int) := by rw [wrap_i64] <;> omega
  by_cases h1 : x.id = i0
  ·have t1 : (x.id == i0) = true := by simp [h1]
   repeat' (first|(with_reducible first|refine jA ?_|(refine hK _ _ ?_;clear hK K)|refine jJ fun K hK=>?_|refine jK ?_|refine jL ?_|refine jM ?_|refine jN ?_|refine jO ?_|refine jP ?_|refine jQ ?_|(refine jB ?_;clear hK K)|(refine jC ?_;clear hK K)|refine jD ?_|refine jE ?_|refine jG ?_|refine jH ?_|refine jI ?_)|((with_reducible refine jR ?hq ?_);case hq=>rfl)|((first|(with_reducible first|refine jS fun K hK=>?_|refine jT ?_|refine jU ?_)|((with_reducible refine jV ?hy fun K hK=>?_);case hy=>rfl));simp only [go_sem, Nat.reduceEqDiff, Nat.reduceAdd, Nat.reduceMul, Nat.reduceLeDiff, Nat.reduceLT, Int.reduceLT, Int.reduceLE, Int.reduceEq, Int.reduceNeg, Int.reduceToNat, Nat.reducePow, reduceIte, reduceCtorEq, i0', i1, i5, hlt, c0, t1])|((with_reducible first|refine jW ?hy ?_|refine jY ?hy ?_);case hy=>rfl)|((with_reducible first|refine jX ?hy ?_|refine jZ ?hy ?_);case hy=>rfl)|((with_reducible refine jF ?hy ?_);case hy=>decide))
   have : idL l i0 = some i := by
    unfold idL
    rw [List.findIdx?_eq_some_iff_getElem]
    refine ⟨hlt, ?_, fun j hj => ?_⟩
    ·rw [(List.getElem?_eq_some_iff.1 hx).2]
     simp [h1]
    ·have := hall j _ hj (List.getElem?_eq_getElem (by omega))
     simpa using this
   rw [this] at fin
   exact fin
  ·have t1 : (x.id == i0) = false := by simp [h1]
   repeat' (first|(with_reducible first|refine jA ?_|(refine hK _ _ ?_;clear hK K)|refine jJ fun K hK=>?_|refine jK ?_|refine jL ?_|refine jM ?_|refine jN ?_|refine jO ?_|refine jP ?_|refine jQ ?_|(refine jB ?_;clear hK K)|(refine jC ?_;clear hK K)|refine jD ?_|refine jE ?_|refine jG ?_|refine jH ?_|refine jI ?_)|((with_reducible refine jR ?hq ?_);case hq=>rfl)|((first|(with_reducible first|refine jS fun K hK=>?_|refine jT ?_|refine jU ?_)|((with_reducible refine jV ?hy fun K hK=>?_);case hy=>rfl));simp only [go_sem, Nat.reduceEqDiff, Nat.reduceAdd, Nat.reduceMul, Nat.reduceLeDiff, Nat.reduceLT, Int.reduceLT, Int.reduceLE, Int.reduceEq, Int.reduceNeg, Int.reduceToNat, Nat.reducePow, reduceIte, reduceCtorEq, i0', i1, i5, hlt, c0, t1, ew])|((with_reducible first|refine jW ?hy ?_|refine jY ?hy ?_);case hy=>rfl)|((with_reducible first|refine jX ?hy ?_|refine jZ ?hy ?_);case hy=>rfl)|((with_reducible refine jF ?hy ?_);case hy=>decide))
   refine loop_normal (m' := l.length - (i + 1)) (by omega) ⟨i + 1, rfl, rfl, hlt, fun j y hj hy => ?_, rfl⟩
   rcases Nat.lt_succ_iff_lt_or_eq.1 hj with h | rfl
   ·exact hall j y h hy
   ·rw [hx] at hy
    obtain rfl := Option.some.inj hy
    exact h1
 ·have t1 : (i < l.length) = False := by simp [hlt]
  have : idL l i0 = none := idL_none.2 fun x hx => by
   obtain ⟨j, hj, rfl⟩ := List.mem_iff_getElem.1 hx
   exact hall j _ (by omega) (List.getElem?_eq_getElem hj)
  rw [this] at fin
  repeat' (first|(with_reducible first|refine jA ?_|(refine hK _ _ ?_;clear hK K)|refine jJ fun K hK=>?_|refine jK ?_|refine jL ?_|refine jM ?_|refine jN ?_|refine jO ?_|refine jP ?_|refine jQ ?_|(refine jB ?_;clear hK K)|(refine jC ?_;clear hK K)|refine jD ?_|refine jE ?_|refine jG ?_|refine jH ?_|refine jI ?_)|((with_reducible refine jR ?hq ?_);case hq=>rfl)|((first|(with_reducible first|refine jS fun K hK=>?_|refine jT ?_|refine jU ?_)|((with_reducible refine jV ?hy fun K hK=>?_);case hy=>rfl));simp only [go_sem, Nat.reduceEqDiff, Nat.reduceAdd, Nat.reduceMul, Nat.reduceLeDiff, Nat.reduceLT, Int.reduceLT, Int.reduceLE, Int.reduceEq, Int.reduceNeg, Int.reduceToNat, Nat.reducePow, reduceIte, reduceCtorEq, i0', i5, t1])|((with_reducible first|refine jW ?hy ?_|refine jY ?hy ?_);case hy=>rfl)|((with_reducible first|refine jX ?hy ?_|refine jZ ?hy ?_);case hy=>rfl)|((with_reducible refine jF ?hy ?_);case hy=>decide))
  exact fin
theorem lheavier_ok {a b : Ed} (fin : ∀ H', Fr (fun _ => False) H H' → L (.bool (heavy a b)) H') :
  CallsH Try.prog 14 #[a.val, b.val] H L := by
 simp only [Ed.val]
 refine call14 (by simp) ?_
 simp only [Try.f14, Option.getD_some]
 unfold heavy at fin
 by_cases h1 : a.w > b.w
 ·have t1 : (b.w < a.w) = True := by simp; omega
  rw [decide_eq_true h1, Bool.true_or] at fin
  repeat' (first|(with_reducible first|refine jA ?_|(refine hK _ _ ?_;clear hK K)|refine jJ fun K hK=>?_|refine jK ?_|refine jL ?_|refine jM ?_|refine jN ?_|refine jO ?_|refine jP ?_|refine jQ ?_|(refine jB ?_;clear hK K)|(refine jC ?_;clear hK K)|refine jD ?_|refine jE ?_|refine jG ?_|refine jH ?_|refine jI ?_)|((with_reducible refine jR ?hq ?_);case hq=>rfl)|((first|(with_reducible first|refine jS fun K hK=>?_|refine jT ?_|refine jU ?_)|((with_reducible refine jV ?hy fun K hK=>?_);case hy=>rfl));simp only [go_sem, Nat.reduceEqDiff, Nat.reduceAdd, Nat.reduceMul, Nat.reduceLeDiff, Nat.reduceLT, Int.reduceLT, Int.reduceLE, Int.reduceEq, Int.reduceNeg, Int.reduceToNat, Nat.reducePow, reduceIte, reduceCtorEq, t1, Array.size_push, hcell_push, hcell_top, okW_push, okW_top, hcell_hset_ne, hcell_hset_off, hcell_hset_eq, okW_hset, hset_size, Array.size_push, Nat.lt_add_one, ne_add_one, add_one_ne, Nat.add_assoc, add_same, add_lt_same, Nat.reduceEqDiff, lt_add_k, add_k_ne, ne_add_k])|((with_reducible first|refine jW ?hy ?_|refine jY ?hy ?_);case hy=>rfl)|((with_reducible first|refine jX ?hy ?_|refine jZ ?hy ?_);case hy=>rfl)|((with_reducible refine jF ?hy ?_);case hy=>decide))
  exact fin _ (((Fr.refl _ _).push _).push _)
 ·have t1 : (b.w < a.w) = False := by simp; omega
  rw [decide_eq_false h1, Bool.false_or] at fin
  by_cases h2 : a.w = b.w
  ·have t2 : (a.w == b.w) = true := by simp [h2]
   rw [decide_eq_true h2, Bool.true_and] at fin
   by_cases h3 : a.id > b.id
   ·have t3 : (b.id < a.id) = True := by simp; omega
    rw [decide_eq_true h3] at fin
    repeat' (first|(with_reducible first|refine jA ?_|(refine hK _ _ ?_;clear hK K)|refine jJ fun K hK=>?_|refine jK ?_|refine jL ?_|refine jM ?_|refine jN ?_|refine jO ?_|refine jP ?_|refine jQ ?_|(refine jB ?_;clear hK K)|(refine jC ?_;clear hK K)|refine jD ?_|refine jE ?_|refine jG ?_|refine jH ?_|refine jI ?_)|((with_reducible refine jR ?hq ?_);case hq=>rfl)|((first|(with_reducible first|refine jS fun K hK=>?_|refine jT ?_|refine jU ?_)|((with_reducible refine jV ?hy fun K hK=>?_);case hy=>rfl));simp only [go_sem, Nat.reduceEqDiff, Nat.reduceAdd, Nat.reduceMul, Nat.reduceLeDiff, Nat.reduceLT, Int.reduceLT, Int.reduceLE, Int.reduceEq, Int.reduceNeg, Int.reduceToNat, Nat.reducePow, reduceIte, reduceCtorEq, t1, t2, t3, Array.size_push, hcell_push, hcell_top, okW_push, okW_top, hcell_hset_ne, hcell_hset_off, hcell_hset_eq, okW_hset, hset_size, Array.size_push, Nat.lt_add_one, ne_add_one, add_one_ne, Nat.add_assoc, add_same, add_lt_same, Nat.reduceEqDiff, lt_add_k, add_k_ne, ne_add_k])|((with_reducible first|refine jW ?hy ?_|refine jY ?hy ?_);case hy=>rfl)|((with_reducible first|refine jX ?hy ?_|refine jZ ?hy ?_);case hy=>rfl)|((with_reducible refine jF ?hy ?_);case hy=>decide))
    exact fin _ (((Fr.refl _ _).push _).push _)
   ·have t3 : (b.id < a.id) = False := by simp; omega
    rw [decide_eq_false h3] at fin
    repeat' (first|(with_reducible first|refine jA ?_|(refine hK _ _ ?_;clear hK K)|refine jJ fun K hK=>?_|refine jK ?_|refine jL ?_|refine jM ?_|refine jN ?_|refine jO ?_|refine jP ?_|refine jQ ?_|(refine jB ?_;clear hK K)|(refine jC ?_;clear hK K)|refine jD ?_|refine jE ?_|refine jG ?_|refine jH ?_|refine jI ?_)|((with_reducible refine jR ?hq ?_);case hq=>rfl)|((first|(with_reducible first|refine jS fun K hK=>?_|refine jT ?_|refine jU ?_)|((with_reducible refine jV ?hy fun K hK=>?_);case hy=>rfl));simp only [go_sem, Nat.reduceEqDiff, Nat.reduceAdd, Nat.reduceMul, Nat.reduceLeDiff, Nat.reduceLT, Int.reduceLT, Int.reduceLE, Int.reduceEq, Int.reduceNeg, Int.reduceToNat, Nat.reducePow, reduceIte, reduceCtorEq, t1, t2, t3, Array.size_push, hcell_push, hcell_top, okW_push, okW_top, hcell_hset_ne, hcell_hset_off, hcell_hset_eq, okW_hset, hset_size, Array.size_push, Nat.lt_add_one, ne_add_one, add_one_ne, Nat.add_assoc, add_same, add_lt_same, Nat.reduceEqDiff, lt_add_k, add_k_ne, ne_add_k])|((with_reducible first|refine jW ?hy ?_|refine jY ?hy ?_);case hy=>rfl)|((with_reducible first|refine jX ?hy ?_|refine jZ ?hy ?_);case hy=>rfl)|((with_reducible refine jF ?hy ?_);case hy=>decide))
    exact fin _ (((Fr.refl _ _).push _).push _)
  ·have t2 : (a.w == b.w) = false := by simp [h2]
   rw [decide_eq_false h2, Bool.false_and] at fin
   repeat' (first|(with_reducible first|refine jA ?_|(refine hK _ _ ?_;clear hK K)|refine jJ fun K hK=>?_|refine jK ?_|refine jL ?_|refine jM ?_|refine jN ?_|refine jO ?_|refine jP ?_|refine jQ ?_|(refine jB ?_;clear hK K)|(refine jC ?_;clear hK K)|refine jD ?_|refine jE ?_|refine jG ?_|refine jH ?_|refine jI ?_)|((with_reducible refine jR ?hq ?_);case hq=>rfl)|((first|(with_reducible first|refine jS fun K hK=>?_|refine jT ?_|refine jU ?_)|((with_reducible refine jV ?hy fun K hK=>?_);case hy=>rfl));simp only [go_sem, Nat.reduceEqDiff, Nat.reduceAdd, Nat.reduceMul, Nat.reduceLeDiff, Nat.reduceLT, Int.reduceLT, Int.reduceLE, Int.reduceEq, Int.reduceNeg, Int.reduceToNat, Nat.reducePow, reduceIte, reduceCtorEq, t1, t2, Array.size_push, hcell_push, hcell_top, okW_push, okW_top, hcell_hset_ne, hcell_hset_off, hcell_hset_eq, okW_hset, hset_size, Array.size_push, Nat.lt_add_one, ne_add_one, add_one_ne, Nat.add_assoc, add_same, add_lt_same, Nat.reduceEqDiff, lt_add_k, add_k_ne, ne_add_k])|((with_reducible first|refine jW ?hy ?_|refine jY ?hy ?_);case hy=>rfl)|((with_reducible first|refine jX ?hy ?_|refine jZ ?hy ?_);case hy=>rfl)|((with_reducible refine jF ?hy ?_);case hy=>decide))
   exact fin _ (((Fr.refl _ _).push _).push _)
end
end Go.Proofs.Ytoplhfhjokjbiaa
namespace Go.Li
open Go Go.Hp
set_option linter.unusedVariables false
abbrev St := Nat × Nat
inductive Rw (E : Nat → Nat → Prop) : Nat → Nat → Prop
 | refl (u : Nat) : Rw E u u
 | step {u v w : Nat} : Rw E u v → E v w → Rw E u w
theorem Rw.trans {E : Nat → Nat → Prop} {u v w : Nat} (h : Rw E u v) (k : Rw E v w) : Rw E u w := by
 induction k with
 | refl => exact h
 | step _ e ih => exact .step ih e
theorem Rw.symm {E : Nat → Nat → Prop} (hE : ∀ a b, E a b → E b a) {u v : Nat} (h : Rw E u v) : Rw E v u := by
 induction h with
 | refl => exact .refl _
 | step _ e ih => exact (Rw.step (.refl _) (hE _ _ e)).trans ih
def EdgeL (l : List St) (a b : Nat) : Prop := (a, b) ∈ l ∨ (b, a) ∈ l
def RchL (l : List St) (a b : Nat) : Prop := Rw (EdgeL l) a b
def falses (bs : List Bool) : Nat := bs.countP (! ·)
theorem falses_set : ∀ (bs : List Bool) (i : Nat), falses (bs.set i true) ≤ falses bs ∧ (bs[i]? = some false → falses (bs.set i true) + 1 = falses bs)
 | [], i => ⟨Nat.le_refl _, fun h => by cases h⟩
 | b :: bs, 0 => by
  cases b <;> simp [falses]
 | b :: bs, i + 1 => by
  obtain ⟨h1, h2⟩ := falses_set bs i
  unfold falses at h1 h2 ⊢
  simp only [List.set_cons_succ, List.countP_cons, List.getElem?_cons_succ]
  exact ⟨by omega, fun h => by have := h2 h; omega⟩
theorem RchL.step_or {l : List St} {a x y : Nat} (h : RchL l a x) (e : (x, y) ∈ l ∨ (y, x) ∈ l) : RchL l a y := Rw.step h e
theorem reach_closed {l : List St} {a : Nat} {P : Nat → Prop} (h0 : P a) (hc : ∀ p ∈ l, P p.1 ↔ P p.2) {x : Nat} (h : RchL l a x) : P x := by
 induction h with
 | refl => exact h0
 | step _ e ih =>
  rcases e with e | e
  ·exact (hc _ e).1 ih
  ·exact (hc _ e).2 ih
def endsL (es : List Ed) : List St := es.map fun x => (x.u.toNat, x.v.toNat)
end Go.Li
namespace Go.Proofs.Ytoplhfhjokjbiaa
open Go Go.Hp Go.Li
set_option linter.all false
set_option maxRecDepth 100000
set_option maxHeartbeats 1600000
section
variable {H0 H H' : Heap} {e : Env} {Z : HX → Env → Heap → Prop} {K L : Value → Heap → Prop}
theorem repL_bool (n : Nat) : repL n [Value.bool false] = (List.replicate n false).map Value.bool := by
 induction n with
 | zero => rfl
 | succ n ih => rw [List.replicate_succ, List.map_cons, ← ih]; rfl
theorem br_new (H : Heap) (n : Nat) (T : TypeId) (hn : 0 < n) : BR (H.push (.cells (repL n [Value.bool false]).toArray T)) (some H.size) (.slice (some ⟨H.size, 0, none⟩) n n) (List.replicate n false) := by
 refine ⟨by simp, .inr ⟨H.size, n, [], rfl, by simp, ?_, by simp, by simp⟩⟩
 rw [List.append_nil, repL_bool]
 exact Blk.new H _ T
theorem passL {g n : Nat} {B : Option Nat} {vl : Value} {es : List Ed} {l : List St} {bs0 : List Bool} {fr : Nat} (hl : SR Ed.cells 4 H B vl es) (hle' : l = endsL es) (hB : B ≠ some g) (hll : es.length ≤ 1000) (hends : ∀ x ∈ es, ∃ p q : Nat, x.u = p ∧ x.v = q ∧ p < n ∧ q < n)
  (hb : BR H (some g) (.slice (some ⟨g, 0, none⟩) n n) bs0) (hlen : bs0.length = n) (hs : ∀ x, bs0[x]? = some true → RchL l fr x) (hf : bs0[fr]? = some true)
  (e1 : e 1 = vl) (e7 : e 7 = .slice (some ⟨g, 0, none⟩) n n) (e8 : e 8 = .bool false) (e9 : e 9 = .int .i64 0)
  (hQ : ∀ e' H' bs more, e' 1 = vl → e' 7 = .slice (some ⟨g, 0, none⟩) n n → e' 8 = .bool more → BR H' (some g) (.slice (some ⟨g, 0, none⟩) n n) bs → bs.length = n → (∀ x, bs[x]? = some true → RchL l fr x) → bs[fr]? = some true → Fr (· = g) H H' →
   falses bs ≤ falses bs0 → (more = true → falses bs < falses bs0) → (more = false → ∀ p ∈ l, bs[p.1]? = bs[p.2]?) → Z .normal e' H') :
  codeX Try.prog [9] (loopAt Try.f21.body 1) (blockQ 2 Z) e H := by
 refine x_loop (fun m e' H' => ∃ (i : Nat) (bs : List Bool) (more : Bool), e' 9 = .int .i64 (i : Nat) ∧ e' 8 = .bool more ∧ i ≤ es.length ∧ BR H' (some g) (.slice (some ⟨g, 0, none⟩) n n) bs ∧ bs.length = n ∧ (∀ x, bs[x]? = some true → RchL l fr x) ∧ bs[fr]? = some true ∧ Fr (· = g) H H' ∧
   falses bs ≤ falses bs0 ∧ (more = true → falses bs < falses bs0) ∧ (more = false → ∀ j p, j < i → l[j]? = some p → bs[p.1]? = bs[p.2]?) ∧ m = es.length - i) es.length
  ⟨0, bs0, false, e9, e8, Nat.zero_le _, hb, hlen, hs, hf, Fr.refl _ _, Nat.le_refl _, fun h => (by cases h), fun _ j p h => (by omega), rfl⟩ ?_
 rintro m e1' H1 ⟨i, bs, more, i9, i8, hi, hb1, hlen1, hs1, hf1, hfr, hle, hm1, hm2, rfl⟩ hoff
 have i1 := (hoff 1 rfl).trans e1
 have i7 := (hoff 7 rfl).trans e7
 clear hoff
 obtain ⟨al, cl, rfl⟩ := hl.slice
 have hlen' : l.length = es.length := by rw [hle', endsL, List.length_map]
 by_cases hlt : i < es.length
 ·obtain ⟨x0, hx0⟩ : ∃ x, es[i]? = some x := ⟨_, List.getElem?_eq_getElem (by omega)⟩
  obtain ⟨p, q, hxu, hxv, hpn, hqn⟩ := hends _ (List.mem_of_getElem? hx0)
  have hp : l[i]? = some (p, q) := by rw [hle', endsL, List.getElem?_map, hx0]; simp [hxu, hxv]
  have hpm := List.mem_of_getElem? hp
  have hl1 := hl.frame hfr fun b hb' e' => hB (by rw [hb', e'])
  obtain ⟨gl, cl', rfl, hv, _, hc⟩ := hl1.at edC_len hx0
  simp only [Value.slice.injEq] at hv
  obtain ⟨rfl, _, rfl⟩ := hv
  have c0 := hc 1 (.int .i64 p) (by rw [← hxu]; rfl)
  have c1 := hc 2 (.int .i64 q) (by rw [← hxv]; rfl)
  obtain ⟨b1, hb1'⟩ : ∃ b, bs[p]? = some b := ⟨_, List.getElem?_eq_getElem (by omega)⟩
  obtain ⟨b2, hb2'⟩ : ∃ b, bs[q]? = some b := ⟨_, List.getElem?_eq_getElem (by omega)⟩
  have d1 := hb1.cell hb1'
  have d2 := hb1.cell hb2'
  have ew : IntKind.i64.wrap ((i : Int) + 1) = ((i + 1 : Nat) : Int) := by rw [wrap_i64] <;> omega
  by_cases hbb : b1 = b2
  ·subst hbb
   have t1 : (b1 != b1) = false := by simp
   repeat' (first|(with_reducible first|refine jA ?_|(refine hK _ _ ?_;clear hK K)|refine jJ fun K hK=>?_|refine jK ?_|refine jL ?_|refine jM ?_|refine jN ?_|refine jO ?_|refine jP ?_|refine jQ ?_|(refine jB ?_;clear hK K)|(refine jC ?_;clear hK K)|refine jD ?_|refine jE ?_|refine jG ?_|refine jH ?_|refine jI ?_)|((with_reducible refine jR ?hq ?_);case hq=>rfl)|((first|(with_reducible first|refine jS fun K hK=>?_|refine jT ?_|refine jU ?_)|((with_reducible refine jV ?hy fun K hK=>?_);case hy=>rfl));simp only [go_sem, Nat.reduceEqDiff, Nat.reduceAdd, Nat.reduceMul, Nat.reduceLeDiff, Nat.reduceLT, Int.reduceLT, Int.reduceLE, Int.reduceEq, Int.reduceNeg, Int.reduceToNat, Nat.reducePow, reduceIte, reduceCtorEq, i1, i7, i9, hlt, hpn, hqn, c0, c1, d1, d2, t1, ew])|((with_reducible first|refine jW ?hy ?_|refine jY ?hy ?_);case hy=>rfl)|((with_reducible first|refine jX ?hy ?_|refine jZ ?hy ?_);case hy=>rfl)|((with_reducible refine jF ?hy ?_);case hy=>decide))
   refine loop_normal (m' := es.length - (i + 1)) (by omega) ⟨i + 1, bs, more, rfl, i8, hlt, hb1, hlen1, hs1, hf1, hfr, hle, hm1, fun hm j p' hj hp' => ?_, rfl⟩
   rcases Nat.lt_succ_iff_lt_or_eq.1 hj with h | rfl
   ·exact hm2 hm j p' h hp'
   ·rw [hp] at hp'
    obtain rfl := Option.some.inj hp'
    rw [hb1', hb2']
  ·have t1 : (b1 == b2) = false := by simp [hbb]
   obtain ⟨w1, hb3⟩ := hb1.write (i := p) (by omega) true
   obtain ⟨w2, hb4⟩ := hb3.write (i := q) (by simp; omega) true
   have hfr2 : Fr (· = g) H1 (hset (hset H1 ⟨g, p, none⟩ (.bool true)) ⟨g, q, none⟩ (.bool true)) := Fr.set (S := (· = g)) (a := ⟨g, q, none⟩) (Fr.set (S := (· = g)) (a := ⟨g, p, none⟩) (Fr.refl _ H1) (.inl rfl) _) (.inl rfl) _
   have hgg : gl ≠ g := fun e' => hB (by rw [e'])
   have hl2 := hl1.frame (Fr.set (S := (· = g)) (a := ⟨g, p, none⟩) (Fr.refl _ H1) (.inl rfl) (.bool true)) fun b hb' e' => hgg (by rw [Option.some.inj hb', e'])
   have c1' := hl2.cell edC_len hx0 (j := 2) (u := .int .i64 q) (by rw [← hxv]; rfl)
   repeat' (first|(with_reducible first|refine jA ?_|(refine hK _ _ ?_;clear hK K)|refine jJ fun K hK=>?_|refine jK ?_|refine jL ?_|refine jM ?_|refine jN ?_|refine jO ?_|refine jP ?_|refine jQ ?_|(refine jB ?_;clear hK K)|(refine jC ?_;clear hK K)|refine jD ?_|refine jE ?_|refine jG ?_|refine jH ?_|refine jI ?_)|((with_reducible refine jR ?hq ?_);case hq=>rfl)|((first|(with_reducible first|refine jS fun K hK=>?_|refine jT ?_|refine jU ?_)|((with_reducible refine jV ?hy fun K hK=>?_);case hy=>rfl));simp only [go_sem, Nat.reduceEqDiff, Nat.reduceAdd, Nat.reduceMul, Nat.reduceLeDiff, Nat.reduceLT, Int.reduceLT, Int.reduceLE, Int.reduceEq, Int.reduceNeg, Int.reduceToNat, Nat.reducePow, reduceIte, reduceCtorEq, i1, i7, i9, hlt, hpn, hqn, c0, c1, d1, d2, t1, w1, w2, c1', ew])|((with_reducible first|refine jW ?hy ?_|refine jY ?hy ?_);case hy=>rfl)|((with_reducible first|refine jX ?hy ?_|refine jZ ?hy ?_);case hy=>rfl)|((with_reducible refine jF ?hy ?_);case hy=>decide))
   obtain ⟨f1, f2⟩ := falses_set bs p
   obtain ⟨f3, f4⟩ := falses_set (bs.set p true) q
   have hdec : falses ((bs.set p true).set q true) < falses bs := by
    cases b1 with
    | false => have := f2 hb1'; omega
    | true =>
     cases b2 with
     | true => exact absurd rfl hbb
     | false =>
      have hpq : p ≠ q := by rintro rfl; rw [hb1'] at hb2'; cases hb2'
      have := f4 (by rw [List.getElem?_set_ne hpq]; exact hb2')
      omega
   have hsound : ∀ x, ((bs.set p true).set q true)[x]? = some true → RchL l fr x := by
    have hor : RchL l fr p ∧ RchL l fr q := by
     cases b1 with
     | true => exact ⟨hs1 p hb1', (hs1 p hb1').step_or (.inl hpm)⟩
     | false =>
      cases b2 with
      | false => exact absurd rfl hbb
      | true => exact ⟨(hs1 q hb2').step_or (.inr hpm), hs1 q hb2'⟩
    intro x hx
    rw [List.getElem?_set] at hx
    by_cases hxq : q = x
    ·rw [← hxq]; exact hor.2
    ·rw [if_neg hxq, List.getElem?_set] at hx
     by_cases hxp : p = x
     ·rw [← hxp]; exact hor.1
     ·rw [if_neg hxp] at hx; exact hs1 x hx
   have hf3 : ((bs.set p true).set q true)[fr]? = some true := by
    rw [List.getElem?_set]
    by_cases h1 : q = fr
    ·rw [if_pos h1, if_pos (by simp; omega)]
    ·rw [if_neg h1, List.getElem?_set]
     by_cases h2 : p = fr
     ·rw [if_pos h2, if_pos (by omega)]
     ·rw [if_neg h2]; exact hf1
   exact loop_normal (m' := es.length - (i + 1)) (by omega) ⟨i + 1, _, true, rfl, rfl, hlt, hb4, by simp [hlen1], hsound, hf3, hfr.trans hfr2, by omega, fun _ => by omega, fun h => (by cases h), rfl⟩
 ·have t1 : (i < es.length) = False := by simp [hlt]
  repeat' (first|(with_reducible first|refine jA ?_|(refine hK _ _ ?_;clear hK K)|refine jJ fun K hK=>?_|refine jK ?_|refine jL ?_|refine jM ?_|refine jN ?_|refine jO ?_|refine jP ?_|refine jQ ?_|(refine jB ?_;clear hK K)|(refine jC ?_;clear hK K)|refine jD ?_|refine jE ?_|refine jG ?_|refine jH ?_|refine jI ?_)|((with_reducible refine jR ?hq ?_);case hq=>rfl)|((first|(with_reducible first|refine jS fun K hK=>?_|refine jT ?_|refine jU ?_)|((with_reducible refine jV ?hy fun K hK=>?_);case hy=>rfl));simp only [go_sem, Nat.reduceEqDiff, Nat.reduceAdd, Nat.reduceMul, Nat.reduceLeDiff, Nat.reduceLT, Int.reduceLT, Int.reduceLE, Int.reduceEq, Int.reduceNeg, Int.reduceToNat, Nat.reducePow, reduceIte, reduceCtorEq, i1, i9, t1])|((with_reducible first|refine jW ?hy ?_|refine jY ?hy ?_);case hy=>rfl)|((with_reducible first|refine jX ?hy ?_|refine jZ ?hy ?_);case hy=>rfl)|((with_reducible refine jF ?hy ?_);case hy=>decide))
  refine hQ _ _ bs more i1 i7 i8 hb1 hlen1 hs1 hf1 hfr hle hm1 fun hm p hp => ?_
  obtain ⟨j, hj, rfl⟩ := List.mem_iff_getElem.1 hp
  exact hm2 hm j _ (by omega) (List.getElem?_eq_getElem hj)
theorem joined_ok {n fr : Nat} {B : Option Nat} {vl : Value} {es : List Ed} {l : List St} (hl : SR Ed.cells 4 H B vl es) (hle' : l = endsL es) (hll : es.length ≤ 1000) (hends : ∀ x ∈ es, ∃ p q : Nat, x.u = p ∧ x.v = q ∧ p < n ∧ q < n) (hfr : fr < n) (hn : n ≤ 1000)
  (fin : ∀ H' g bs, BR H' (some g) (.slice (some ⟨g, 0, none⟩) n n) bs → bs.length = n → (∀ x, bs[x]? = some true ↔ x < n ∧ RchL l fr x) → H.size ≤ g → Fr (fun _ => False) H H' → L (.slice (some ⟨g, 0, none⟩) n n) H') :
  CallsH Try.prog 21 #[.int .i64 (n : Nat), vl, .int .i64 (fr : Nat)] H L := by
 refine call21 (by simp) ?_
 simp only [Try.f21, Option.getD_some]
 repeat' (first|(with_reducible first|refine jA ?_|(refine hK _ _ ?_;clear hK K)|refine jJ fun K hK=>?_|refine jK ?_|refine jL ?_|refine jM ?_|refine jN ?_|refine jO ?_|refine jP ?_|refine jQ ?_|(refine jB ?_;clear hK K)|(refine jC ?_;clear hK K)|refine jD ?_|refine jE ?_|refine jG ?_|refine jH ?_|refine jI ?_)|((with_reducible refine jR ?hq ?_);case hq=>rfl)|((first|(with_reducible first|refine jS fun K hK=>?_|refine jT ?_|refine jU ?_)|((with_reducible refine jV ?hy fun K hK=>?_);case hy=>rfl));simp only [go_sem, Nat.reduceEqDiff, Nat.reduceAdd, Nat.reduceMul, Nat.reduceLeDiff, Nat.reduceLT, Int.reduceLT, Int.reduceLE, Int.reduceEq, Int.reduceNeg, Int.reduceToNat, Nat.reducePow, reduceIte, reduceCtorEq])|((with_reducible first|refine jW ?hy ?_|refine jY ?hy ?_);case hy=>rfl)|((with_reducible first|refine jX ?hy ?_|refine jZ ?hy ?_);case hy=>rfl)|((with_reducible refine jF ?hy ?_);case hy=>decide))
 refine ⟨Nat.le_refl _, by omega, ?_⟩
 have hb0 := br_new H n 4 (by omega)
 have hf0 : Fr (fun _ => False) H (H.push (.cells (repL n [Value.bool false]).toArray 4)) := (Fr.refl _ _).push _
 have hl0 := hl.frame hf0 fun _ _ h => h
 have hBg : B ≠ some H.size := fun e => by have := hl.lt e; omega
 generalize H.push _ = H1 at hb0 hf0 hl0 ⊢
 obtain ⟨w1, hb1⟩ := hb0.write (i := fr) (by simpa using hfr) true
 have hf1 : Fr (· = H.size) H1 (hset H1 ⟨H.size, fr, none⟩ (.bool true)) := Fr.set (S := (· = H.size)) (a := ⟨H.size, fr, none⟩) (Fr.refl _ H1) (.inl rfl) _
 repeat' (first|(with_reducible first|refine jA ?_|(refine hK _ _ ?_;clear hK K)|refine jJ fun K hK=>?_|refine jK ?_|refine jL ?_|refine jM ?_|refine jN ?_|refine jO ?_|refine jP ?_|refine jQ ?_|(refine jB ?_;clear hK K)|(refine jC ?_;clear hK K)|refine jD ?_|refine jE ?_|refine jG ?_|refine jH ?_|refine jI ?_)|((with_reducible refine jR ?hq ?_);case hq=>rfl)|((first|(with_reducible first|refine jS fun K hK=>?_|refine jT ?_|refine jU ?_)|((with_reducible refine jV ?hy fun K hK=>?_);case hy=>rfl));simp only [go_sem, Nat.reduceEqDiff, Nat.reduceAdd, Nat.reduceMul, Nat.reduceLeDiff, Nat.reduceLT, Int.reduceLT, Int.reduceLE, Int.reduceEq, Int.reduceNeg, Int.reduceToNat, Nat.reducePow, reduceIte, reduceCtorEq, hfr, w1])|((with_reducible first|refine jW ?hy ?_|refine jY ?hy ?_);case hy=>rfl)|((with_reducible first|refine jX ?hy ?_|refine jZ ?hy ?_);case hy=>rfl)|((with_reducible refine jF ?hy ?_);case hy=>decide))
 generalize hset H1 ⟨H.size, fr, none⟩ (.bool true) = H2 at hb1 hf1 ⊢
 have hl2 := hl0.frame hf1 fun b hb e => hBg (by rw [hb, e])
 have hf02 : Fr (fun _ => False) H H2 := hf0.trans' hf1 fun b hb (e : b = H.size) => by omega
 refine x_loop (fun m e' H' => ∃ (bs : List Bool) (more : Bool), e' 8 = .bool more ∧ BR H' (some H.size) (.slice (some ⟨H.size, 0, none⟩) n n) bs ∧ bs.length = n ∧ (∀ x, bs[x]? = some true → RchL l fr x) ∧ bs[fr]? = some true ∧ Fr (fun _ => False) H H' ∧ (more = false → ∀ p ∈ l, bs[p.1]? = bs[p.2]?) ∧ m = 2 * falses bs + (if more then 1 else 0)) _
  ⟨(List.replicate n false).set fr true, true, rfl, hb1, by simp, fun x hx => ?_, ?_, hf02, fun h => (by cases h), rfl⟩ ?_
 ·rw [List.getElem?_set] at hx
  by_cases h1 : fr = x
  ·rw [← h1]; exact Rw.refl _
  ·rw [if_neg h1, List.getElem?_replicate] at hx
   split at hx <;> cases hx
 ·rw [List.getElem?_set, if_pos rfl, if_pos (by simpa using hfr)]
 rintro m e1 H3 ⟨bs, more, i8, hb3, hlen3, hs3, hfr3, hf3, hcl, rfl⟩ hoff
 have i1 : e1 1 = vl := (hoff 1 rfl).trans rfl
 have i7 : e1 7 = .slice (some ⟨H.size, 0, none⟩) n n := (hoff 7 rfl).trans rfl
 clear hoff
 cases more with
 | true =>
  repeat' (first|(with_reducible first|refine jA ?_|(refine hK _ _ ?_;clear hK K)|refine jJ fun K hK=>?_|refine jK ?_|refine jL ?_|refine jM ?_|refine jN ?_|refine jO ?_|refine jP ?_|refine jQ ?_|(refine jB ?_;clear hK K)|(refine jC ?_;clear hK K)|refine jD ?_|refine jE ?_|refine jG ?_|refine jH ?_|refine jI ?_)|((with_reducible refine jR ?hq ?_);case hq=>rfl)|((first|(with_reducible first|refine jS fun K hK=>?_|refine jT ?_|refine jU ?_)|((with_reducible refine jV ?hy fun K hK=>?_);case hy=>rfl));simp only [go_sem, Nat.reduceEqDiff, Nat.reduceAdd, Nat.reduceMul, Nat.reduceLeDiff, Nat.reduceLT, Int.reduceLT, Int.reduceLE, Int.reduceEq, Int.reduceNeg, Int.reduceToNat, Nat.reducePow, reduceIte, reduceCtorEq, i8])|((with_reducible first|refine jW ?hy ?_|refine jY ?hy ?_);case hy=>rfl)|((with_reducible first|refine jX ?hy ?_|refine jZ ?hy ?_);case hy=>rfl)|((with_reducible refine jF ?hy ?_);case hy=>decide))
  refine passL (hl.frame hf3 fun _ _ h => h) hle' hBg hll hends hb3 hlen3 hs3 hfr3 i1 i7 rfl rfl ?_
  intro e4 H4 bs4 more4 j1 j7 j8 hb4 hlen4 hs4 hfr4 hf4 hle hm1 hm2
  repeat' (first|(with_reducible first|refine jA ?_|(refine hK _ _ ?_;clear hK K)|refine jJ fun K hK=>?_|refine jK ?_|refine jL ?_|refine jM ?_|refine jN ?_|refine jO ?_|refine jP ?_|refine jQ ?_|(refine jB ?_;clear hK K)|(refine jC ?_;clear hK K)|refine jD ?_|refine jE ?_|refine jG ?_|refine jH ?_|refine jI ?_)|((with_reducible refine jR ?hq ?_);case hq=>rfl)|((first|(with_reducible first|refine jS fun K hK=>?_|refine jT ?_|refine jU ?_)|((with_reducible refine jV ?hy fun K hK=>?_);case hy=>rfl));simp only [go_sem, Nat.reduceEqDiff, Nat.reduceAdd, Nat.reduceMul, Nat.reduceLeDiff, Nat.reduceLT, Int.reduceLT, Int.reduceLE, Int.reduceEq, Int.reduceNeg, Int.reduceToNat, Nat.reducePow, reduceIte, reduceCtorEq])|((with_reducible first|refine jW ?hy ?_|refine jY ?hy ?_);case hy=>rfl)|((with_reducible first|refine jX ?hy ?_|refine jZ ?hy ?_);case hy=>rfl)|((with_reducible refine jF ?hy ?_);case hy=>decide))
  refine loop_normal (m' := 2 * falses bs4 + (if more4 then 1 else 0)) ?_ ⟨bs4, more4, j8, hb4, hlen4, hs4, hfr4, hf3.trans' hf4 fun b hb (e : b = H.size) => (by omega), hm2, rfl⟩
  cases more4 with
  | true => have := hm1 rfl; simp; omega
  | false => simp; omega
 | false =>
  repeat' (first|(with_reducible first|refine jA ?_|(refine hK _ _ ?_;clear hK K)|refine jJ fun K hK=>?_|refine jK ?_|refine jL ?_|refine jM ?_|refine jN ?_|refine jO ?_|refine jP ?_|refine jQ ?_|(refine jB ?_;clear hK K)|(refine jC ?_;clear hK K)|refine jD ?_|refine jE ?_|refine jG ?_|refine jH ?_|refine jI ?_)|((with_reducible refine jR ?hq ?_);case hq=>rfl)|((first|(with_reducible first|refine jS fun K hK=>?_|refine jT ?_|refine jU ?_)|((with_reducible refine jV ?hy fun K hK=>?_);case hy=>rfl));simp only [go_sem, Nat.reduceEqDiff, Nat.reduceAdd, Nat.reduceMul, Nat.reduceLeDiff, Nat.reduceLT, Int.reduceLT, Int.reduceLE, Int.reduceEq, Int.reduceNeg, Int.reduceToNat, Nat.reducePow, reduceIte, reduceCtorEq, i8, i7])|((with_reducible first|refine jW ?hy ?_|refine jY ?hy ?_);case hy=>rfl)|((with_reducible first|refine jX ?hy ?_|refine jZ ?hy ?_);case hy=>rfl)|((with_reducible refine jF ?hy ?_);case hy=>decide))
  refine fin _ H.size bs hb3 hlen3 (fun x => ⟨fun hx => ⟨?_, hs3 x hx⟩, fun ⟨hx, hr⟩ => ?_⟩) (Nat.le_refl _) hf3
  ·have := (List.getElem?_eq_some_iff.1 hx).1
   omega
  ·exact reach_closed (P := fun y => bs[y]? = some true) hfr3 (fun p hp => by
    have := hcl rfl p hp
    rw [this]) hr
end
end Go.Proofs.Ytoplhfhjokjbiaa
namespace Go.Hp
open Go Go.ChangeShapes Go.WideShapes Go.RowKit
set_option linter.unusedVariables false
section
variable {E : Type} {enc : TypeId × Value → E} {P : Program} {w : World} {base : Nat} {spare : Nat → Bool} {held : Bool}
theorem cells_in {t e : TypeId} {a : Option Addr} {len cap : Nat} {d : DataW E} {p : List MemPlace} (ht : P.underlying t = some (.slice e)) (h : DataW.Trod enc P w base spare held t (.slice a len cap) d p) :
  len ≤ 9223372036854775807 ∧ ∀ i, i < len → ∃ (q : Addr) (cs : List Value) (m : Nat) (y : DataW E × List MemPlace), a = some q ∧ w.cells? base (q.add (i * P.cellsOf e)) (P.cellsOf e) = some cs ∧ DataW.trod enc P w base spare held m e cs = some y := by
 obtain ⟨fuel, hf⟩ := h
 rcases DataW.trod_slice ht hf with ⟨h0, _⟩ | ⟨a', len', cap', elems, rest, n, _, h0, _, hb, hl, hm, hlen, hel, hsp, hns⟩
 ·simp [Value.cells] at h0
  obtain ⟨rfl, rfl, rfl⟩ := h0
  exact ⟨by omega, fun i hi => absurd hi (by omega)⟩
 ·simp [Value.cells] at h0
  obtain ⟨rfl, rfl, rfl⟩ := h0
  refine ⟨by unfold maxLen at hm; omega, fun i hi => ?_⟩
  have h1 := hel i hi
  rw [List.getElem?_eq_getElem (by omega)] at h1
  obtain ⟨cs, hcs, hy⟩ := Option.bind_eq_some_iff.1 h1
  exact ⟨a', cs, n, _, rfl, hcs, hy⟩
theorem fit_of_wf {n : Int} (h : (Lit.int .i64 n).wf = true) : -9223372036854775808 ≤ n ∧ n ≤ 9223372036854775807 := by
 have hb := bounds_i64 h
 omega
theorem ints_in {t e : TypeId} {a : Option Addr} {len cap : Nat} {d : DataW E} {p : List MemPlace} (ht : P.underlying t = some (.slice e)) (he : P.underlying e = some (.int .i64)) (hc : P.cellsOf e = 1) (h : DataW.Trod enc P w base spare held t (.slice a len cap) d p) :
  len ≤ 9223372036854775807 ∧ ∃ zs, InInts w.heap a len zs := by
 obtain ⟨hl, hi⟩ := cells_in ht h
 refine ⟨hl, ?_⟩
 have each : ∀ i, i < len → ∃ (q : Addr) (n : Int), a = some q ∧ w.cell? (q.add i) = some (.int .i64 n) ∧ (Lit.int .i64 n).wf = true := fun i hlt => by
  obtain ⟨q, cs, m, y, h1, h2, h3⟩ := hi i hlt
  obtain ⟨n, rfl, _, hw⟩ := DataW.trod_int he h3
  rw [hc, Nat.mul_one] at h2
  obtain ⟨_, _, h4⟩ := World.cells?_some h2
  refine ⟨q, n, h1, ?_, hw⟩
  have := h4 0 (by omega)
  simpa [Addr.add] using this
 refine ⟨fun i => if h : i < len then (each i h).choose_spec.choose else 0, fun i hlt => ?_⟩
 have e := (each i hlt).choose_spec.choose_spec
 refine ⟨_, e.1, ?_, ?_⟩
 ·simp only [hlt, dif_pos]
  exact e.2.1
 ·simp only [hlt, dif_pos]
  exact fit_of_wf e.2.2
theorem field_in {e : TypeId} {fs : Array Field} {q : Addr} {n : Nat} {cs : List Value} {m : Nat} {y : DataW E × List MemPlace} (he : P.underlying e = some (.struct fs)) (h2 : w.cells? base q n = some cs) (h3 : DataW.trod enc P w base spare held m e cs = some y)
  (i : Nat) {f : Field} (hf : fs[i]? = some f) (hc : P.cellsOf f.type = 1) (ho : f.offset < n) :
  ∃ (v : Value) (z : DataW E × List MemPlace) (m' : Nat), w.cell? (q.add f.offset) = some v ∧ DataW.trod enc P w base spare held m' f.type [v] = some z := by
 obtain ⟨xs, n', _, _, hlen, hxl, hfs⟩ := DataW.trod_struct he h3
 obtain ⟨_, hcl, hcell⟩ := World.cells?_some h2
 have h4 := hfs i f hf
 have hlt : i < fs.size := (Array.getElem?_eq_some_iff.1 hf).1
 rw [hc, List.getElem?_eq_getElem (by omega)] at h4
 have hd : (cs.drop f.offset).take 1 = [cs[f.offset]'(by omega)] := by
  rw [List.drop_eq_getElem_cons (by omega)]; rfl
 rw [hd] at h4
 refine ⟨_, _, n', ?_, h4⟩
 rw [hcell f.offset ho, List.getElem?_eq_getElem (by omega)]
end
theorem add_zero_addr (q : Addr) : q.add 0 = q := rfl
theorem add_succ_addr (q : Addr) (n : Nat) : q.add (n + 1) = ⟨q.block, q.off + (n + 1), none⟩ := by
 unfold Addr.add; rw [if_neg (by omega)]
end Go.Hp
namespace Go.Proofs.Ytoplhfhjokjbiaa
open Go Go.Hp Go.Li
set_option linter.all false
set_option maxRecDepth 100000
set_option maxHeartbeats 1600000
theorem okArg_of {id w : Int} (h1 : 0 ≤ id) (h2 : id ≤ 1099511627776) (h3 : -1099511627776 ≤ w) (h4 : w ≤ 1099511627776) : okArg id w = true := by
 unfold okArg
 simp only [Bool.and_eq_true, decide_eq_true_eq]
 exact ⟨h1, h2, h3, h4⟩
theorem tdivB (z d : Int) (hd : 0 < d) (h1 : -9223372036854775808 ≤ z) (h2 : z ≤ 9223372036854775807) : -9223372036854775808 ≤ z.tdiv d ∧ z.tdiv d ≤ 9223372036854775807 := by
 rcases Int.lt_or_le z 0 with h | h
 ·have e : z.tdiv d = -((-z) / d) := by rw [← Int.tdiv_eq_ediv_of_nonneg (by omega), Int.neg_tdiv, Int.neg_neg]
  have a1 : (-z) / d ≤ -z := Int.ediv_le_self _ (by omega)
  have a2 : 0 ≤ (-z) / d := Int.ediv_nonneg (by omega) (by omega)
  omega
 ·rw [Int.tdiv_eq_ediv_of_nonneg h]
  have a1 : z / d ≤ z := Int.ediv_le_self _ h
  have a2 : 0 ≤ z / d := Int.ediv_nonneg h (by omega)
  omega
section
variable {H0 H : Heap} {e : Env} {Z : HX → Env → Heap → Prop} {t : Nat} {T : Nat → Prop} {S : Ls}
theorem evA {a : Option Addr} {len cap n : Nat} {zs : Nat → Int} (hin : InInts H0 a len zs) (hn : n = 2 + min len 62) (hS : LS H0 H t T (Ls.new n))
  (e0 : e 0 = .slice a len cap) (e10 : e 10 = .int .i64 (n : Nat)) (e11 : e 11 = .pointer (some ⟨t, 0, none⟩)) (e13 : e 13 = .int .i64 1)
  (hQ : ∀ e' H' T' S', e' 1 = e 1 → e' 2 = e 2 → e' 3 = e 3 → e' 10 = .int .i64 (n : Nat) → e' 11 = .pointer (some ⟨t, 0, none⟩) → LS H0 H' t T' S' → Grow S' n → S'.n = n → Z .normal e' H') :
  codeX Try.prog [35] (loopAt Try.f4.body 0) (blockQ 0 Z) e H := by
 refine x_loop (fun m e' H' => ∃ (i : Nat) (T' : Nat → Prop) (S' : Ls), e' 13 = .int .i64 (i : Nat) ∧ 1 ≤ i ∧ i ≤ n ∧ LS H0 H' t T' S' ∧ Grow S' i ∧ S'.n = n ∧ (∀ k x, S'.E k = some x → x.id < 100 + i) ∧ m = n - i) (n - 1) ⟨1, T, Ls.new n, e13, Nat.le_refl _, by omega, hS, Grow.new n, rfl, nofun, rfl⟩ ?_
 rintro m e1 H1 ⟨i, T1, S1, i13, hi1, hi, hS1, hG, hn1, hid, rfl⟩ hoff
 have i0 := (hoff 0 rfl).trans e0
 have i10 := (hoff 10 rfl).trans e10
 have i11 := (hoff 11 rfl).trans e11
 have keep : e1 1 = e 1 ∧ e1 2 = e 2 ∧ e1 3 = e 3 := ⟨hoff 1 rfl, hoff 2 rfl, hoff 3 rfl⟩
 clear hoff e0 e10 e11 e13
 by_cases hlt : i < n
 ·have ew : IntKind.i64.wrap ((i : Int) - 1) = ((i - 1 : Nat) : Int) := by rw [wrap_i64] <;> omega
  have ew2 : IntKind.i64.wrap ((i : Int) + 1) = ((i + 1 : Nat) : Int) := by rw [wrap_i64] <;> omega
  have ew3 : IntKind.i64.wrap (100 + (i : Int)) = 100 + (i : Int) := by rw [wrap_i64] <;> omega
  repeat' (first|(with_reducible first|refine jA ?_|(refine hK _ _ ?_;clear hK K)|refine jJ fun K hK=>?_|refine jK ?_|refine jL ?_|refine jM ?_|refine jN ?_|refine jO ?_|refine jP ?_|refine jQ ?_|(refine jB ?_;clear hK K)|(refine jC ?_;clear hK K)|refine jD ?_|refine jE ?_|refine jG ?_|refine jH ?_|refine jI ?_)|((with_reducible refine jR ?hq ?_);case hq=>rfl)|((first|(with_reducible first|refine jS fun K hK=>?_|refine jT ?_|refine jU ?_)|((with_reducible refine jV ?hy fun K hK=>?_);case hy=>rfl));simp only [go_sem, Nat.reduceEqDiff, Nat.reduceAdd, Nat.reduceMul, Nat.reduceLeDiff, Nat.reduceLT, Int.reduceLT, Int.reduceLE, Int.reduceEq, Int.reduceNeg, Int.reduceToNat, Nat.reducePow, reduceIte, reduceCtorEq, i0, i10, i11, i13, hlt, ew])|((with_reducible first|refine jW ?hy ?_|refine jY ?hy ?_);case hy=>rfl)|((with_reducible first|refine jX ?hy ?_|refine jZ ?hy ?_);case hy=>rfl)|((with_reducible refine jF ?hy ?_);case hy=>decide))
  obtain ⟨rt, hrt⟩ := hG.one
  have hself := hG.self (by omega)
  have z0 : ((0 : Int) != 0) = false := rfl
  have tail : ∀ (e' : Env) (z : Int), e' 10 = .int .i64 (n : Nat) → e' 11 = .pointer (some ⟨t, 0, none⟩) → e' 13 = .int .i64 (i : Nat) → e' 14 = .int .i64 z → -9223372036854775808 ≤ z ∧ z ≤ 9223372036854775807 → K e' H1 := by
   intro e' z j10 j11 j13 j14 hz
   refine hK _ _ ?_
   clear hK K
   have d2 := tdivB z 2 (by omega) hz.1 hz.2
   have d8 := tdivB z 8 (by omega) hz.1 hz.2
   have ewd : IntKind.i64.wrap (z.tdiv 2) = z.tdiv 2 := by rw [wrap_i64] <;> omega
   have ewd8 : IntKind.i64.wrap (z.tdiv 8) = z.tdiv 8 := by rw [wrap_i64] <;> omega
   have z2 : ((2 : Int) = 0) = False := by simp
   have z8 : ((8 : Int) = 0) = False := by simp
   repeat' (first|(with_reducible first|refine jA ?_|(refine hK _ _ ?_;clear hK K)|refine jJ fun K hK=>?_|refine jK ?_|refine jL ?_|refine jM ?_|refine jN ?_|refine jO ?_|refine jP ?_|refine jQ ?_|(refine jB ?_;clear hK K)|(refine jC ?_;clear hK K)|refine jD ?_|refine jE ?_|refine jG ?_|refine jH ?_|refine jI ?_)|((with_reducible refine jR ?hq ?_);case hq=>rfl)|((first|(with_reducible first|refine jS fun K hK=>?_|refine jT ?_|refine jU ?_)|((with_reducible refine jV ?hy fun K hK=>?_);case hy=>rfl));simp only [go_sem, Nat.reduceEqDiff, Nat.reduceAdd, Nat.reduceMul, Nat.reduceLeDiff, Nat.reduceLT, Int.reduceLT, Int.reduceLE, Int.reduceEq, Int.reduceNeg, Int.reduceToNat, Nat.reducePow, reduceIte, reduceCtorEq, j13, j14, ewd, z2])|((with_reducible first|refine jW ?hy ?_|refine jY ?hy ?_);case hy=>rfl)|((with_reducible first|refine jX ?hy ?_|refine jZ ?hy ?_);case hy=>rfl)|((with_reducible refine jF ?hy ?_);case hy=>decide))
   refine pick_nat d2 (by omega) fun k hk1 hk => ?_
   have hne := hG.apart (by omega) hk (hrt k hk)
   repeat' (first|(with_reducible first|refine jA ?_|(refine hK _ _ ?_;clear hK K)|refine jJ fun K hK=>?_|refine jK ?_|refine jL ?_|refine jM ?_|refine jN ?_|refine jO ?_|refine jP ?_|refine jQ ?_|(refine jB ?_;clear hK K)|(refine jC ?_;clear hK K)|refine jD ?_|refine jE ?_|refine jG ?_|refine jH ?_|refine jI ?_)|((with_reducible refine jR ?hq ?_);case hq=>rfl)|((first|(with_reducible first|refine jS fun K hK=>?_|refine jT ?_|refine jU ?_)|((with_reducible refine jV ?hy fun K hK=>?_);case hy=>rfl));simp only [go_sem, Nat.reduceEqDiff, Nat.reduceAdd, Nat.reduceMul, Nat.reduceLeDiff, Nat.reduceLT, Int.reduceLT, Int.reduceLE, Int.reduceEq, Int.reduceNeg, Int.reduceToNat, Nat.reducePow, reduceIte, reduceCtorEq, j14])|((with_reducible first|refine jW ?hy ?_|refine jY ?hy ?_);case hy=>rfl)|((with_reducible first|refine jX ?hy ?_|refine jZ ?hy ?_);case hy=>rfl)|((with_reducible refine jF ?hy ?_);case hy=>decide))
   refine Pkisthmuslaw05.pick_ok hz.1 hz.2 (by omega) ?_
   by_cases hp : pickN z 2 = 0
   ·have t1 : (pickN z 2 == 0) = true := by simp [hp]
    repeat' (first|(with_reducible first|refine jA ?_|(refine hK _ _ ?_;clear hK K)|refine jJ fun K hK=>?_|refine jK ?_|refine jL ?_|refine jM ?_|refine jN ?_|refine jO ?_|refine jP ?_|refine jQ ?_|(refine jB ?_;clear hK K)|(refine jC ?_;clear hK K)|refine jD ?_|refine jE ?_|refine jG ?_|refine jH ?_|refine jI ?_)|((with_reducible refine jR ?hq ?_);case hq=>rfl)|((first|(with_reducible first|refine jS fun K hK=>?_|refine jT ?_|refine jU ?_)|((with_reducible refine jV ?hy fun K hK=>?_);case hy=>rfl));simp only [go_sem, Nat.reduceEqDiff, Nat.reduceAdd, Nat.reduceMul, Nat.reduceLeDiff, Nat.reduceLT, Int.reduceLT, Int.reduceLE, Int.reduceEq, Int.reduceNeg, Int.reduceToNat, Nat.reducePow, reduceIte, reduceCtorEq, j11, j13, j14, t1, ew3, ewd8, z8])|((with_reducible first|refine jW ?hy ?_|refine jY ?hy ?_);case hy=>rfl)|((with_reducible first|refine jX ?hy ?_|refine jZ ?hy ?_);case hy=>rfl)|((with_reducible refine jF ?hy ?_);case hy=>decide))
    refine pick_nat (n := 9) d8 (by omega) fun w hw1 hw2 => ?_
    have hw64 : w < 9 := hw2
    repeat' (first|(with_reducible first|refine jA ?_|(refine hK _ _ ?_;clear hK K)|refine jJ fun K hK=>?_|refine jK ?_|refine jL ?_|refine jM ?_|refine jN ?_|refine jO ?_|refine jP ?_|refine jQ ?_|(refine jB ?_;clear hK K)|(refine jC ?_;clear hK K)|refine jD ?_|refine jE ?_|refine jG ?_|refine jH ?_|refine jI ?_)|((with_reducible refine jR ?hq ?_);case hq=>rfl)|((first|(with_reducible first|refine jS fun K hK=>?_|refine jT ?_|refine jU ?_)|((with_reducible refine jV ?hy fun K hK=>?_);case hy=>rfl));simp only [go_sem, Nat.reduceEqDiff, Nat.reduceAdd, Nat.reduceMul, Nat.reduceLeDiff, Nat.reduceLT, Int.reduceLT, Int.reduceLE, Int.reduceEq, Int.reduceNeg, Int.reduceToNat, Nat.reducePow, reduceIte, reduceCtorEq, j11, j13, j14, ew3])|((with_reducible first|refine jW ?hy ?_|refine jY ?hy ?_);case hy=>rfl)|((with_reducible first|refine jX ?hy ?_|refine jZ ?hy ?_);case hy=>rfl)|((with_reducible refine jF ?hy ?_);case hy=>decide))
    refine m_link (u := k) (v := i) (id := 100 + (i : Int)) (w := (w : Nat)) hS1.m (by omega) (by omega) (okArg_of (by omega) (by omega) (by omega) (by omega)) (fun k x hk => by have := hid k x hk; omega) (hrt k hk) hself hne fun H2 T2 S2 hM2 hK2 hf2 hT2 => ?_
    have hS2 := hS1.op hM2 hf2 hT2
    repeat' (first|(with_reducible first|refine jA ?_|(refine hK _ _ ?_;clear hK K)|refine jJ fun K hK=>?_|refine jK ?_|refine jL ?_|refine jM ?_|refine jN ?_|refine jO ?_|refine jP ?_|refine jQ ?_|(refine jB ?_;clear hK K)|(refine jC ?_;clear hK K)|refine jD ?_|refine jE ?_|refine jG ?_|refine jH ?_|refine jI ?_)|((with_reducible refine jR ?hq ?_);case hq=>rfl)|((first|(with_reducible first|refine jS fun K hK=>?_|refine jT ?_|refine jU ?_)|((with_reducible refine jV ?hy fun K hK=>?_);case hy=>rfl));simp only [go_sem, Nat.reduceEqDiff, Nat.reduceAdd, Nat.reduceMul, Nat.reduceLeDiff, Nat.reduceLT, Int.reduceLT, Int.reduceLE, Int.reduceEq, Int.reduceNeg, Int.reduceToNat, Nat.reducePow, reduceIte, reduceCtorEq, z0, j13, ew2])|((with_reducible first|refine jW ?hy ?_|refine jY ?hy ?_);case hy=>rfl)|((with_reducible first|refine jX ?hy ?_|refine jZ ?hy ?_);case hy=>rfl)|((with_reducible refine jF ?hy ?_);case hy=>decide))
    refine loop_normal (m' := n - (i + 1)) (by omega) ⟨i + 1, T2, S2, rfl, by omega, hlt, hS2, hG.up (by omega) hK2 (.inr ⟨rfl, hk⟩), hK2.n.trans hn1, fun y x hy => ?_, rfl⟩
    obtain ⟨k', _, _, e'⟩ := hK2.ed
    rw [e'] at hy
    by_cases ey : y = k'
    ·rw [ey, setE_same] at hy
     obtain rfl := Option.some.inj hy
     simp only []; omega
    ·rw [setE_ne _ _ ey] at hy
     have := hid y x hy; omega
   ·have t1 : (pickN z 2 == 0) = false := by simp [hp]
    repeat' (first|(with_reducible first|refine jA ?_|(refine hK _ _ ?_;clear hK K)|refine jJ fun K hK=>?_|refine jK ?_|refine jL ?_|refine jM ?_|refine jN ?_|refine jO ?_|refine jP ?_|refine jQ ?_|(refine jB ?_;clear hK K)|(refine jC ?_;clear hK K)|refine jD ?_|refine jE ?_|refine jG ?_|refine jH ?_|refine jI ?_)|((with_reducible refine jR ?hq ?_);case hq=>rfl)|((first|(with_reducible first|refine jS fun K hK=>?_|refine jT ?_|refine jU ?_)|((with_reducible refine jV ?hy fun K hK=>?_);case hy=>rfl));simp only [go_sem, Nat.reduceEqDiff, Nat.reduceAdd, Nat.reduceMul, Nat.reduceLeDiff, Nat.reduceLT, Int.reduceLT, Int.reduceLE, Int.reduceEq, Int.reduceNeg, Int.reduceToNat, Nat.reducePow, reduceIte, reduceCtorEq, j11, j13, j14, t1, ew3, ewd8, z8])|((with_reducible first|refine jW ?hy ?_|refine jY ?hy ?_);case hy=>rfl)|((with_reducible first|refine jX ?hy ?_|refine jZ ?hy ?_);case hy=>rfl)|((with_reducible refine jF ?hy ?_);case hy=>decide))
    refine pick_nat (n := 9) d8 (by omega) fun w hw1 hw2 => ?_
    have hw64 : w < 9 := hw2
    repeat' (first|(with_reducible first|refine jA ?_|(refine hK _ _ ?_;clear hK K)|refine jJ fun K hK=>?_|refine jK ?_|refine jL ?_|refine jM ?_|refine jN ?_|refine jO ?_|refine jP ?_|refine jQ ?_|(refine jB ?_;clear hK K)|(refine jC ?_;clear hK K)|refine jD ?_|refine jE ?_|refine jG ?_|refine jH ?_|refine jI ?_)|((with_reducible refine jR ?hq ?_);case hq=>rfl)|((first|(with_reducible first|refine jS fun K hK=>?_|refine jT ?_|refine jU ?_)|((with_reducible refine jV ?hy fun K hK=>?_);case hy=>rfl));simp only [go_sem, Nat.reduceEqDiff, Nat.reduceAdd, Nat.reduceMul, Nat.reduceLeDiff, Nat.reduceLT, Int.reduceLT, Int.reduceLE, Int.reduceEq, Int.reduceNeg, Int.reduceToNat, Nat.reducePow, reduceIte, reduceCtorEq, j11, j13, j14, ew3])|((with_reducible first|refine jW ?hy ?_|refine jY ?hy ?_);case hy=>rfl)|((with_reducible first|refine jX ?hy ?_|refine jZ ?hy ?_);case hy=>rfl)|((with_reducible refine jF ?hy ?_);case hy=>decide))
    refine m_link (u := i) (v := k) (id := 100 + (i : Int)) (w := (w : Nat)) hS1.m (by omega) (by omega) (okArg_of (by omega) (by omega) (by omega) (by omega)) (fun k x hk => by have := hid k x hk; omega) hself (hrt k hk) (Ne.symm hne) fun H2 T2 S2 hM2 hK2 hf2 hT2 => ?_
    have hS2 := hS1.op hM2 hf2 hT2
    repeat' (first|(with_reducible first|refine jA ?_|(refine hK _ _ ?_;clear hK K)|refine jJ fun K hK=>?_|refine jK ?_|refine jL ?_|refine jM ?_|refine jN ?_|refine jO ?_|refine jP ?_|refine jQ ?_|(refine jB ?_;clear hK K)|(refine jC ?_;clear hK K)|refine jD ?_|refine jE ?_|refine jG ?_|refine jH ?_|refine jI ?_)|((with_reducible refine jR ?hq ?_);case hq=>rfl)|((first|(with_reducible first|refine jS fun K hK=>?_|refine jT ?_|refine jU ?_)|((with_reducible refine jV ?hy fun K hK=>?_);case hy=>rfl));simp only [go_sem, Nat.reduceEqDiff, Nat.reduceAdd, Nat.reduceMul, Nat.reduceLeDiff, Nat.reduceLT, Int.reduceLT, Int.reduceLE, Int.reduceEq, Int.reduceNeg, Int.reduceToNat, Nat.reducePow, reduceIte, reduceCtorEq, z0, j13, ew2])|((with_reducible first|refine jW ?hy ?_|refine jY ?hy ?_);case hy=>rfl)|((with_reducible first|refine jX ?hy ?_|refine jZ ?hy ?_);case hy=>rfl)|((with_reducible refine jF ?hy ?_);case hy=>decide))
    refine loop_normal (m' := n - (i + 1)) (by omega) ⟨i + 1, T2, S2, rfl, by omega, hlt, hS2, hG.up (by omega) hK2 (.inl ⟨rfl, hk⟩), hK2.n.trans hn1, fun y x hy => ?_, rfl⟩
    obtain ⟨k', _, _, e'⟩ := hK2.ed
    rw [e'] at hy
    by_cases ey : y = k'
    ·rw [ey, setE_same] at hy
     obtain rfl := Option.some.inj hy
     simp only []; omega
    ·rw [setE_ne _ _ ey] at hy
     have := hid y x hy; omega
  by_cases hl1 : i - 1 < len
  ·obtain ⟨p, rfl, cz, hz1, hz2⟩ := (hin.frame hS1.fr) (i - 1) (by omega)
   simp only [hl1, decide_true]
   repeat' (first|(with_reducible first|refine jA ?_|(refine hK _ _ ?_;clear hK K)|refine jJ fun K hK=>?_|refine jK ?_|refine jL ?_|refine jM ?_|refine jN ?_|refine jO ?_|refine jP ?_|refine jQ ?_|(refine jB ?_;clear hK K)|(refine jC ?_;clear hK K)|refine jD ?_|refine jE ?_|refine jG ?_|refine jH ?_|refine jI ?_)|((with_reducible refine jR ?hq ?_);case hq=>rfl)|((first|(with_reducible first|refine jS fun K hK=>?_|refine jT ?_|refine jU ?_)|((with_reducible refine jV ?hy fun K hK=>?_);case hy=>rfl));simp only [go_sem, Nat.reduceEqDiff, Nat.reduceAdd, Nat.reduceMul, Nat.reduceLeDiff, Nat.reduceLT, Int.reduceLT, Int.reduceLE, Int.reduceEq, Int.reduceNeg, Int.reduceToNat, Nat.reducePow, reduceIte, reduceCtorEq, i0, i13, ew, hl1, cz])|((with_reducible first|refine jW ?hy ?_|refine jY ?hy ?_);case hy=>rfl)|((with_reducible first|refine jX ?hy ?_|refine jZ ?hy ?_);case hy=>rfl)|((with_reducible refine jF ?hy ?_);case hy=>decide))
   refine tail _ _ ?_ ?_ ?_ rfl ⟨hz1, hz2⟩
   ·exact i10
   ·exact i11
   ·exact i13
  ·simp only [hl1, decide_false]
   repeat' (first|(with_reducible first|refine jA ?_|(refine hK _ _ ?_;clear hK K)|refine jJ fun K hK=>?_|refine jK ?_|refine jL ?_|refine jM ?_|refine jN ?_|refine jO ?_|refine jP ?_|refine jQ ?_|(refine jB ?_;clear hK K)|(refine jC ?_;clear hK K)|refine jD ?_|refine jE ?_|refine jG ?_|refine jH ?_|refine jI ?_)|((with_reducible refine jR ?hq ?_);case hq=>rfl)|((first|(with_reducible first|refine jS fun K hK=>?_|refine jT ?_|refine jU ?_)|((with_reducible refine jV ?hy fun K hK=>?_);case hy=>rfl));simp only [go_sem, Nat.reduceEqDiff, Nat.reduceAdd, Nat.reduceMul, Nat.reduceLeDiff, Nat.reduceLT, Int.reduceLT, Int.reduceLE, Int.reduceEq, Int.reduceNeg, Int.reduceToNat, Nat.reducePow, reduceIte, reduceCtorEq])|((with_reducible first|refine jW ?hy ?_|refine jY ?hy ?_);case hy=>rfl)|((with_reducible first|refine jX ?hy ?_|refine jZ ?hy ?_);case hy=>rfl)|((with_reducible refine jF ?hy ?_);case hy=>decide))
   refine tail _ 0 ?_ ?_ ?_ rfl ⟨by decide, by decide⟩
   ·exact i10
   ·exact i11
   ·exact i13
 ·obtain rfl : i = n := by omega
  have t1 : (i < i) = False := by simp
  repeat' (first|(with_reducible first|refine jA ?_|(refine hK _ _ ?_;clear hK K)|refine jJ fun K hK=>?_|refine jK ?_|refine jL ?_|refine jM ?_|refine jN ?_|refine jO ?_|refine jP ?_|refine jQ ?_|(refine jB ?_;clear hK K)|(refine jC ?_;clear hK K)|refine jD ?_|refine jE ?_|refine jG ?_|refine jH ?_|refine jI ?_)|((with_reducible refine jR ?hq ?_);case hq=>rfl)|((first|(with_reducible first|refine jS fun K hK=>?_|refine jT ?_|refine jU ?_)|((with_reducible refine jV ?hy fun K hK=>?_);case hy=>rfl));simp only [go_sem, Nat.reduceEqDiff, Nat.reduceAdd, Nat.reduceMul, Nat.reduceLeDiff, Nat.reduceLT, Int.reduceLT, Int.reduceLE, Int.reduceEq, Int.reduceNeg, Int.reduceToNat, Nat.reducePow, reduceIte, reduceCtorEq, i10, i13, t1])|((with_reducible first|refine jW ?hy ?_|refine jY ?hy ?_);case hy=>rfl)|((with_reducible first|refine jX ?hy ?_|refine jZ ?hy ?_);case hy=>rfl)|((with_reducible refine jF ?hy ?_);case hy=>decide))
  exact hQ _ _ _ _ keep.1 keep.2.1 keep.2.2 i10 i11 hS1 hG hn1
theorem evC {B C : Option Nat} {va vb : Value} {xs : List Int} (hx : IR H B va xs) (hy : IR H C vb xs.reverse) (hl : xs.length ≤ 200) (e19 : e 19 = va) (e26 : e 26 = vb) (e32 : e 32 = .int .i64 0)
  (hQ : ∀ e', e' 1 = e 1 → e' 2 = e 2 → e' 19 = e 19 → e' 22 = e 22 → Z .normal e' H) :
  codeX Try.prog [35] (loopAt Try.f4.body 1) (blockQ 2 Z) e H := by
 refine x_loop (fun m e' H' => ∃ i : Nat, H' = H ∧ e' 32 = .int .i64 (i : Nat) ∧ i ≤ xs.length ∧ m = xs.length - i) xs.length ⟨0, rfl, e32, Nat.zero_le _, rfl⟩ ?_
 rintro m e1 H1 ⟨i, rfl, i32, hi, rfl⟩ hoff
 have i19 := (hoff 19 rfl).trans e19
 have i26 := (hoff 26 rfl).trans e26
 have keep : e1 1 = e 1 ∧ e1 2 = e 2 ∧ e1 19 = e 19 ∧ e1 22 = e 22 := ⟨hoff 1 rfl, hoff 2 rfl, hoff 19 rfl, hoff 22 rfl⟩
 clear hoff
 obtain ⟨sa, sc, hsv⟩ := hx.slice
 subst hsv
 by_cases hlt : i < xs.length
 ·obtain ⟨y, hy1⟩ : ∃ y, xs[i]? = some y := ⟨_, List.getElem?_eq_getElem hlt⟩
  have hy2 : xs.reverse[xs.length - 1 - i]? = some y := by
   rw [List.getElem?_reverse (by omega), ← hy1]
   congr 1; omega
  obtain ⟨g, c, rfl, hv, cx⟩ := hx.read hy1
  obtain ⟨g', c', rfl, rfl, cy⟩ := hy.read hy2
  simp only [Value.slice.injEq] at hv
  obtain ⟨rfl, _, rfl⟩ := hv
  rw [List.length_reverse] at i26
  have ew : IntKind.i64.wrap ((xs.length : Int) - 1) = ((xs.length - 1 : Nat) : Int) := by rw [wrap_i64] <;> omega
  have ew2 : IntKind.i64.wrap (((xs.length - 1 : Nat) : Int) - (i : Int)) = ((xs.length - 1 - i : Nat) : Int) := by rw [wrap_i64] <;> omega
  have ew3 : IntKind.i64.wrap ((i : Int) + 1) = ((i + 1 : Nat) : Int) := by rw [wrap_i64] <;> omega
  have hlt2 : xs.length - 1 - i < xs.length := by omega
  have t1 : ((y : Int) != (y : Int)) = false := by simp
  repeat' (first|(with_reducible first|refine jA ?_|(refine hK _ _ ?_;clear hK K)|refine jJ fun K hK=>?_|refine jK ?_|refine jL ?_|refine jM ?_|refine jN ?_|refine jO ?_|refine jP ?_|refine jQ ?_|(refine jB ?_;clear hK K)|(refine jC ?_;clear hK K)|refine jD ?_|refine jE ?_|refine jG ?_|refine jH ?_|refine jI ?_)|((with_reducible refine jR ?hq ?_);case hq=>rfl)|((first|(with_reducible first|refine jS fun K hK=>?_|refine jT ?_|refine jU ?_)|((with_reducible refine jV ?hy fun K hK=>?_);case hy=>rfl));simp only [go_sem, Nat.reduceEqDiff, Nat.reduceAdd, Nat.reduceMul, Nat.reduceLeDiff, Nat.reduceLT, Int.reduceLT, Int.reduceLE, Int.reduceEq, Int.reduceNeg, Int.reduceToNat, Nat.reducePow, reduceIte, reduceCtorEq, i19, i26, i32, hlt, hlt2, cx, cy, t1, ew, ew2, ew3])|((with_reducible first|refine jW ?hy ?_|refine jY ?hy ?_);case hy=>rfl)|((with_reducible first|refine jX ?hy ?_|refine jZ ?hy ?_);case hy=>rfl)|((with_reducible refine jF ?hy ?_);case hy=>decide))
  exact loop_normal (m' := xs.length - (i + 1)) (by omega) ⟨i + 1, rfl, rfl, hlt, rfl⟩
 ·obtain rfl : i = xs.length := by omega
  have t1 : (xs.length < xs.length) = False := by simp
  repeat' (first|(with_reducible first|refine jA ?_|(refine hK _ _ ?_;clear hK K)|refine jJ fun K hK=>?_|refine jK ?_|refine jL ?_|refine jM ?_|refine jN ?_|refine jO ?_|refine jP ?_|refine jQ ?_|(refine jB ?_;clear hK K)|(refine jC ?_;clear hK K)|refine jD ?_|refine jE ?_|refine jG ?_|refine jH ?_|refine jI ?_)|((with_reducible refine jR ?hq ?_);case hq=>rfl)|((first|(with_reducible first|refine jS fun K hK=>?_|refine jT ?_|refine jU ?_)|((with_reducible refine jV ?hy fun K hK=>?_);case hy=>rfl));simp only [go_sem, Nat.reduceEqDiff, Nat.reduceAdd, Nat.reduceMul, Nat.reduceLeDiff, Nat.reduceLT, Int.reduceLT, Int.reduceLE, Int.reduceEq, Int.reduceNeg, Int.reduceToNat, Nat.reducePow, reduceIte, reduceCtorEq, i19, i32, t1])|((with_reducible first|refine jW ?hy ?_|refine jY ?hy ?_);case hy=>rfl)|((with_reducible first|refine jX ?hy ?_|refine jZ ?hy ?_);case hy=>rfl)|((with_reducible refine jF ?hy ?_);case hy=>decide))
  exact hQ _ keep.1 keep.2.1 keep.2.2.1 keep.2.2.2
end
end Go.Proofs.Ytoplhfhjokjbiaa
