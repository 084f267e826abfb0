/-
  Linked trees in memory: Path; what Path and Most answer where there is no way.
  Linked trees: roots behind a link; trees that grow vertex by vertex; Link told by roots.
  The helpers of a law's package: pick, same.
  Linked trees: simple ways one by one; the law's helpers; awake.
  Linked trees as the document keeps them: below whom each vertex hangs, and by which edge; what each call does to that; the way between two vertices. Plain.
  The document's linked trees in memory; who is there; roots; which vertex hangs by an edge; a vertex becomes the root.
  The document's linked trees: a vertex becomes the root; Link, Cut, Evert, Root, Same.
-/
import Derived.Test.YtoplhfhjokjbiaaG3
import Derived.Test.YtoplhfhjokjbiaaHpV
import Derived.Test.YtoplhfhjokjbiaaTabM
import Derived.Test.YtoplhfhjokjbiaaG2
namespace Go.Proofs.Ytoplhfhjokjbiaa
open Go Go.Hp Go.Li
set_option linter.all false
set_option maxRecDepth 100000
set_option maxHeartbeats 1600000
section
variable {H H' : Heap} {t g c len r : Nat} {Bf : Option Nat} {vf : Value} {S : Ls} {N N' : Nodes} {rows rows' : List (List Nat)} {ids : Int → Option Nat} {fr : List Nat} {T : Nat → Prop} {K : Value → Heap → Prop}
theorem m_path {u v r0 : Nat} (h : LtM H t T S) (hu : u < S.n) (hv : v < S.n) (hru : RootOf S.par (u + 1) r0) (hrv : RootOf S.par (v + 1) r0)
  (fin : ∀ H' P B w, SP S.par (u + 1) (v + 1) P → IR H' B w (outI S.E P) → (∀ b, B = some b → H.size ≤ b) → LtM H' t T S → Fr T H H' → K (.tuple #[w, .int .i64 0]) H') :
  CallsH Try.prog 11 #[.pointer (some ⟨t, 0, none⟩), .int .i64 (u : Nat), .int .i64 (v : Nat)] H K := by
 obtain ⟨g, c, len, r, Bf, vf, N, rows, ids, fr, h, e⟩ := h
 have hn := h.ok.n64
 have ew : IntKind.i64.wrap ((u : Int) + 1) = ((u + 1 : Nat) : Int) := by rw [wrap_i64] <;> omega
 have ew2 : IntKind.i64.wrap ((v : Int) + 1) = ((v + 1 : Nat) : Int) := by rw [wrap_i64] <;> omega
 refine call11 (by simp) ?_
 simp only [Try.f11, Option.getD_some]
 repeat' (first|(with_reducible first|refine jA ?_|(refine hK _ _ ?_;clear hK K)|refine jJ fun K hK=>?_|refine jK ?_|refine jL ?_|refine jM ?_|refine jN ?_|refine jO ?_|refine jP ?_|refine jQ ?_|(refine jB ?_;clear hK K)|(refine jC ?_;clear hK K)|refine jD ?_|refine jE ?_|refine jG ?_|refine jH ?_|refine jI ?_)|((with_reducible refine jR ?hq ?_);case hq=>rfl)|((first|(with_reducible first|refine jS fun K hK=>?_|refine jT ?_|refine jU ?_)|((with_reducible refine jV ?hy fun K hK=>?_);case hy=>rfl));simp only [go_sem, Nat.reduceEqDiff, Nat.reduceAdd, Nat.reduceMul, Nat.reduceLeDiff, Nat.reduceLT, Int.reduceLT, Int.reduceLE, Int.reduceEq, Int.reduceNeg, Int.reduceToNat, Nat.reducePow, reduceIte, reduceCtorEq])|((with_reducible first|refine jW ?hy ?_|refine jY ?hy ?_);case hy=>rfl)|((with_reducible first|refine jX ?hy ?_|refine jZ ?hy ?_);case hy=>rfl)|((with_reducible refine jF ?hy ?_);case hy=>decide))
 generalize eH1 : H.push _ = H1
 have f1 : Fr (fun _ => False) H H1 := by rw [← eH1]; exact (Fr.refl _ _).push _
 have s1 : H1.size = H.size + 1 := by rw [← eH1]; simp
 have q1 : Blk H1 H.size [.pointer (some ⟨t, 0, none⟩)] := by rw [← eH1]; exact Blk.new H [.pointer (some ⟨t, 0, none⟩)] _
 have h2 := h.grow f1
 have c1 := q1.cellOf (i := 0) rfl
 clear eH1
 simp only [go_sem, Nat.reduceEqDiff, Nat.reduceAdd, Nat.reduceMul, Nat.reduceLeDiff, Nat.reduceLT, Int.reduceLT, Int.reduceLE, Int.reduceEq, Int.reduceNeg, Int.reduceToNat, Nat.reducePow, reduceIte, reduceCtorEq, c1]
 repeat' (first|(with_reducible first|refine jA ?_|(refine hK _ _ ?_;clear hK K)|refine jJ fun K hK=>?_|refine jK ?_|refine jL ?_|refine jM ?_|refine jN ?_|refine jO ?_|refine jP ?_|refine jQ ?_|(refine jB ?_;clear hK K)|(refine jC ?_;clear hK K)|refine jD ?_|refine jE ?_|refine jG ?_|refine jH ?_|refine jI ?_)|((with_reducible refine jR ?hq ?_);case hq=>rfl)|((first|(with_reducible first|refine jS fun K hK=>?_|refine jT ?_|refine jU ?_)|((with_reducible refine jV ?hy fun K hK=>?_);case hy=>rfl));simp only [go_sem, Nat.reduceEqDiff, Nat.reduceAdd, Nat.reduceMul, Nat.reduceLeDiff, Nat.reduceLT, Int.reduceLT, Int.reduceLE, Int.reduceEq, Int.reduceNeg, Int.reduceToNat, Nat.reducePow, reduceIte, reduceCtorEq])|((with_reducible first|refine jW ?hy ?_|refine jY ?hy ?_);case hy=>rfl)|((with_reducible first|refine jX ?hy ?_|refine jZ ?hy ?_);case hy=>rfl)|((with_reducible refine jF ?hy ?_);case hy=>decide))
 refine hasA2 h2 fun H3 h3 hf3 => ?_
 rw [inB_of hu, inB_of hv]
 have c3 := (hf3.cell (a := ⟨H.size, 0, none⟩) (hcell_lt c1) id).trans c1
 repeat' (first|(with_reducible first|refine jA ?_|(refine hK _ _ ?_;clear hK K)|refine jJ fun K hK=>?_|refine jK ?_|refine jL ?_|refine jM ?_|refine jN ?_|refine jO ?_|refine jP ?_|refine jQ ?_|(refine jB ?_;clear hK K)|(refine jC ?_;clear hK K)|refine jD ?_|refine jE ?_|refine jG ?_|refine jH ?_|refine jI ?_)|((with_reducible refine jR ?hq ?_);case hq=>rfl)|((first|(with_reducible first|refine jS fun K hK=>?_|refine jT ?_|refine jU ?_)|((with_reducible refine jV ?hy fun K hK=>?_);case hy=>rfl));simp only [go_sem, Nat.reduceEqDiff, Nat.reduceAdd, Nat.reduceMul, Nat.reduceLeDiff, Nat.reduceLT, Int.reduceLT, Int.reduceLE, Int.reduceEq, Int.reduceNeg, Int.reduceToNat, Nat.reducePow, reduceIte, reduceCtorEq, Bool.and_self, c3, ew, ew2])|((with_reducible first|refine jW ?hy ?_|refine jY ?hy ?_);case hy=>rfl)|((with_reducible first|refine jX ?hy ?_|refine jZ ?hy ?_);case hy=>rfl)|((with_reducible refine jF ?hy ?_);case hy=>decide))
 refine same_ok h3.na h3.lc h3.lt (Ls.vtx hu) (Ls.vtx hv) hru hrv fun H4 N4 rows4 hN4 hL4 hf4 => ?_
 rw [decide_eq_true rfl]
 have hg := h3.na.lt
 have hlH := h.na.lt
 have h4 := h3.keep hN4 hL4 hf4
 have c4 := (hf4.cell (a := ⟨H.size, 0, none⟩) (hcell_lt c3) (by show ¬ H.size = g; omega)).trans c3
 have l4 := hcell_lt c4
 simp only [] at l4
 repeat' (first|(with_reducible first|refine jA ?_|(refine hK _ _ ?_;clear hK K)|refine jJ fun K hK=>?_|refine jK ?_|refine jL ?_|refine jM ?_|refine jN ?_|refine jO ?_|refine jP ?_|refine jQ ?_|(refine jB ?_;clear hK K)|(refine jC ?_;clear hK K)|refine jD ?_|refine jE ?_|refine jG ?_|refine jH ?_|refine jI ?_)|((with_reducible refine jR ?hq ?_);case hq=>rfl)|((first|(with_reducible first|refine jS fun K hK=>?_|refine jT ?_|refine jU ?_)|((with_reducible refine jV ?hy fun K hK=>?_);case hy=>rfl));simp only [go_sem, Nat.reduceEqDiff, Nat.reduceAdd, Nat.reduceMul, Nat.reduceLeDiff, Nat.reduceLT, Int.reduceLT, Int.reduceLE, Int.reduceEq, Int.reduceNeg, Int.reduceToNat, Nat.reducePow, reduceIte, reduceCtorEq])|((with_reducible first|refine jW ?hy ?_|refine jY ?hy ?_);case hy=>rfl)|((with_reducible first|refine jX ?hy ?_|refine jZ ?hy ?_);case hy=>rfl)|((with_reducible refine jF ?hy ?_);case hy=>decide))
 generalize eH5 : H4.push _ = H5
 have f5 : Fr (fun _ => False) H4 H5 := by rw [← eH5]; exact (Fr.refl _ _).push _
 have s5 : H5.size = H4.size + 1 := by rw [← eH5]; simp
 have d5 : Blk H5 H4.size [.slice none 0 0] := by rw [← eH5]; exact Blk.new H4 [.slice none 0 0] _
 clear eH5
 have h5 := h4.grow f5
 have c5 := (f5.cell (a := ⟨H.size, 0, none⟩) (hcell_lt c4) id).trans c4
 have hg4 := h4.na.lt
 simp only [go_sem, Nat.reduceEqDiff, Nat.reduceAdd, Nat.reduceMul, Nat.reduceLeDiff, Nat.reduceLT, Int.reduceLT, Int.reduceLE, Int.reduceEq, Int.reduceNeg, Int.reduceToNat, Nat.reducePow, reduceIte, reduceCtorEq, c5]
 repeat' (first|(with_reducible first|refine jA ?_|(refine hK _ _ ?_;clear hK K)|refine jJ fun K hK=>?_|refine jK ?_|refine jL ?_|refine jM ?_|refine jN ?_|refine jO ?_|refine jP ?_|refine jQ ?_|(refine jB ?_;clear hK K)|(refine jC ?_;clear hK K)|refine jD ?_|refine jE ?_|refine jG ?_|refine jH ?_|refine jI ?_)|((with_reducible refine jR ?hq ?_);case hq=>rfl)|((first|(with_reducible first|refine jS fun K hK=>?_|refine jT ?_|refine jU ?_)|((with_reducible refine jV ?hy fun K hK=>?_);case hy=>rfl));simp only [go_sem, Nat.reduceEqDiff, Nat.reduceAdd, Nat.reduceMul, Nat.reduceLeDiff, Nat.reduceLT, Int.reduceLT, Int.reduceLE, Int.reduceEq, Int.reduceNeg, Int.reduceToNat, Nat.reducePow, reduceIte, reduceCtorEq])|((with_reducible first|refine jW ?hy ?_|refine jY ?hy ?_);case hy=>rfl)|((with_reducible first|refine jX ?hy ?_|refine jZ ?hy ?_);case hy=>rfl)|((with_reducible refine jF ?hy ?_);case hy=>decide))
 refine way_ok (Q := fun b => b = H4.size) (PO := fun X => ∃ P w B, SP S.par (u + 1) (v + 1) P ∧ Blk X H4.size [w] ∧ IR X B w (outI S.E P) ∧ ∀ b, B = some b → H5.size ≤ b) h5 hu hv hru hrv ?_ ?_ ?_
 ·rintro X1 X2 ⟨P, w, B, p1, p2, p3, p4⟩ hf
  exact ⟨P, w, B, p1, p2.frame hf (by omega), p3.frame hf fun b hb (eb : b = g) => by have := p4 b hb; omega, p4⟩
 ·intro H6 N6 par1 a R K' hN6 hA6 hP hf6 hk
  have s6 := hf6.size
  refine path1_ok hN6 hA6 h5.lt (d5.frame hf6 (by omega)) (by omega) (by omega) ((hf6.cell (a := ⟨H.size, 0, none⟩) (hcell_lt c5) (by show ¬ H.size = g; omega)).trans c5) (by omega) (by omega) fun H7 N7 B w hN7 hL7 hd7 hw7 hB7 hf7 => ?_
  exact hk _ _ _ hN7 hL7 hf7 ⟨_, w, B, hP, hd7, hw7, fun b hb => by have := hB7 b hb; omega⟩
 ·rintro H6 N6 rows6 hN6 hL6 hf6 ⟨P, w, B, hP, hd6, hw6, hB6⟩
  have hbel := h4.below
  have h6 : LtAt H6 t g c len r Bf vf S N6 rows6 ids fr := h5.keepQ hN6 hL6 hf6 fun b hb hx => by
   rcases hx with e1 | e1
   ·rcases hb with e2 | e2 | e2
    ·exact h.na.ne (e2.symm.trans e1)
    ·exact h.ap.2.1 (e1.symm.trans e2)
    ·exact h.ap.2.2.2.1 (by rw [e2, e1])
   ·have := hbel b (hb.imp id fun h => .inr h)
    omega
  obtain ⟨wa, wc, hwv⟩ := hw6.slice
  subst hwv
  have r0 := hd6.cellOf (i := 0) rfl
  repeat' (first|(with_reducible first|refine jA ?_|(refine hK _ _ ?_;clear hK K)|refine jJ fun K hK=>?_|refine jK ?_|refine jL ?_|refine jM ?_|refine jN ?_|refine jO ?_|refine jP ?_|refine jQ ?_|(refine jB ?_;clear hK K)|(refine jC ?_;clear hK K)|refine jD ?_|refine jE ?_|refine jG ?_|refine jH ?_|refine jI ?_)|((with_reducible refine jR ?hq ?_);case hq=>rfl)|((first|(with_reducible first|refine jS fun K hK=>?_|refine jT ?_|refine jU ?_)|((with_reducible refine jV ?hy fun K hK=>?_);case hy=>rfl));simp only [go_sem, Nat.reduceEqDiff, Nat.reduceAdd, Nat.reduceMul, Nat.reduceLeDiff, Nat.reduceLT, Int.reduceLT, Int.reduceLE, Int.reduceEq, Int.reduceNeg, Int.reduceToNat, Nat.reducePow, reduceIte, reduceCtorEq, r0])|((with_reducible first|refine jW ?hy ?_|refine jY ?hy ?_);case hy=>rfl)|((with_reducible first|refine jX ?hy ?_|refine jZ ?hy ?_);case hy=>rfl)|((with_reducible refine jF ?hy ?_);case hy=>decide))
  refine fin _ P B _ hP hw6 (fun b hb => by have := hB6 b hb; omega) (h6.mT e) ?_
  have g04 : Fr (· = g) H H4 := ((f1.trans hf3).mono fun _ _ h => h.elim).trans hf4
  refine fr_g ((e g).2 (.inr (.inl rfl))) ((g04.trans (f5.mono fun _ _ h => h.elim)).trans' hf6 fun b hb hx => ?_)
  rcases hx with hx | hx
  ·exact hx
  ·omega
theorem m_path_bad {u v : Int} (h : LtM H t T S) (hv : (inB S.n u && inB S.n v) = false) (fin : ∀ H', LtM H' t T S → Fr T H H' → K (.tuple #[.slice none 0 0, .int .i64 50]) H') :
  CallsH Try.prog 11 #[.pointer (some ⟨t, 0, none⟩), .int .i64 u, .int .i64 v] H K := by
 obtain ⟨g, c, len, r, Bf, vf, N, rows, ids, fr, h, e⟩ := h
 refine call11 (by simp) ?_
 simp only [Try.f11, Option.getD_some]
 repeat' (first|(with_reducible first|refine jA ?_|(refine hK _ _ ?_;clear hK K)|refine jJ fun K hK=>?_|refine jK ?_|refine jL ?_|refine jM ?_|refine jN ?_|refine jO ?_|refine jP ?_|refine jQ ?_|(refine jB ?_;clear hK K)|(refine jC ?_;clear hK K)|refine jD ?_|refine jE ?_|refine jG ?_|refine jH ?_|refine jI ?_)|((with_reducible refine jR ?hq ?_);case hq=>rfl)|((first|(with_reducible first|refine jS fun K hK=>?_|refine jT ?_|refine jU ?_)|((with_reducible refine jV ?hy fun K hK=>?_);case hy=>rfl));simp only [go_sem, Nat.reduceEqDiff, Nat.reduceAdd, Nat.reduceMul, Nat.reduceLeDiff, Nat.reduceLT, Int.reduceLT, Int.reduceLE, Int.reduceEq, Int.reduceNeg, Int.reduceToNat, Nat.reducePow, reduceIte, reduceCtorEq])|((with_reducible first|refine jW ?hy ?_|refine jY ?hy ?_);case hy=>rfl)|((with_reducible first|refine jX ?hy ?_|refine jZ ?hy ?_);case hy=>rfl)|((with_reducible refine jF ?hy ?_);case hy=>decide))
 generalize eH1 : H.push _ = H1
 have f1 : Fr (fun _ => False) H H1 := by rw [← eH1]; exact (Fr.refl _ _).push _
 have q1 : Blk H1 H.size [.pointer (some ⟨t, 0, none⟩)] := by rw [← eH1]; exact Blk.new H [.pointer (some ⟨t, 0, none⟩)] _
 have h2 := h.grow f1
 have c1 := q1.cellOf (i := 0) rfl
 clear eH1
 simp only [go_sem, Nat.reduceEqDiff, Nat.reduceAdd, Nat.reduceMul, Nat.reduceLeDiff, Nat.reduceLT, Int.reduceLT, Int.reduceLE, Int.reduceEq, Int.reduceNeg, Int.reduceToNat, Nat.reducePow, reduceIte, reduceCtorEq, c1]
 repeat' (first|(with_reducible first|refine jA ?_|(refine hK _ _ ?_;clear hK K)|refine jJ fun K hK=>?_|refine jK ?_|refine jL ?_|refine jM ?_|refine jN ?_|refine jO ?_|refine jP ?_|refine jQ ?_|(refine jB ?_;clear hK K)|(refine jC ?_;clear hK K)|refine jD ?_|refine jE ?_|refine jG ?_|refine jH ?_|refine jI ?_)|((with_reducible refine jR ?hq ?_);case hq=>rfl)|((first|(with_reducible first|refine jS fun K hK=>?_|refine jT ?_|refine jU ?_)|((with_reducible refine jV ?hy fun K hK=>?_);case hy=>rfl));simp only [go_sem, Nat.reduceEqDiff, Nat.reduceAdd, Nat.reduceMul, Nat.reduceLeDiff, Nat.reduceLT, Int.reduceLT, Int.reduceLE, Int.reduceEq, Int.reduceNeg, Int.reduceToNat, Nat.reducePow, reduceIte, reduceCtorEq])|((with_reducible first|refine jW ?hy ?_|refine jY ?hy ?_);case hy=>rfl)|((with_reducible first|refine jX ?hy ?_|refine jZ ?hy ?_);case hy=>rfl)|((with_reducible refine jF ?hy ?_);case hy=>decide))
 refine hasA2 h2 fun H3 h3 hf3 => ?_
 rw [hv]
 repeat' (first|(with_reducible first|refine jA ?_|(refine hK _ _ ?_;clear hK K)|refine jJ fun K hK=>?_|refine jK ?_|refine jL ?_|refine jM ?_|refine jN ?_|refine jO ?_|refine jP ?_|refine jQ ?_|(refine jB ?_;clear hK K)|(refine jC ?_;clear hK K)|refine jD ?_|refine jE ?_|refine jG ?_|refine jH ?_|refine jI ?_)|((with_reducible refine jR ?hq ?_);case hq=>rfl)|((first|(with_reducible first|refine jS fun K hK=>?_|refine jT ?_|refine jU ?_)|((with_reducible refine jV ?hy fun K hK=>?_);case hy=>rfl));simp only [go_sem, Nat.reduceEqDiff, Nat.reduceAdd, Nat.reduceMul, Nat.reduceLeDiff, Nat.reduceLT, Int.reduceLT, Int.reduceLE, Int.reduceEq, Int.reduceNeg, Int.reduceToNat, Nat.reducePow, reduceIte, reduceCtorEq])|((with_reducible first|refine jW ?hy ?_|refine jY ?hy ?_);case hy=>rfl)|((with_reducible first|refine jX ?hy ?_|refine jZ ?hy ?_);case hy=>rfl)|((with_reducible refine jF ?hy ?_);case hy=>decide))
 exact fin _ (h3.mT e) ((f1.trans hf3).mono fun _ _ h => h.elim)
theorem m_path_none {u v ru rv : Nat} (h : LtM H t T S) (hu : u < S.n) (hv : v < S.n) (hru : RootOf S.par (u + 1) ru) (hrv : RootOf S.par (v + 1) rv) (hne : ru ≠ rv) (fin : ∀ H', LtM H' t T S → Fr T H H' → K (.tuple #[.slice none 0 0, .int .i64 54]) H') :
  CallsH Try.prog 11 #[.pointer (some ⟨t, 0, none⟩), .int .i64 (u : Nat), .int .i64 (v : Nat)] H K := by
 obtain ⟨g, c, len, r, Bf, vf, N, rows, ids, fr, h, e⟩ := h
 have hn := h.ok.n64
 have ew : IntKind.i64.wrap ((u : Int) + 1) = ((u + 1 : Nat) : Int) := by rw [wrap_i64] <;> omega
 have ew2 : IntKind.i64.wrap ((v : Int) + 1) = ((v + 1 : Nat) : Int) := by rw [wrap_i64] <;> omega
 refine call11 (by simp) ?_
 simp only [Try.f11, Option.getD_some]
 repeat' (first|(with_reducible first|refine jA ?_|(refine hK _ _ ?_;clear hK K)|refine jJ fun K hK=>?_|refine jK ?_|refine jL ?_|refine jM ?_|refine jN ?_|refine jO ?_|refine jP ?_|refine jQ ?_|(refine jB ?_;clear hK K)|(refine jC ?_;clear hK K)|refine jD ?_|refine jE ?_|refine jG ?_|refine jH ?_|refine jI ?_)|((with_reducible refine jR ?hq ?_);case hq=>rfl)|((first|(with_reducible first|refine jS fun K hK=>?_|refine jT ?_|refine jU ?_)|((with_reducible refine jV ?hy fun K hK=>?_);case hy=>rfl));simp only [go_sem, Nat.reduceEqDiff, Nat.reduceAdd, Nat.reduceMul, Nat.reduceLeDiff, Nat.reduceLT, Int.reduceLT, Int.reduceLE, Int.reduceEq, Int.reduceNeg, Int.reduceToNat, Nat.reducePow, reduceIte, reduceCtorEq])|((with_reducible first|refine jW ?hy ?_|refine jY ?hy ?_);case hy=>rfl)|((with_reducible first|refine jX ?hy ?_|refine jZ ?hy ?_);case hy=>rfl)|((with_reducible refine jF ?hy ?_);case hy=>decide))
 generalize eH1 : H.push _ = H1
 have f1 : Fr (fun _ => False) H H1 := by rw [← eH1]; exact (Fr.refl _ _).push _
 have s1 : H1.size = H.size + 1 := by rw [← eH1]; simp
 have q1 : Blk H1 H.size [.pointer (some ⟨t, 0, none⟩)] := by rw [← eH1]; exact Blk.new H [.pointer (some ⟨t, 0, none⟩)] _
 have h2 := h.grow f1
 have c1 := q1.cellOf (i := 0) rfl
 clear eH1
 simp only [go_sem, Nat.reduceEqDiff, Nat.reduceAdd, Nat.reduceMul, Nat.reduceLeDiff, Nat.reduceLT, Int.reduceLT, Int.reduceLE, Int.reduceEq, Int.reduceNeg, Int.reduceToNat, Nat.reducePow, reduceIte, reduceCtorEq, c1]
 repeat' (first|(with_reducible first|refine jA ?_|(refine hK _ _ ?_;clear hK K)|refine jJ fun K hK=>?_|refine jK ?_|refine jL ?_|refine jM ?_|refine jN ?_|refine jO ?_|refine jP ?_|refine jQ ?_|(refine jB ?_;clear hK K)|(refine jC ?_;clear hK K)|refine jD ?_|refine jE ?_|refine jG ?_|refine jH ?_|refine jI ?_)|((with_reducible refine jR ?hq ?_);case hq=>rfl)|((first|(with_reducible first|refine jS fun K hK=>?_|refine jT ?_|refine jU ?_)|((with_reducible refine jV ?hy fun K hK=>?_);case hy=>rfl));simp only [go_sem, Nat.reduceEqDiff, Nat.reduceAdd, Nat.reduceMul, Nat.reduceLeDiff, Nat.reduceLT, Int.reduceLT, Int.reduceLE, Int.reduceEq, Int.reduceNeg, Int.reduceToNat, Nat.reducePow, reduceIte, reduceCtorEq])|((with_reducible first|refine jW ?hy ?_|refine jY ?hy ?_);case hy=>rfl)|((with_reducible first|refine jX ?hy ?_|refine jZ ?hy ?_);case hy=>rfl)|((with_reducible refine jF ?hy ?_);case hy=>decide))
 refine hasA2 h2 fun H3 h3 hf3 => ?_
 rw [inB_of hu, inB_of hv]
 have c3 := (hf3.cell (a := ⟨H.size, 0, none⟩) (hcell_lt c1) id).trans c1
 repeat' (first|(with_reducible first|refine jA ?_|(refine hK _ _ ?_;clear hK K)|refine jJ fun K hK=>?_|refine jK ?_|refine jL ?_|refine jM ?_|refine jN ?_|refine jO ?_|refine jP ?_|refine jQ ?_|(refine jB ?_;clear hK K)|(refine jC ?_;clear hK K)|refine jD ?_|refine jE ?_|refine jG ?_|refine jH ?_|refine jI ?_)|((with_reducible refine jR ?hq ?_);case hq=>rfl)|((first|(with_reducible first|refine jS fun K hK=>?_|refine jT ?_|refine jU ?_)|((with_reducible refine jV ?hy fun K hK=>?_);case hy=>rfl));simp only [go_sem, Nat.reduceEqDiff, Nat.reduceAdd, Nat.reduceMul, Nat.reduceLeDiff, Nat.reduceLT, Int.reduceLT, Int.reduceLE, Int.reduceEq, Int.reduceNeg, Int.reduceToNat, Nat.reducePow, reduceIte, reduceCtorEq, Bool.and_self, c3, ew, ew2])|((with_reducible first|refine jW ?hy ?_|refine jY ?hy ?_);case hy=>rfl)|((with_reducible first|refine jX ?hy ?_|refine jZ ?hy ?_);case hy=>rfl)|((with_reducible refine jF ?hy ?_);case hy=>decide))
 refine same_ok h3.na h3.lc h3.lt (Ls.vtx hu) (Ls.vtx hv) hru hrv fun H4 N4 rows4 hN4 hL4 hf4 => ?_
 rw [decide_eq_false hne]
 have h4 := h3.keep hN4 hL4 hf4
 repeat' (first|(with_reducible first|refine jA ?_|(refine hK _ _ ?_;clear hK K)|refine jJ fun K hK=>?_|refine jK ?_|refine jL ?_|refine jM ?_|refine jN ?_|refine jO ?_|refine jP ?_|refine jQ ?_|(refine jB ?_;clear hK K)|(refine jC ?_;clear hK K)|refine jD ?_|refine jE ?_|refine jG ?_|refine jH ?_|refine jI ?_)|((with_reducible refine jR ?hq ?_);case hq=>rfl)|((first|(with_reducible first|refine jS fun K hK=>?_|refine jT ?_|refine jU ?_)|((with_reducible refine jV ?hy fun K hK=>?_);case hy=>rfl));simp only [go_sem, Nat.reduceEqDiff, Nat.reduceAdd, Nat.reduceMul, Nat.reduceLeDiff, Nat.reduceLT, Int.reduceLT, Int.reduceLE, Int.reduceEq, Int.reduceNeg, Int.reduceToNat, Nat.reducePow, reduceIte, reduceCtorEq])|((with_reducible first|refine jW ?hy ?_|refine jY ?hy ?_);case hy=>rfl)|((with_reducible first|refine jX ?hy ?_|refine jZ ?hy ?_);case hy=>rfl)|((with_reducible refine jF ?hy ?_);case hy=>decide))
 exact fin _ (h4.mT e) (fr_g ((e g).2 (.inr (.inl rfl))) (((f1.trans hf3).mono fun _ _ h => h.elim).trans hf4))
theorem m_most_bad {u v : Int} (h : LtM H t T S) (hv : (inB S.n u && inB S.n v) = false) (fin : ∀ H', LtM H' t T S → Fr T H H' → K (.tuple #[Ed.zero.val, .int .i64 50]) H') :
  CallsH Try.prog 12 #[.pointer (some ⟨t, 0, none⟩), .int .i64 u, .int .i64 v] H K := by
 obtain ⟨g, c, len, r, Bf, vf, N, rows, ids, fr, h, e⟩ := h
 refine call12 (by simp) ?_
 simp only [Try.f12, Option.getD_some]
 repeat' (first|(with_reducible first|refine jA ?_|(refine hK _ _ ?_;clear hK K)|refine jJ fun K hK=>?_|refine jK ?_|refine jL ?_|refine jM ?_|refine jN ?_|refine jO ?_|refine jP ?_|refine jQ ?_|(refine jB ?_;clear hK K)|(refine jC ?_;clear hK K)|refine jD ?_|refine jE ?_|refine jG ?_|refine jH ?_|refine jI ?_)|((with_reducible refine jR ?hq ?_);case hq=>rfl)|((first|(with_reducible first|refine jS fun K hK=>?_|refine jT ?_|refine jU ?_)|((with_reducible refine jV ?hy fun K hK=>?_);case hy=>rfl));simp only [go_sem, Nat.reduceEqDiff, Nat.reduceAdd, Nat.reduceMul, Nat.reduceLeDiff, Nat.reduceLT, Int.reduceLT, Int.reduceLE, Int.reduceEq, Int.reduceNeg, Int.reduceToNat, Nat.reducePow, reduceIte, reduceCtorEq, Array.size_push])|((with_reducible first|refine jW ?hy ?_|refine jY ?hy ?_);case hy=>rfl)|((with_reducible first|refine jX ?hy ?_|refine jZ ?hy ?_);case hy=>rfl)|((with_reducible refine jF ?hy ?_);case hy=>decide))
 generalize eH1 : H.push (.cells #[.pointer (some ⟨t, 0, none⟩)] _) = H1
 generalize eH2 : H1.push _ = H2
 have f1 : Fr (fun _ => False) H H1 := by rw [← eH1]; exact (Fr.refl _ _).push _
 have f2 : Fr (fun _ => False) H1 H2 := by rw [← eH2]; exact (Fr.refl _ _).push _
 have s1 : H1.size = H.size + 1 := by rw [← eH1]; simp
 have q1 : Blk H1 H.size [.pointer (some ⟨t, 0, none⟩)] := by rw [← eH1]; exact Blk.new H [.pointer (some ⟨t, 0, none⟩)] _
 have q2 : Blk H2 (H.size + 1) [.int .i64 0, .int .i64 0, .int .i64 0, .int .i64 0] := by rw [← s1, ← eH2]; exact Blk.new H1 [.int .i64 0, .int .i64 0, .int .i64 0, .int .i64 0] _
 have q12 := q1.frame f2 fun h => h
 have h2 := h.grow (f1.trans f2)
 have c1 := q12.cellOf (i := 0) rfl
 simp only [go_sem, Nat.reduceEqDiff, Nat.reduceAdd, Nat.reduceMul, Nat.reduceLeDiff, Nat.reduceLT, Int.reduceLT, Int.reduceLE, Int.reduceEq, Int.reduceNeg, Int.reduceToNat, Nat.reducePow, reduceIte, reduceCtorEq, c1]
 repeat' (first|(with_reducible first|refine jA ?_|(refine hK _ _ ?_;clear hK K)|refine jJ fun K hK=>?_|refine jK ?_|refine jL ?_|refine jM ?_|refine jN ?_|refine jO ?_|refine jP ?_|refine jQ ?_|(refine jB ?_;clear hK K)|(refine jC ?_;clear hK K)|refine jD ?_|refine jE ?_|refine jG ?_|refine jH ?_|refine jI ?_)|((with_reducible refine jR ?hq ?_);case hq=>rfl)|((first|(with_reducible first|refine jS fun K hK=>?_|refine jT ?_|refine jU ?_)|((with_reducible refine jV ?hy fun K hK=>?_);case hy=>rfl));simp only [go_sem, Nat.reduceEqDiff, Nat.reduceAdd, Nat.reduceMul, Nat.reduceLeDiff, Nat.reduceLT, Int.reduceLT, Int.reduceLE, Int.reduceEq, Int.reduceNeg, Int.reduceToNat, Nat.reducePow, reduceIte, reduceCtorEq])|((with_reducible first|refine jW ?hy ?_|refine jY ?hy ?_);case hy=>rfl)|((with_reducible first|refine jX ?hy ?_|refine jZ ?hy ?_);case hy=>rfl)|((with_reducible refine jF ?hy ?_);case hy=>decide))
 clear eH1 eH2
 refine hasA2 h2 fun H3 h3 hf3 => ?_
 rw [hv]
 have q23 := q2.frame hf3 id
 have o0 := q23.okW (i := 0) (by simp)
 have o1 := q23.okW (i := 1) (by simp)
 have o2 := q23.okW (i := 2) (by simp)
 have o3 := q23.okW (i := 3) (by simp)
 repeat' (first|(with_reducible first|refine jA ?_|(refine hK _ _ ?_;clear hK K)|refine jJ fun K hK=>?_|refine jK ?_|refine jL ?_|refine jM ?_|refine jN ?_|refine jO ?_|refine jP ?_|refine jQ ?_|(refine jB ?_;clear hK K)|(refine jC ?_;clear hK K)|refine jD ?_|refine jE ?_|refine jG ?_|refine jH ?_|refine jI ?_)|((with_reducible refine jR ?hq ?_);case hq=>rfl)|((first|(with_reducible first|refine jS fun K hK=>?_|refine jT ?_|refine jU ?_)|((with_reducible refine jV ?hy fun K hK=>?_);case hy=>rfl));simp only [go_sem, Nat.reduceEqDiff, Nat.reduceAdd, Nat.reduceMul, Nat.reduceLeDiff, Nat.reduceLT, Int.reduceLT, Int.reduceLE, Int.reduceEq, Int.reduceNeg, Int.reduceToNat, Nat.reducePow, reduceIte, reduceCtorEq, o0, o1, o2, o3, okW_hset, hcell_push, hcell_top, okW_push, okW_top, hcell_hset_ne, hcell_hset_off, hcell_hset_eq, okW_hset, hset_size, Array.size_push, Nat.lt_add_one, ne_add_one, add_one_ne, Nat.add_assoc, add_same, add_lt_same, Nat.reduceEqDiff, lt_add_k, add_k_ne, ne_add_k])|((with_reducible first|refine jW ?hy ?_|refine jY ?hy ?_);case hy=>rfl)|((with_reducible first|refine jX ?hy ?_|refine jZ ?hy ?_);case hy=>rfl)|((with_reducible refine jF ?hy ?_);case hy=>decide))
 obtain ⟨b7, f7⟩ := store4 q23 (.int .i64 0) (.int .i64 0) (.int .i64 0) (.int .i64 0)
 have hb0 := h.below
 refine fin _ ((h3.frame f7 fun b hb (e1 : b = H.size + 1) => ?_).mT e) ?_
 ·have := hb0 b hb
  omega
 ·exact (((f1.trans f2).trans hf3).trans' f7 fun b hb (e1 : b = H.size + 1) => by omega).mono fun _ _ h => h.elim
theorem m_most_self {u v : Nat} (h : LtM H t T S) (hu : u < S.n) (hv : v < S.n) (huv : u = v) (fin : ∀ H', LtM H' t T S → Fr T H H' → K (.tuple #[Ed.zero.val, .int .i64 54]) H') :
  CallsH Try.prog 12 #[.pointer (some ⟨t, 0, none⟩), .int .i64 (u : Nat), .int .i64 (v : Nat)] H K := by
 obtain ⟨g, c, len, r, Bf, vf, N, rows, ids, fr, h, e⟩ := h
 have hn := h.ok.n64
 have hlH := h.na.lt
 have ew : IntKind.i64.wrap ((u : Int) + 1) = ((u + 1 : Nat) : Int) := by rw [wrap_i64] <;> omega
 have ew2 : IntKind.i64.wrap ((v : Int) + 1) = ((v + 1 : Nat) : Int) := by rw [wrap_i64] <;> omega
 refine call12 (by simp) ?_
 simp only [Try.f12, Option.getD_some]
 repeat' (first|(with_reducible first|refine jA ?_|(refine hK _ _ ?_;clear hK K)|refine jJ fun K hK=>?_|refine jK ?_|refine jL ?_|refine jM ?_|refine jN ?_|refine jO ?_|refine jP ?_|refine jQ ?_|(refine jB ?_;clear hK K)|(refine jC ?_;clear hK K)|refine jD ?_|refine jE ?_|refine jG ?_|refine jH ?_|refine jI ?_)|((with_reducible refine jR ?hq ?_);case hq=>rfl)|((first|(with_reducible first|refine jS fun K hK=>?_|refine jT ?_|refine jU ?_)|((with_reducible refine jV ?hy fun K hK=>?_);case hy=>rfl));simp only [go_sem, Nat.reduceEqDiff, Nat.reduceAdd, Nat.reduceMul, Nat.reduceLeDiff, Nat.reduceLT, Int.reduceLT, Int.reduceLE, Int.reduceEq, Int.reduceNeg, Int.reduceToNat, Nat.reducePow, reduceIte, reduceCtorEq, Array.size_push])|((with_reducible first|refine jW ?hy ?_|refine jY ?hy ?_);case hy=>rfl)|((with_reducible first|refine jX ?hy ?_|refine jZ ?hy ?_);case hy=>rfl)|((with_reducible refine jF ?hy ?_);case hy=>decide))
 generalize eH1 : H.push (.cells #[.pointer (some ⟨t, 0, none⟩)] _) = H1
 generalize eH2 : H1.push _ = H2
 have f1 : Fr (fun _ => False) H H1 := by rw [← eH1]; exact (Fr.refl _ _).push _
 have f2 : Fr (fun _ => False) H1 H2 := by rw [← eH2]; exact (Fr.refl _ _).push _
 have s1 : H1.size = H.size + 1 := by rw [← eH1]; simp
 have q1 : Blk H1 H.size [.pointer (some ⟨t, 0, none⟩)] := by rw [← eH1]; exact Blk.new H [.pointer (some ⟨t, 0, none⟩)] _
 have q2 : Blk H2 (H.size + 1) [.int .i64 0, .int .i64 0, .int .i64 0, .int .i64 0] := by rw [← s1, ← eH2]; exact Blk.new H1 [.int .i64 0, .int .i64 0, .int .i64 0, .int .i64 0] _
 have q12 := q1.frame f2 fun h => h
 have h2 := h.grow (f1.trans f2)
 have c1 := q12.cellOf (i := 0) rfl
 simp only [go_sem, Nat.reduceEqDiff, Nat.reduceAdd, Nat.reduceMul, Nat.reduceLeDiff, Nat.reduceLT, Int.reduceLT, Int.reduceLE, Int.reduceEq, Int.reduceNeg, Int.reduceToNat, Nat.reducePow, reduceIte, reduceCtorEq, c1]
 repeat' (first|(with_reducible first|refine jA ?_|(refine hK _ _ ?_;clear hK K)|refine jJ fun K hK=>?_|refine jK ?_|refine jL ?_|refine jM ?_|refine jN ?_|refine jO ?_|refine jP ?_|refine jQ ?_|(refine jB ?_;clear hK K)|(refine jC ?_;clear hK K)|refine jD ?_|refine jE ?_|refine jG ?_|refine jH ?_|refine jI ?_)|((with_reducible refine jR ?hq ?_);case hq=>rfl)|((first|(with_reducible first|refine jS fun K hK=>?_|refine jT ?_|refine jU ?_)|((with_reducible refine jV ?hy fun K hK=>?_);case hy=>rfl));simp only [go_sem, Nat.reduceEqDiff, Nat.reduceAdd, Nat.reduceMul, Nat.reduceLeDiff, Nat.reduceLT, Int.reduceLT, Int.reduceLE, Int.reduceEq, Int.reduceNeg, Int.reduceToNat, Nat.reducePow, reduceIte, reduceCtorEq])|((with_reducible first|refine jW ?hy ?_|refine jY ?hy ?_);case hy=>rfl)|((with_reducible first|refine jX ?hy ?_|refine jZ ?hy ?_);case hy=>rfl)|((with_reducible refine jF ?hy ?_);case hy=>decide))
 clear eH1 eH2
 refine hasA2 h2 fun H3 h3 hf3 => ?_
 rw [inB_of hu, inB_of hv]
 have q23 := q2.frame hf3 id
 have c3 := (hf3.cell (a := ⟨H.size, 0, none⟩) (hcell_lt c1) id).trans c1
 have huv' : ((u : Int) == (v : Int)) = true := by simp [huv]
 have o0 := q23.okW (i := 0) (by simp)
 have o1 := q23.okW (i := 1) (by simp)
 have o2 := q23.okW (i := 2) (by simp)
 have o3 := q23.okW (i := 3) (by simp)
 repeat' (first|(with_reducible first|refine jA ?_|(refine hK _ _ ?_;clear hK K)|refine jJ fun K hK=>?_|refine jK ?_|refine jL ?_|refine jM ?_|refine jN ?_|refine jO ?_|refine jP ?_|refine jQ ?_|(refine jB ?_;clear hK K)|(refine jC ?_;clear hK K)|refine jD ?_|refine jE ?_|refine jG ?_|refine jH ?_|refine jI ?_)|((with_reducible refine jR ?hq ?_);case hq=>rfl)|((first|(with_reducible first|refine jS fun K hK=>?_|refine jT ?_|refine jU ?_)|((with_reducible refine jV ?hy fun K hK=>?_);case hy=>rfl));simp only [go_sem, Nat.reduceEqDiff, Nat.reduceAdd, Nat.reduceMul, Nat.reduceLeDiff, Nat.reduceLT, Int.reduceLT, Int.reduceLE, Int.reduceEq, Int.reduceNeg, Int.reduceToNat, Nat.reducePow, reduceIte, reduceCtorEq, Bool.and_self, c3, huv', o0, o1, o2, o3, okW_hset, hcell_push, hcell_top, okW_push, okW_top, hcell_hset_ne, hcell_hset_off, hcell_hset_eq, okW_hset, hset_size, Array.size_push, Nat.lt_add_one, ne_add_one, add_one_ne, Nat.add_assoc, add_same, add_lt_same, Nat.reduceEqDiff, lt_add_k, add_k_ne, ne_add_k])|((with_reducible first|refine jW ?hy ?_|refine jY ?hy ?_);case hy=>rfl)|((with_reducible first|refine jX ?hy ?_|refine jZ ?hy ?_);case hy=>rfl)|((with_reducible refine jF ?hy ?_);case hy=>decide))
 obtain ⟨b7, f7⟩ := store4 q23 (.int .i64 0) (.int .i64 0) (.int .i64 0) (.int .i64 0)
 have hb0 := h.below
 refine fin _ ((h3.frame f7 fun b hb (e1 : b = H.size + 1) => ?_).mT e) ?_
 ·have := hb0 b hb
  omega
 ·exact (((f1.trans f2).trans hf3).mono fun _ _ h => h.elim).trans' f7 fun b hb (e1 : b = H.size + 1) => by omega
theorem m_most_none {u v ru rv : Nat} (h : LtM H t T S) (hu : u < S.n) (hv : v < S.n) (huv : u ≠ v) (hru : RootOf S.par (u + 1) ru) (hrv : RootOf S.par (v + 1) rv) (hne : ru ≠ rv) (fin : ∀ H', LtM H' t T S → Fr T H H' → K (.tuple #[Ed.zero.val, .int .i64 54]) H') :
  CallsH Try.prog 12 #[.pointer (some ⟨t, 0, none⟩), .int .i64 (u : Nat), .int .i64 (v : Nat)] H K := by
 obtain ⟨g, c, len, r, Bf, vf, N, rows, ids, fr, h, e⟩ := h
 have hn := h.ok.n64
 have hlH := h.na.lt
 have ew : IntKind.i64.wrap ((u : Int) + 1) = ((u + 1 : Nat) : Int) := by rw [wrap_i64] <;> omega
 have ew2 : IntKind.i64.wrap ((v : Int) + 1) = ((v + 1 : Nat) : Int) := by rw [wrap_i64] <;> omega
 refine call12 (by simp) ?_
 simp only [Try.f12, Option.getD_some]
 repeat' (first|(with_reducible first|refine jA ?_|(refine hK _ _ ?_;clear hK K)|refine jJ fun K hK=>?_|refine jK ?_|refine jL ?_|refine jM ?_|refine jN ?_|refine jO ?_|refine jP ?_|refine jQ ?_|(refine jB ?_;clear hK K)|(refine jC ?_;clear hK K)|refine jD ?_|refine jE ?_|refine jG ?_|refine jH ?_|refine jI ?_)|((with_reducible refine jR ?hq ?_);case hq=>rfl)|((first|(with_reducible first|refine jS fun K hK=>?_|refine jT ?_|refine jU ?_)|((with_reducible refine jV ?hy fun K hK=>?_);case hy=>rfl));simp only [go_sem, Nat.reduceEqDiff, Nat.reduceAdd, Nat.reduceMul, Nat.reduceLeDiff, Nat.reduceLT, Int.reduceLT, Int.reduceLE, Int.reduceEq, Int.reduceNeg, Int.reduceToNat, Nat.reducePow, reduceIte, reduceCtorEq, Array.size_push])|((with_reducible first|refine jW ?hy ?_|refine jY ?hy ?_);case hy=>rfl)|((with_reducible first|refine jX ?hy ?_|refine jZ ?hy ?_);case hy=>rfl)|((with_reducible refine jF ?hy ?_);case hy=>decide))
 generalize eH1 : H.push (.cells #[.pointer (some ⟨t, 0, none⟩)] _) = H1
 generalize eH2 : H1.push _ = H2
 have f1 : Fr (fun _ => False) H H1 := by rw [← eH1]; exact (Fr.refl _ _).push _
 have f2 : Fr (fun _ => False) H1 H2 := by rw [← eH2]; exact (Fr.refl _ _).push _
 have s1 : H1.size = H.size + 1 := by rw [← eH1]; simp
 have q1 : Blk H1 H.size [.pointer (some ⟨t, 0, none⟩)] := by rw [← eH1]; exact Blk.new H [.pointer (some ⟨t, 0, none⟩)] _
 have q2 : Blk H2 (H.size + 1) [.int .i64 0, .int .i64 0, .int .i64 0, .int .i64 0] := by rw [← s1, ← eH2]; exact Blk.new H1 [.int .i64 0, .int .i64 0, .int .i64 0, .int .i64 0] _
 have q12 := q1.frame f2 fun h => h
 have h2 := h.grow (f1.trans f2)
 have c1 := q12.cellOf (i := 0) rfl
 simp only [go_sem, Nat.reduceEqDiff, Nat.reduceAdd, Nat.reduceMul, Nat.reduceLeDiff, Nat.reduceLT, Int.reduceLT, Int.reduceLE, Int.reduceEq, Int.reduceNeg, Int.reduceToNat, Nat.reducePow, reduceIte, reduceCtorEq, c1]
 repeat' (first|(with_reducible first|refine jA ?_|(refine hK _ _ ?_;clear hK K)|refine jJ fun K hK=>?_|refine jK ?_|refine jL ?_|refine jM ?_|refine jN ?_|refine jO ?_|refine jP ?_|refine jQ ?_|(refine jB ?_;clear hK K)|(refine jC ?_;clear hK K)|refine jD ?_|refine jE ?_|refine jG ?_|refine jH ?_|refine jI ?_)|((with_reducible refine jR ?hq ?_);case hq=>rfl)|((first|(with_reducible first|refine jS fun K hK=>?_|refine jT ?_|refine jU ?_)|((with_reducible refine jV ?hy fun K hK=>?_);case hy=>rfl));simp only [go_sem, Nat.reduceEqDiff, Nat.reduceAdd, Nat.reduceMul, Nat.reduceLeDiff, Nat.reduceLT, Int.reduceLT, Int.reduceLE, Int.reduceEq, Int.reduceNeg, Int.reduceToNat, Nat.reducePow, reduceIte, reduceCtorEq])|((with_reducible first|refine jW ?hy ?_|refine jY ?hy ?_);case hy=>rfl)|((with_reducible first|refine jX ?hy ?_|refine jZ ?hy ?_);case hy=>rfl)|((with_reducible refine jF ?hy ?_);case hy=>decide))
 clear eH1 eH2
 refine hasA2 h2 fun H3 h3 hf3 => ?_
 rw [inB_of hu, inB_of hv]
 have q23 := q2.frame hf3 id
 have c3 := (hf3.cell (a := ⟨H.size, 0, none⟩) (hcell_lt c1) id).trans c1
 have huv' : ((u : Int) == (v : Int)) = false := by simp; omega
 repeat' (first|(with_reducible first|refine jA ?_|(refine hK _ _ ?_;clear hK K)|refine jJ fun K hK=>?_|refine jK ?_|refine jL ?_|refine jM ?_|refine jN ?_|refine jO ?_|refine jP ?_|refine jQ ?_|(refine jB ?_;clear hK K)|(refine jC ?_;clear hK K)|refine jD ?_|refine jE ?_|refine jG ?_|refine jH ?_|refine jI ?_)|((with_reducible refine jR ?hq ?_);case hq=>rfl)|((first|(with_reducible first|refine jS fun K hK=>?_|refine jT ?_|refine jU ?_)|((with_reducible refine jV ?hy fun K hK=>?_);case hy=>rfl));simp only [go_sem, Nat.reduceEqDiff, Nat.reduceAdd, Nat.reduceMul, Nat.reduceLeDiff, Nat.reduceLT, Int.reduceLT, Int.reduceLE, Int.reduceEq, Int.reduceNeg, Int.reduceToNat, Nat.reducePow, reduceIte, reduceCtorEq, Bool.and_self, c3, huv', ew, ew2])|((with_reducible first|refine jW ?hy ?_|refine jY ?hy ?_);case hy=>rfl)|((with_reducible first|refine jX ?hy ?_|refine jZ ?hy ?_);case hy=>rfl)|((with_reducible refine jF ?hy ?_);case hy=>decide))
 refine same_ok h3.na h3.lc h3.lt (Ls.vtx hu) (Ls.vtx hv) hru hrv fun H4 N4 rows4 hN4 hL4 hf4 => ?_
 rw [decide_eq_false hne]
 have h4 := h3.keep hN4 hL4 hf4
 have q24 := q23.frame hf4 (show ¬ H.size + 1 = g by omega)
 have o0 := q24.okW (i := 0) (by simp)
 have o1 := q24.okW (i := 1) (by simp)
 have o2 := q24.okW (i := 2) (by simp)
 have o3 := q24.okW (i := 3) (by simp)
 repeat' (first|(with_reducible first|refine jA ?_|(refine hK _ _ ?_;clear hK K)|refine jJ fun K hK=>?_|refine jK ?_|refine jL ?_|refine jM ?_|refine jN ?_|refine jO ?_|refine jP ?_|refine jQ ?_|(refine jB ?_;clear hK K)|(refine jC ?_;clear hK K)|refine jD ?_|refine jE ?_|refine jG ?_|refine jH ?_|refine jI ?_)|((with_reducible refine jR ?hq ?_);case hq=>rfl)|((first|(with_reducible first|refine jS fun K hK=>?_|refine jT ?_|refine jU ?_)|((with_reducible refine jV ?hy fun K hK=>?_);case hy=>rfl));simp only [go_sem, Nat.reduceEqDiff, Nat.reduceAdd, Nat.reduceMul, Nat.reduceLeDiff, Nat.reduceLT, Int.reduceLT, Int.reduceLE, Int.reduceEq, Int.reduceNeg, Int.reduceToNat, Nat.reducePow, reduceIte, reduceCtorEq, o0, o1, o2, o3, okW_hset, hcell_push, hcell_top, okW_push, okW_top, hcell_hset_ne, hcell_hset_off, hcell_hset_eq, okW_hset, hset_size, Array.size_push, Nat.lt_add_one, ne_add_one, add_one_ne, Nat.add_assoc, add_same, add_lt_same, Nat.reduceEqDiff, lt_add_k, add_k_ne, ne_add_k])|((with_reducible first|refine jW ?hy ?_|refine jY ?hy ?_);case hy=>rfl)|((with_reducible first|refine jX ?hy ?_|refine jZ ?hy ?_);case hy=>rfl)|((with_reducible refine jF ?hy ?_);case hy=>decide))
 obtain ⟨b7, f7⟩ := store4 q24 (.int .i64 0) (.int .i64 0) (.int .i64 0) (.int .i64 0)
 have hb0 := h.below
 refine fin _ ((h4.frame f7 fun b hb (e1 : b = H.size + 1) => ?_).mT e) ?_
 ·have := hb0 b hb
  omega
 ·exact (fr_g ((e g).2 (.inr (.inl rfl))) ((((f1.trans f2).trans hf3).mono fun _ _ h => h.elim).trans hf4)).trans' f7 fun b hb (e1 : b = H.size + 1) => by omega
end
end Go.Proofs.Ytoplhfhjokjbiaa
namespace Go.Li
open Go Go.Hp
set_option linter.unusedVariables false
theorem Ch.up_mem {par : Par} {x : Nat} {l : List Nat} (h : Ch par x l) : ∀ y ∈ l, y = x ∨ ∃ z, par z = y := by
  induction h with
  | root _ => intro y hy; exact .inl (List.mem_singleton.1 hy)
  | @step h l h0 k ih =>
    intro y hy
    rcases List.mem_cons.1 hy with rfl | hy
    · exact .inl rfl
    · rcases ih y hy with rfl | h1
      · exact .inr ⟨h, rfl⟩
      · exact .inr h1
theorem Ch.root_last {par : Par} {x y r : Nat} {l : List Nat} (h : Ch par x l) (hl : l.getLast? = some r) (hy : y ∈ l) (h0 : par y = 0) : y = r := by
  obtain ⟨p, q, e⟩ := List.append_of_mem hy
  subst e
  have h1 := h.tail
  cases h1 with
  | root _ => simpa using hl
  | step h2 _ => exact absurd h0 h2
theorem RootOf.zero {par : Par} {x r : Nat} (h : RootOf par x r) : par r = 0 := by
  obtain ⟨l, h1, h2⟩ := h
  obtain ⟨p, e⟩ : ∃ p, l = p ++ [r] := by
    rcases List.eq_nil_or_concat l with e | ⟨q, z, e⟩
    · exact absurd e h1.ne
    · rw [List.concat_eq_append] at e
      subst e
      have : z = r := by simpa using h2
      exact ⟨q, by rw [this]⟩
  subst e
  have h3 := h1.tail
  cases h3 with
  | root h => exact h
  | step h0 k => exact absurd rfl k.ne
structure Linked (S S' : Ls) (u v : Nat) (e : Ed) : Prop where
  ok : S'.Ok
  n : S'.n = S.n
  ed : ∃ k, S.n < k ∧ S.E k = none ∧ S'.E = setE S.E k (some e)
  root : ∀ ru rv x r, RootOf S.par (u + 1) ru → RootOf S.par (v + 1) rv → (1 ≤ x ∧ x ≤ S.n) → RootOf S.par x r → RootOf S'.par x (if r = ru then rv else r)
  lone : ∀ a, 1 ≤ a → a ≤ S.n → a ≠ u + 1 → a ≠ v + 1 → S.par a = 0 → (∀ y, S.par y ≠ a) → S'.par a = 0 ∧ ∀ y, S'.par y ≠ a
section
variable {S : Ls}
theorem Ls.Ok.linked (k : S.Ok) {u v h ru rv : Nat} {l lv : List Nat} {e : Ed} (hu : u < S.n) (hv : v < S.n) (eu : e.u = (u : Nat)) (ev' : e.v = (v : Nat)) (hl : Ch S.par (u + 1) l) (hlv : Ch (Li.ev S.par 0 l) (v + 1) lv) (hul : u + 1 ∉ lv) (hh : S.n < h) (hE : S.E h = none)
    (hid : ∀ x e', S.E x = some e' → e'.id ≠ e.id) (hru : RootOf S.par (u + 1) ru) (hrv : RootOf S.par (v + 1) rv) (hne : ru ≠ rv) : Linked S (S.link l h e) u v e := by
  have k1 := k.evert ⟨by omega, by omega⟩ hl
  have hV : ¬ S.V h := by
    rintro (⟨_, h1⟩ | h1)
    · omega
    · rw [hE] at h1; cases h1
  have p0 : Li.ev S.par 0 l (u + 1) = 0 := by obtain ⟨r, rfl⟩ := hl.head; exact ev_head
  have ph : Li.ev S.par 0 l h = 0 := k1.dd h hV
  have nk' : ∀ y, Li.ev S.par 0 l y ≠ h := k1.no_kid hV (by omega)
  have tu : e.u.toNat = u := by omega
  have tv : e.v.toNat = v := by omega
  have hlast : l.getLast? = some ru := by
    obtain ⟨l', h1, h2⟩ := hru
    rw [hl.uniq h1]; exact h2
  have hlvl : lv.getLast? = some rv := by
    have h1 := ev_root hl (by omega) hlast hrv
    rw [if_neg (Ne.symm hne)] at h1
    obtain ⟨l', h2, h3⟩ := h1
    rw [hlv.uniq h2]; exact h3
  have hlive := k1.live hlv (Ls.vtx (S := S.ev l) hv)
  have hhl : h ∉ lv := fun hm => hV (hlive h hm)
  have hll : ∀ y ∈ l, S.V y := k.live hl (Ls.vtx hu)
  have hhn : h ≠ u + 1 := by omega
  have epar : (S.link l h e).par = setP (setP (Li.ev S.par 0 l) h (v + 1)) (u + 1) h := by unfold Ls.link; rw [tu, tv]
  refine ⟨k.linkOk hu hv eu ev' hl hlv hul hh hE hid, rfl, ⟨h, hh, hE, rfl⟩, fun ru' rv' x r h1 h2 hx hxr => ?_, fun a a1 a2 a3 a4 a5 a6 => ?_⟩
  · obtain rfl := h1.uniq hru
    obtain rfl := h2.uniq hrv
    rw [epar]
    obtain ⟨m, hm, hml⟩ := ev_root hl (by omega) hlast hxr
    have hhm : h ∉ m := fun hmem => by
      rcases hm.up_mem h hmem with e | ⟨z, e⟩
      · omega
      · exact nk' z e
    obtain ⟨m1, q1, q2, _⟩ := hang_chain (by omega) hlv hhl hm ph
    rw [q2 hhm] at q1
    have hlv2 : Ch (setP (Li.ev S.par 0 l) h (v + 1)) h (h :: lv) := by
      refine .step (by rw [setP_same]; omega) ?_
      rw [setP_same]
      exact hlv.congr fun y hy => setP_ne _ fun e => hhl (e ▸ hy)
    have p2u : setP (Li.ev S.par 0 l) h (v + 1) (u + 1) = 0 := by rw [setP_ne _ (Ne.symm hhn)]; exact p0
    obtain ⟨m2, q3, q4, q5⟩ := hang_chain (by omega) hlv2 (by simp only [List.mem_cons, not_or]; exact ⟨Ne.symm hhn, hul⟩) q1 p2u
    refine ⟨m2, q3, ?_⟩
    by_cases er : r = ru'
    · rw [if_pos er] at hml ⊢
      rw [q5 (List.mem_of_getLast? hml), List.getLast?_append]
      obtain ⟨s, hs⟩ := hlv.head
      rw [hs] at hlvl ⊢
      rw [List.getLast?_cons_cons, hlvl]; rfl
    · rw [if_neg er] at hml ⊢
      have hnm : u + 1 ∉ m := fun hmem => by
        have e1 := hm.root_last hml hmem p0
        have h0 := hxr.zero
        rw [← e1] at h0
        have := (RootOf.self h0).uniq hru
        exact er (by rw [← e1, this])
      rw [q4 hnm]; exact hml
  · rw [epar]
    have hal : a ∉ l := fun hm => by
      rcases hl.up_mem a hm with e | ⟨z, e⟩
      · exact a3 e
      · exact a6 z e
    constructor
    · rw [setP_ne _ a3, setP_ne _ (by omega), ev_not_mem hal]; exact a5
    · intro y hy
      by_cases e1 : y = u + 1
      · rw [e1, setP_same] at hy; omega
      · rw [setP_ne _ e1] at hy
        by_cases e2 : y = h
        · rw [e2, setP_same] at hy; omega
        · rw [setP_ne _ e2] at hy
          rcases ev_mem (l := l) (prev := 0) (par := S.par) (i := y) with h1 | h1 | ⟨_, h1⟩
          · omega
          · rw [hy] at h1; exact hal h1
          · rw [hy] at h1; exact a6 y h1.symm
structure Grow (S : Ls) (i : Nat) : Prop where
  one : ∃ r, ∀ a, a < i → RootOf S.par (a + 1) r
  lone : ∀ a, i ≤ a → a < S.n → S.par (a + 1) = 0 ∧ ∀ y, S.par y ≠ a + 1
theorem Grow.new (n : Nat) : Grow (Ls.new n) 1 :=
  ⟨⟨1, fun a ha => by obtain rfl : a = 0 := by omega
                      exact RootOf.self rfl⟩, fun a _ _ => ⟨rfl, fun y h => by cases h⟩⟩
theorem Grow.self {i : Nat} (h : Grow S i) (hi : i < S.n) : RootOf S.par (i + 1) (i + 1) := RootOf.self (h.lone i (Nat.le_refl _) hi).1
theorem Grow.apart {i a ra : Nat} (h : Grow S i) (hi : i < S.n) (ha : a < i) (hra : RootOf S.par (a + 1) ra) : ra ≠ i + 1 := by
  rintro rfl
  obtain ⟨l, h1, h2⟩ := hra
  rcases h1.up_mem _ (List.mem_of_getLast? h2) with e | ⟨z, e⟩
  · omega
  · exact (h.lone i (Nat.le_refl _) hi).2 z e
theorem Grow.up {i u v : Nat} {S' : Ls} {e : Ed} (h : Grow S i) (hi : i < S.n) (hk : Linked S S' u v e) (hor : (u = i ∧ v < i) ∨ (v = i ∧ u < i)) : Grow S' (i + 1) := by
  obtain ⟨r, hr⟩ := h.one
  have hs := h.self hi
  refine ⟨?_, fun a ha hn => ?_⟩
  · rcases hor with ⟨rfl, hv⟩ | ⟨rfl, hu⟩
    · have hne := h.apart hi hv (hr v hv)
      refine ⟨r, fun a ha => ?_⟩
      by_cases e : a = u
      · subst e
        have := hk.root _ _ _ _ hs (hr v hv) ⟨by omega, by omega⟩ hs
        rwa [if_pos rfl] at this
      · have := hk.root _ _ _ _ hs (hr v hv) ⟨by omega, by omega⟩ (hr a (by omega))
        rwa [if_neg hne] at this
    · have hne := h.apart hi hu (hr u hu)
      refine ⟨v + 1, fun a ha => ?_⟩
      by_cases e : a = v
      · subst e
        have := hk.root _ _ _ _ (hr u hu) hs ⟨by omega, by omega⟩ hs
        rwa [if_neg (Ne.symm hne)] at this
      · have := hk.root _ _ _ _ (hr u hu) hs ⟨by omega, by omega⟩ (hr a (by omega))
        rwa [if_pos rfl] at this
  · rw [hk.n] at hn
    obtain ⟨h1, h2⟩ := h.lone a (by omega) hn
    exact hk.lone (a + 1) (by omega) (by omega) (by omega) (by omega) h1 h2
end
end Go.Li
namespace Go.Proofs.Ytoplhfhjokjbiaa
open Go Go.Hp Go.Li
set_option linter.all false
section
variable {H H' : Heap} {t : Nat} {S : Ls} {T : Nat → Prop} {K : Value → Heap → Prop}
theorem m_link {u v : Nat} {id w : Int} {ru rv : Nat} (h : LtM H t T S) (hu : u < S.n) (hv : v < S.n) (ha : okArg id w = true) (hid : ∀ k x, S.E k = some x → x.id ≠ id) (hru : RootOf S.par (u + 1) ru) (hrv : RootOf S.par (v + 1) rv) (hne : ru ≠ rv)
    (fin : ∀ H' T' S', LtM H' t T' S' → Linked S S' u v ⟨id, (u : Nat), (v : Nat), w⟩ → Fr T H H' → (∀ b, T' b → T b ∨ H.size ≤ b) → K (.int .i64 0) H') :
    CallsH Try.prog 10 #[.pointer (some ⟨t, 0, none⟩), .int .i64 (u : Nat), .int .i64 (v : Nat), .int .i64 id, .int .i64 w] H K := by
  have hok := h.ok
  have hru0 := hru
  obtain ⟨l, hl, hlast⟩ := hru0
  have h1 := ev_root hl (by omega) hlast hrv
  rw [if_neg (Ne.symm hne)] at h1
  obtain ⟨lv, hlv, hlvl⟩ := h1
  have p0 : Li.ev S.par 0 l (u + 1) = 0 := by obtain ⟨r, rfl⟩ := hl.head; exact ev_head
  have hul : u + 1 ∉ lv := fun hm => by
    have e1 := hlv.root_last hlvl hm p0
    have h0 := hrv.zero
    rw [← e1] at h0
    have := (RootOf.self h0).uniq hru
    exact hne (by rw [← this, e1])
  refine link_ok h hu hv ha hid hru hrv hne hl hlv hul fun H' T' k hM hk hE hf hT => ?_
  exact fin H' T' _ hM (hok.linked hu hv rfl rfl hl hlv hul hk hE (fun x e' he => hid x e' he) hru hrv hne) hf hT
end
end Go.Proofs.Ytoplhfhjokjbiaa
namespace Go.Proofs.Ytoplhfhjokjbiaa.Pkisthmuslaw05
open Go Go.Hp
set_option linter.all false
set_option maxRecDepth 100000

theorem pick_ok {H : Heap} {c n : Int} {K : Value → Heap → Prop} (h0 : -9223372036854775808 ≤ c) (h1 : c ≤ 9223372036854775807) (hn : 0 < n) (hk : K (.int .i64 (pickN c n)) H) :
  CallsH Try.prog 9 #[.int .i64 c, .int .i64 n] H K := by
 have en : (n = 0) = False := by simp; omega
 refine call9 (by simp) ?_
 simp only [Try.f9, Option.getD_some]
 by_cases hc : c < 0
 ·have e1 : (c < 0) = True := by simp [hc]
  have e2 : IntKind.i64.wrap (c + 1) = c + 1 := wrap_i64 (by omega) (by omega)
  have e3 : IntKind.i64.wrap (0 - (c + 1)) = -(c + 1) := by rw [wrap_i64] <;> omega
  have e4 : (-(c + 1)).tmod n = pickN c n := by
   unfold pickN
   rw [if_pos hc, Int.tmod_eq_emod_of_nonneg (by omega)]
  repeat' (first|(with_reducible first|refine jA ?_|(refine hK _ _ ?_;clear hK K)|refine jJ fun K hK=>?_|refine jK ?_|refine jL ?_|refine jM ?_|refine jN ?_|refine jO ?_|refine jP ?_|refine jQ ?_|(refine jB ?_;clear hK K)|(refine jC ?_;clear hK K)|refine jD ?_|refine jE ?_|refine jG ?_|refine jH ?_|refine jI ?_)|((with_reducible refine jR ?hq ?_);case hq=>rfl)|((first|(with_reducible first|refine jS fun K hK=>?_|refine jT ?_|refine jU ?_)|((with_reducible refine jV ?hy fun K hK=>?_);case hy=>rfl));simp only [go_sem, Nat.reduceEqDiff, Nat.reduceAdd, Nat.reduceMul, Nat.reduceLeDiff, Nat.reduceLT, Int.reduceLT, Int.reduceLE, Int.reduceEq, Int.reduceNeg, Int.reduceToNat, Nat.reducePow, reduceIte, reduceCtorEq, e1, e2, e3, e4, en])|((with_reducible first|refine jW ?hy ?_|refine jY ?hy ?_);case hy=>rfl)|((with_reducible first|refine jX ?hy ?_|refine jZ ?hy ?_);case hy=>rfl)|((with_reducible refine jF ?hy ?_);case hy=>decide))
  exact hk
 ·have e1 : (c < 0) = False := by simp [hc]
  have e4 : c.tmod n = pickN c n := by
   unfold pickN
   rw [if_neg hc, Int.tmod_eq_emod_of_nonneg (by omega)]
  repeat' (first|(with_reducible first|refine jA ?_|(refine hK _ _ ?_;clear hK K)|refine jJ fun K hK=>?_|refine jK ?_|refine jL ?_|refine jM ?_|refine jN ?_|refine jO ?_|refine jP ?_|refine jQ ?_|(refine jB ?_;clear hK K)|(refine jC ?_;clear hK K)|refine jD ?_|refine jE ?_|refine jG ?_|refine jH ?_|refine jI ?_)|((with_reducible refine jR ?hq ?_);case hq=>rfl)|((first|(with_reducible first|refine jS fun K hK=>?_|refine jT ?_|refine jU ?_)|((with_reducible refine jV ?hy fun K hK=>?_);case hy=>rfl));simp only [go_sem, Nat.reduceEqDiff, Nat.reduceAdd, Nat.reduceMul, Nat.reduceLeDiff, Nat.reduceLT, Int.reduceLT, Int.reduceLE, Int.reduceEq, Int.reduceNeg, Int.reduceToNat, Nat.reducePow, reduceIte, reduceCtorEq, e1, e4, en])|((with_reducible first|refine jW ?hy ?_|refine jY ?hy ?_);case hy=>rfl)|((with_reducible first|refine jX ?hy ?_|refine jZ ?hy ?_);case hy=>rfl)|((with_reducible refine jF ?hy ?_);case hy=>decide))
  exact hk
theorem same_ok {H : Heap} {B C : Option Nat} {v w : Value} {xs ys : List Int} {K : Value → Heap → Prop} (hv : Rds H B v xs) (hw : Rds H C w ys) (hl : xs.length ≤ 4611686018427387904) (fin : K (.bool (decide (xs = ys))) H) :
  CallsH Try.prog 13 #[v, w] H K := by
 obtain ⟨a, c, ev⟩ := hv.slice
 obtain ⟨a', c', ew⟩ := hw.slice
 refine call13 (by simp) ?_
 simp only [Try.f13, Option.getD_some]
 by_cases h : xs.length = ys.length
 ·have t1 : ((xs.length : Int) != (ys.length : Int)) = false := by simp [h]
  rw [ev, ew]
  repeat' (first|(with_reducible first|refine jA ?_|(refine hK _ _ ?_;clear hK K)|refine jJ fun K hK=>?_|refine jK ?_|refine jL ?_|refine jM ?_|refine jN ?_|refine jO ?_|refine jP ?_|refine jQ ?_|(refine jB ?_;clear hK K)|(refine jC ?_;clear hK K)|refine jD ?_|refine jE ?_|refine jG ?_|refine jH ?_|refine jI ?_)|((with_reducible refine jR ?hq ?_);case hq=>rfl)|((first|(with_reducible first|refine jS fun K hK=>?_|refine jT ?_|refine jU ?_)|((with_reducible refine jV ?hy fun K hK=>?_);case hy=>rfl));simp only [go_sem, Nat.reduceEqDiff, Nat.reduceAdd, Nat.reduceMul, Nat.reduceLeDiff, Nat.reduceLT, Int.reduceLT, Int.reduceLE, Int.reduceEq, Int.reduceNeg, Int.reduceToNat, Nat.reducePow, reduceIte, reduceCtorEq, t1])|((with_reducible first|refine jW ?hy ?_|refine jY ?hy ?_);case hy=>rfl)|((with_reducible first|refine jX ?hy ?_|refine jZ ?hy ?_);case hy=>rfl)|((with_reducible refine jF ?hy ?_);case hy=>decide))
  refine x_loop (fun m e' H' => ∃ i : Nat, H' = H ∧ e' 5 = .int .i64 (i : Nat) ∧ i ≤ xs.length ∧ xs.take i = ys.take i ∧ m = xs.length - i) xs.length ⟨0, rfl, rfl, Nat.zero_le _, rfl, rfl⟩ ?_
  rintro m e1 H1 ⟨i, rfl, i5, hi, heq, rfl⟩ hoff
  have i0 := (hoff 0 rfl).trans rfl
  have i1 := (hoff 1 rfl).trans rfl
  clear hoff
  by_cases hlt : i < xs.length
  ·obtain ⟨x, hx⟩ : ∃ x, xs[i]? = some x := ⟨_, List.getElem?_eq_getElem hlt⟩
   obtain ⟨y, hy⟩ : ∃ y, ys[i]? = some y := ⟨_, List.getElem?_eq_getElem (by omega)⟩
   obtain ⟨b, o, c1, _, hv1, cx⟩ := hv.read hx
   obtain ⟨b2, o2, c2, _, hw1, cy⟩ := hw.read hy
   have i0' := i0.trans (ev.symm.trans hv1)
   have i1' := i1.trans (ew.symm.trans hw1)
   have hlt' : (i < ys.length) = True := by simp; omega
   have ewr : IntKind.i64.wrap ((i : Int) + 1) = ((i + 1 : Nat) : Int) := by rw [wrap_i64] <;> omega
   by_cases hxy : x = y
   ·have t2 : (x != y) = false := by simp [hxy]
    repeat' (first|(with_reducible first|refine jA ?_|(refine hK _ _ ?_;clear hK K)|refine jJ fun K hK=>?_|refine jK ?_|refine jL ?_|refine jM ?_|refine jN ?_|refine jO ?_|refine jP ?_|refine jQ ?_|(refine jB ?_;clear hK K)|(refine jC ?_;clear hK K)|refine jD ?_|refine jE ?_|refine jG ?_|refine jH ?_|refine jI ?_)|((with_reducible refine jR ?hq ?_);case hq=>rfl)|((first|(with_reducible first|refine jS fun K hK=>?_|refine jT ?_|refine jU ?_)|((with_reducible refine jV ?hy fun K hK=>?_);case hy=>rfl));simp only [go_sem, Nat.reduceEqDiff, Nat.reduceAdd, Nat.reduceMul, Nat.reduceLeDiff, Nat.reduceLT, Int.reduceLT, Int.reduceLE, Int.reduceEq, Int.reduceNeg, Int.reduceToNat, Nat.reducePow, reduceIte, reduceCtorEq, i5, i0', i1', hlt, hlt', cx, cy, t2, ewr])|((with_reducible first|refine jW ?hy ?_|refine jY ?hy ?_);case hy=>rfl)|((with_reducible first|refine jX ?hy ?_|refine jZ ?hy ?_);case hy=>rfl)|((with_reducible refine jF ?hy ?_);case hy=>decide))
    refine loop_normal (m' := xs.length - (i + 1)) (by omega) ⟨i + 1, rfl, rfl, by omega, ?_, rfl⟩
    rw [List.take_add_one, List.take_add_one, heq, hx, hy, hxy]
   ·have t2 : (x != y) = true := by simp [hxy]
    repeat' (first|(with_reducible first|refine jA ?_|(refine hK _ _ ?_;clear hK K)|refine jJ fun K hK=>?_|refine jK ?_|refine jL ?_|refine jM ?_|refine jN ?_|refine jO ?_|refine jP ?_|refine jQ ?_|(refine jB ?_;clear hK K)|(refine jC ?_;clear hK K)|refine jD ?_|refine jE ?_|refine jG ?_|refine jH ?_|refine jI ?_)|((with_reducible refine jR ?hq ?_);case hq=>rfl)|((first|(with_reducible first|refine jS fun K hK=>?_|refine jT ?_|refine jU ?_)|((with_reducible refine jV ?hy fun K hK=>?_);case hy=>rfl));simp only [go_sem, Nat.reduceEqDiff, Nat.reduceAdd, Nat.reduceMul, Nat.reduceLeDiff, Nat.reduceLT, Int.reduceLT, Int.reduceLE, Int.reduceEq, Int.reduceNeg, Int.reduceToNat, Nat.reducePow, reduceIte, reduceCtorEq, i5, i0', i1', hlt, hlt', cx, cy, t2])|((with_reducible first|refine jW ?hy ?_|refine jY ?hy ?_);case hy=>rfl)|((with_reducible first|refine jX ?hy ?_|refine jZ ?hy ?_);case hy=>rfl)|((with_reducible refine jF ?hy ?_);case hy=>decide))
    have : decide (xs = ys) = false := by
     rw [decide_eq_false_iff_not]
     intro e
     rw [e, hy] at hx
     exact hxy (Option.some.inj hx).symm
    rw [this] at fin
    exact fin
  ·have hlt' : (i < xs.length) = False := by simp; omega
   repeat' (first|(with_reducible first|refine jA ?_|(refine hK _ _ ?_;clear hK K)|refine jJ fun K hK=>?_|refine jK ?_|refine jL ?_|refine jM ?_|refine jN ?_|refine jO ?_|refine jP ?_|refine jQ ?_|(refine jB ?_;clear hK K)|(refine jC ?_;clear hK K)|refine jD ?_|refine jE ?_|refine jG ?_|refine jH ?_|refine jI ?_)|((with_reducible refine jR ?hq ?_);case hq=>rfl)|((first|(with_reducible first|refine jS fun K hK=>?_|refine jT ?_|refine jU ?_)|((with_reducible refine jV ?hy fun K hK=>?_);case hy=>rfl));simp only [go_sem, Nat.reduceEqDiff, Nat.reduceAdd, Nat.reduceMul, Nat.reduceLeDiff, Nat.reduceLT, Int.reduceLT, Int.reduceLE, Int.reduceEq, Int.reduceNeg, Int.reduceToNat, Nat.reducePow, reduceIte, reduceCtorEq, i5, i0, i1, hlt'])|((with_reducible first|refine jW ?hy ?_|refine jY ?hy ?_);case hy=>rfl)|((with_reducible first|refine jX ?hy ?_|refine jZ ?hy ?_);case hy=>rfl)|((with_reducible refine jF ?hy ?_);case hy=>decide))
   have : decide (xs = ys) = true := by
    rw [decide_eq_true_iff]
    have hi' : i = xs.length := by omega
    rw [hi', List.take_length] at heq
    rw [heq, h, List.take_length]
   rw [this] at fin
   exact fin
 ·have t1 : ((xs.length : Int) != (ys.length : Int)) = true := by simp; omega
  have : decide (xs = ys) = false := by
   rw [decide_eq_false_iff_not]
   intro e; exact h (by rw [e])
  rw [this] at fin
  rw [ev, ew]
  repeat' (first|(with_reducible first|refine jA ?_|(refine hK _ _ ?_;clear hK K)|refine jJ fun K hK=>?_|refine jK ?_|refine jL ?_|refine jM ?_|refine jN ?_|refine jO ?_|refine jP ?_|refine jQ ?_|(refine jB ?_;clear hK K)|(refine jC ?_;clear hK K)|refine jD ?_|refine jE ?_|refine jG ?_|refine jH ?_|refine jI ?_)|((with_reducible refine jR ?hq ?_);case hq=>rfl)|((first|(with_reducible first|refine jS fun K hK=>?_|refine jT ?_|refine jU ?_)|((with_reducible refine jV ?hy fun K hK=>?_);case hy=>rfl));simp only [go_sem, Nat.reduceEqDiff, Nat.reduceAdd, Nat.reduceMul, Nat.reduceLeDiff, Nat.reduceLT, Int.reduceLT, Int.reduceLE, Int.reduceEq, Int.reduceNeg, Int.reduceToNat, Nat.reducePow, reduceIte, reduceCtorEq, t1])|((with_reducible first|refine jW ?hy ?_|refine jY ?hy ?_);case hy=>rfl)|((with_reducible first|refine jX ?hy ?_|refine jZ ?hy ?_);case hy=>rfl)|((with_reducible refine jF ?hy ?_);case hy=>decide))
  exact fin
end Go.Proofs.Ytoplhfhjokjbiaa.Pkisthmuslaw05
namespace Go.Li
open Go Go.Hp
set_option linter.unusedVariables false
section
variable {S : Ls}
theorem Ls.Ok.par0 (k : S.Ok) : S.par 0 = 0 := k.dd 0 k.v0
theorem Ls.Ok.adj0 (k : S.Ok) {x : Nat} : ¬ Adj S.par x 0 := by
 rintro (⟨_, h⟩ | ⟨h, h2⟩)
 ·exact h rfl
 ·rw [k.par0] at h; exact h2 h.symm
theorem Ls.Ok.wk0 (k : S.Ok) : ∀ {l : List Nat} {x : Nat}, Wk S.par (x :: l) → 0 ∉ l
 | [], _, _ => by simp
 | y :: r, x, h => by
  simp only [List.mem_cons, not_or]
  refine ⟨fun e => ?_, k.wk0 h.2⟩
  have := h.1
  rw [← e] at this
  exact k.adj0 this
theorem Ls.Ok.sp0 (k : S.Ok) {a b : Nat} {P : List Nat} (h : SP S.par a b P) (ha : a ≠ 0) : 0 ∉ P := by
 obtain ⟨h1, h2, h3, h4⟩ := h
 cases P with
 | nil => simp
 | cons x r =>
  have e : x = a := by simpa using h1
  subst e
  simp only [List.mem_cons, not_or]
  exact ⟨Ne.symm ha, k.wk0 h4⟩
theorem Ls.Ok.sp (k : S.Ok) {a b : Nat} {P P' : List Nat} (ha : S.V a) (h : SP S.par a b P) (h' : SP S.par a b P') : P = P' := by
 have ha0 : a ≠ 0 := fun e => k.v0 (e ▸ ha)
 obtain ⟨m, hm⟩ := k.ac a ha
 exact SP.uniq hm ha0 h h' (k.sp0 h ha0) (k.sp0 h' ha0)
theorem Ls.Ok.over (k : S.Ok) {h : Nat} {e : Ed} {a : Nat} (he : S.E h = some e) (ha : a = e.u.toNat + 1 ∨ a = e.v.toNat + 1) : Adj S.par a h ∧ Adj S.par h a :=
 ⟨((k.ad h e a he).2 ha).symm, (k.ad h e a he).2 ha⟩
def Has (S : Ls) (es : List Ed) : Prop := ∀ e, (∃ k, S.E k = some e) ↔ e ∈ es
theorem Has.new (n : Nat) : Has (Ls.new n) [] := fun e => ⟨fun ⟨k, h⟩ => (by cases h), fun h => (by cases h)⟩
theorem Linked.has {S' : Ls} {u v : Nat} {e : Ed} {es : List Ed} (h : Linked S S' u v e) (he : Has S es) : Has S' (es ++ [e]) := fun x => by
 obtain ⟨k, k1, k2, k3⟩ := h.ed
 rw [k3]
 simp only [List.mem_append, List.mem_singleton]
 rw [← he x]
 constructor
 ·rintro ⟨y, hy⟩
  by_cases ey : y = k
  ·rw [ey, setE_same] at hy
   exact .inr (Option.some.inj hy).symm
  ·rw [setE_ne _ _ ey] at hy
   exact .inl ⟨y, hy⟩
 ·rintro (⟨y, hy⟩ | rfl)
  ·exact ⟨y, by rw [setE_ne _ _ fun ey => by rw [ey, k2] at hy; cases hy]; exact hy⟩
  ·exact ⟨k, setE_same _ _ _⟩
theorem Has.id {es : List Ed} (h : Has S es) {i : Int} (hi : ∀ e ∈ es, e.id ≠ i) : ∀ k x, S.E k = some x → x.id ≠ i := fun k x hk => hi x ((h x).1 ⟨k, hk⟩)
theorem heavy_asymm {a b : Ed} (h : heavy a b = true) : heavy b a = false := by
 unfold heavy at *
 simp only [Bool.or_eq_true, decide_eq_true_eq, Bool.and_eq_true, Bool.or_eq_false_iff, decide_eq_false_iff_not, Bool.and_eq_false_iff] at *
 omega
theorem IsMost.uniq {E : Es} {P P' : List Nat} {e e' : Ed} (hm : ∀ x, x ∈ P ↔ x ∈ P') (h : IsMost E P e) (h' : IsMost E P' e') : e = e' := by
 obtain ⟨b, h1, h2, h3⟩ := h
 obtain ⟨b', h4, h5, h6⟩ := h'
 rcases h3 b' ((hm b').2 h4) e' h5 with rfl | h7
 ·rw [h2] at h5; exact Option.some.inj h5
 ·rcases h6 b ((hm b).1 h1) e h2 with rfl | h8
  ·rw [h2] at h5; exact Option.some.inj h5
  ·rw [heavy_asymm h7] at h8; cases h8
end
end Go.Li
namespace Go.Proofs.Ytoplhfhjokjbiaa
open Go Go.Hp Go.Li
set_option linter.all false
set_option maxRecDepth 100000
set_option maxHeartbeats 1600000
section
variable {H H' : Heap} {t : Nat} {S : Ls} {T : Nat → Prop} {L : Value → Heap → Prop}
theorem pick_nat {c : Int} {n : Nat} (h : -9223372036854775808 ≤ c ∧ c ≤ 9223372036854775807) (hn : 0 < n) (fin : ∀ k : Nat, pickN c n = k → k < n → L (.int .i64 (k : Nat)) H) : CallsH Try.prog 9 #[.int .i64 c, .int .i64 (n : Nat)] H L := by
 refine Pkisthmuslaw05.pick_ok h.1 h.2 (by omega) ?_
 obtain ⟨u0, u1⟩ := pickN_range c (n := (n : Int)) (by omega)
 obtain ⟨u, eu⟩ := Int.eq_ofNat_of_zero_le u0
 rw [eu] at u1 ⊢
 exact fin u eu (Int.ofNat_lt.1 u1)
theorem edgeFlat : flatS Try.prog 31 = some [(.int .i64, 0), (.int .i64, 1), (.int .i64, 2), (.int .i64, 3)] := by kernel_rfl
theorem edge_eq {op : BinOp} {ox oy : Operand} {a b : Ed} {H : Heap} {K : Value → Prop} (hK : match op with | .eql => K (.bool (decide (a = b))) | .neq => K (.bool (!decide (a = b))) | _ => False) : binX Try.prog op 31 ox oy a.val b.val H K := by
 refine binX_flat edgeFlat (b := decide (a = b)) ?_ hK
 obtain ⟨a1, a2, a3, a4⟩ := a
 obtain ⟨b1, b2, b3, b4⟩ := b
 simp only [allEq, sEq, List.getElem?_toArray, List.getElem?_cons_zero, List.getElem?_cons_succ, if_true, Ed.mk.injEq]
 have key : ∀ x y : Int, (x == y) = decide (x = y) := fun x y => by by_cases h : x = y <;> simp [h]
 simp only [key]
 by_cases h1 : a1 = b1 <;> by_cases h2 : a2 = b2 <;> by_cases h3 : a3 = b3 <;> by_cases h4 : a4 = b4 <;> simp [h1, h2, h3, h4]
structure LS (H0 H : Heap) (t : Nat) (T : Nat → Prop) (S : Ls) : Prop where
 m : LtM H t T S
 fr : Fr (fun _ => False) H0 H
 new : ∀ b, T b → H0.size ≤ b
theorem LS.op {H0 : Heap} {T' : Nat → Prop} {S' : Ls} (h : LS H0 H t T S) (hm : LtM H' t T' S') (hf : Fr T H H') (hT : ∀ b, T' b → T b ∨ H.size ≤ b) : LS H0 H' t T' S' :=
 ⟨hm, h.fr.trans' hf fun b hb hx => by have := h.new b hx; omega, fun b hb => (hT b hb).elim (h.new b) fun h1 => Nat.le_trans h.fr.size h1⟩
theorem LS.keep {H0 : Heap} {S' : Ls} (h : LS H0 H t T S) (hm : LtM H' t T S') (hf : Fr T H H') : LS H0 H' t T S' := h.op hm hf fun _ h => .inl h
theorem LS.grow {H0 : Heap} (h : LS H0 H t T S) (hf : Fr (fun _ => False) H H') : LS H0 H' t T S := ⟨h.m.grow hf, h.fr.trans hf, h.new⟩
theorem ir_lit (H : Heap) (xs : List Int) (T : TypeId) (hx : xs ≠ []) : IR (H.push (.cells (xs.map (Value.int .i64)).toArray T)) (some H.size) (.slice (some ⟨H.size, 0, none⟩) xs.length xs.length) xs :=
 ⟨by simp, .inr ⟨H.size, xs.length, [], rfl, rfl, by rw [List.append_nil]; exact Blk.new H _ T, by simp, Nat.le_refl _⟩⟩
theorem awake_ok (fin : ∀ H', Fr (fun _ => False) H H' → L (.bool true) H') : CallsH Try.prog 7 #[] H L := by
 refine call7 (by simp) ?_
 simp only [Try.f7, Option.getD_some]
 repeat' (first|(with_reducible first|refine jA ?_|(refine hK _ _ ?_;clear hK K)|refine jJ fun K hK=>?_|refine jK ?_|refine jL ?_|refine jM ?_|refine jN ?_|refine jO ?_|refine jP ?_|refine jQ ?_|(refine jB ?_;clear hK K)|(refine jC ?_;clear hK K)|refine jD ?_|refine jE ?_|refine jG ?_|refine jH ?_|refine jI ?_)|((with_reducible refine jR ?hq ?_);case hq=>rfl)|((first|(with_reducible first|refine jS fun K hK=>?_|refine jT ?_|refine jU ?_)|((with_reducible refine jV ?hy fun K hK=>?_);case hy=>rfl));simp only [go_sem, Nat.reduceEqDiff, Nat.reduceAdd, Nat.reduceMul, Nat.reduceLeDiff, Nat.reduceLT, Int.reduceLT, Int.reduceLE, Int.reduceEq, Int.reduceNeg, Int.reduceToNat, Nat.reducePow, reduceIte, reduceCtorEq])|((with_reducible first|refine jW ?hy ?_|refine jY ?hy ?_);case hy=>rfl)|((with_reducible first|refine jX ?hy ?_|refine jZ ?hy ?_);case hy=>rfl)|((with_reducible refine jF ?hy ?_);case hy=>decide))
 refine lnew_ok (n := 5) (by omega) (by omega) fun H1 t T1 hM1 hf1 hT1 => ?_
 have S1 : LS H H1 t T1 (Ls.new 5) := ⟨hM1, hf1, hT1⟩
 have z1 : ((0 : Int) != 0) = false := rfl
 have ok1 := hM1.ok
 have r1 : ∀ x, 1 ≤ x → RootOf (Ls.new 5).par x x := fun x _ => RootOf.self rfl
 repeat' (first|(with_reducible first|refine jA ?_|(refine hK _ _ ?_;clear hK K)|refine jJ fun K hK=>?_|refine jK ?_|refine jL ?_|refine jM ?_|refine jN ?_|refine jO ?_|refine jP ?_|refine jQ ?_|(refine jB ?_;clear hK K)|(refine jC ?_;clear hK K)|refine jD ?_|refine jE ?_|refine jG ?_|refine jH ?_|refine jI ?_)|((with_reducible refine jR ?hq ?_);case hq=>rfl)|((first|(with_reducible first|refine jS fun K hK=>?_|refine jT ?_|refine jU ?_)|((with_reducible refine jV ?hy fun K hK=>?_);case hy=>rfl));simp only [go_sem, Nat.reduceEqDiff, Nat.reduceAdd, Nat.reduceMul, Nat.reduceLeDiff, Nat.reduceLT, Int.reduceLT, Int.reduceLE, Int.reduceEq, Int.reduceNeg, Int.reduceToNat, Nat.reducePow, reduceIte, reduceCtorEq, z1])|((with_reducible first|refine jW ?hy ?_|refine jY ?hy ?_);case hy=>rfl)|((with_reducible first|refine jX ?hy ?_|refine jZ ?hy ?_);case hy=>rfl)|((with_reducible refine jF ?hy ?_);case hy=>decide))
 refine m_link (u := 1) (v := 0) (id := 7) (w := 30) S1.m (by decide) (by decide) (by simp [okArg]) (fun k x h => by cases h) (r1 2 (by omega)) (r1 1 (by omega)) (by omega) fun H2 T2 Q2 hM2 hK2 hf2 hT2 => ?_
 have S2 := S1.op hM2 hf2 hT2
 have h2 := hK2.has (Has.new 5)
 have n2 : Q2.n = 5 := hK2.n
 have r21 : RootOf Q2.par 1 1 := hK2.root 2 1 1 1 (r1 2 (by omega)) (r1 1 (by omega)) ⟨by omega, by show 1 ≤ 5; omega⟩ (r1 1 (by omega))
 have r22 : RootOf Q2.par 2 1 := hK2.root 2 1 2 2 (r1 2 (by omega)) (r1 1 (by omega)) ⟨by omega, by show 2 ≤ 5; omega⟩ (r1 2 (by omega))
 have r23 : RootOf Q2.par 3 3 := hK2.root 2 1 3 3 (r1 2 (by omega)) (r1 1 (by omega)) ⟨by omega, by show 3 ≤ 5; omega⟩ (r1 3 (by omega))
 have r24 : RootOf Q2.par 4 4 := hK2.root 2 1 4 4 (r1 2 (by omega)) (r1 1 (by omega)) ⟨by omega, by show 4 ≤ 5; omega⟩ (r1 4 (by omega))
 repeat' (first|(with_reducible first|refine jA ?_|(refine hK _ _ ?_;clear hK K)|refine jJ fun K hK=>?_|refine jK ?_|refine jL ?_|refine jM ?_|refine jN ?_|refine jO ?_|refine jP ?_|refine jQ ?_|(refine jB ?_;clear hK K)|(refine jC ?_;clear hK K)|refine jD ?_|refine jE ?_|refine jG ?_|refine jH ?_|refine jI ?_)|((with_reducible refine jR ?hq ?_);case hq=>rfl)|((first|(with_reducible first|refine jS fun K hK=>?_|refine jT ?_|refine jU ?_)|((with_reducible refine jV ?hy fun K hK=>?_);case hy=>rfl));simp only [go_sem, Nat.reduceEqDiff, Nat.reduceAdd, Nat.reduceMul, Nat.reduceLeDiff, Nat.reduceLT, Int.reduceLT, Int.reduceLE, Int.reduceEq, Int.reduceNeg, Int.reduceToNat, Nat.reducePow, reduceIte, reduceCtorEq])|((with_reducible first|refine jW ?hy ?_|refine jY ?hy ?_);case hy=>rfl)|((with_reducible first|refine jX ?hy ?_|refine jZ ?hy ?_);case hy=>rfl)|((with_reducible refine jF ?hy ?_);case hy=>decide))
 refine m_link (u := 2) (v := 1) (id := 8) (w := 50) S2.m (by omega) (by omega) (by simp [okArg]) (h2.id (by simp)) r23 r22 (by omega) fun H3 T3 Q3 hM3 hK3 hf3 hT3 => ?_
 have S3 := S2.op hM3 hf3 hT3
 have h3 := hK3.has h2
 have n3 : Q3.n = 5 := hK3.n.trans n2
 have r31 : RootOf Q3.par 1 1 := hK3.root 3 1 1 1 r23 r22 ⟨by omega, by omega⟩ r21
 have r32 : RootOf Q3.par 2 1 := hK3.root 3 1 2 1 r23 r22 ⟨by omega, by omega⟩ r22
 have r33 : RootOf Q3.par 3 1 := hK3.root 3 1 3 3 r23 r22 ⟨by omega, by omega⟩ r23
 have r34 : RootOf Q3.par 4 4 := hK3.root 3 1 4 4 r23 r22 ⟨by omega, by omega⟩ r24
 repeat' (first|(with_reducible first|refine jA ?_|(refine hK _ _ ?_;clear hK K)|refine jJ fun K hK=>?_|refine jK ?_|refine jL ?_|refine jM ?_|refine jN ?_|refine jO ?_|refine jP ?_|refine jQ ?_|(refine jB ?_;clear hK K)|(refine jC ?_;clear hK K)|refine jD ?_|refine jE ?_|refine jG ?_|refine jH ?_|refine jI ?_)|((with_reducible refine jR ?hq ?_);case hq=>rfl)|((first|(with_reducible first|refine jS fun K hK=>?_|refine jT ?_|refine jU ?_)|((with_reducible refine jV ?hy fun K hK=>?_);case hy=>rfl));simp only [go_sem, Nat.reduceEqDiff, Nat.reduceAdd, Nat.reduceMul, Nat.reduceLeDiff, Nat.reduceLT, Int.reduceLT, Int.reduceLE, Int.reduceEq, Int.reduceNeg, Int.reduceToNat, Nat.reducePow, reduceIte, reduceCtorEq])|((with_reducible first|refine jW ?hy ?_|refine jY ?hy ?_);case hy=>rfl)|((with_reducible first|refine jX ?hy ?_|refine jZ ?hy ?_);case hy=>rfl)|((with_reducible refine jF ?hy ?_);case hy=>decide))
 refine m_link (u := 3) (v := 1) (id := 9) (w := 50) S3.m (by omega) (by omega) (by simp [okArg]) (h3.id (by simp)) r34 r32 (by omega) fun H4 T4 Q4 hM4 hK4 hf4 hT4 => ?_
 have S4 := S3.op hM4 hf4 hT4
 have h4 := hK4.has h3
 have n4 : Q4.n = 5 := hK4.n.trans n3
 have r41 : RootOf Q4.par 1 1 := hK4.root 4 1 1 1 r34 r32 ⟨by omega, by omega⟩ r31
 have r43 : RootOf Q4.par 3 1 := hK4.root 4 1 3 1 r34 r32 ⟨by omega, by omega⟩ r33
 have r44 : RootOf Q4.par 4 1 := hK4.root 4 1 4 4 r34 r32 ⟨by omega, by omega⟩ r34
 have ok4 := hM4.ok
 obtain ⟨k1, g1⟩ := (h4 ⟨7, 1, 0, 30⟩).2 (by simp)
 obtain ⟨k2, g2⟩ := (h4 ⟨8, 2, 1, 50⟩).2 (by simp)
 obtain ⟨k3, g3⟩ := (h4 ⟨9, 3, 1, 50⟩).2 (by simp)
 have b1 := (ok4.en k1 _ g1).1
 have b2 := (ok4.en k2 _ g2).1
 have b3 := (ok4.en k3 _ g3).1
 rw [n4] at b1 b2 b3
 have k12 : k1 ≠ k2 := fun e => by rw [e, g2] at g1; cases g1
 have k23 : k2 ≠ k3 := fun e => by rw [e, g3] at g2; cases g2
 have e1 : Q4.E 1 = none := ok4.eno (by omega)
 have e2 : Q4.E 2 = none := ok4.eno (by omega)
 have e3 : Q4.E 3 = none := ok4.eno (by omega)
 have e4 : Q4.E 4 = none := ok4.eno (by omega)
 have p1 : SP Q4.par 3 1 [3, k2, 2, k1, 1] := ⟨rfl, rfl, by simp; omega, (ok4.over g2 (.inl rfl)).1, (ok4.over g2 (.inr rfl)).2, (ok4.over g1 (.inl rfl)).1, (ok4.over g1 (.inr rfl)).2, trivial⟩
 have p2 : SP Q4.par 3 4 [3, k2, 2, k3, 4] := ⟨rfl, rfl, by simp; omega, (ok4.over g2 (.inl rfl)).1, (ok4.over g2 (.inr rfl)).2, (ok4.over g3 (.inr rfl)).1, (ok4.over g3 (.inl rfl)).2, trivial⟩
 repeat' (first|(with_reducible first|refine jA ?_|(refine hK _ _ ?_;clear hK K)|refine jJ fun K hK=>?_|refine jK ?_|refine jL ?_|refine jM ?_|refine jN ?_|refine jO ?_|refine jP ?_|refine jQ ?_|(refine jB ?_;clear hK K)|(refine jC ?_;clear hK K)|refine jD ?_|refine jE ?_|refine jG ?_|refine jH ?_|refine jI ?_)|((with_reducible refine jR ?hq ?_);case hq=>rfl)|((first|(with_reducible first|refine jS fun K hK=>?_|refine jT ?_|refine jU ?_)|((with_reducible refine jV ?hy fun K hK=>?_);case hy=>rfl));simp only [go_sem, Nat.reduceEqDiff, Nat.reduceAdd, Nat.reduceMul, Nat.reduceLeDiff, Nat.reduceLT, Int.reduceLT, Int.reduceLE, Int.reduceEq, Int.reduceNeg, Int.reduceToNat, Nat.reducePow, reduceIte, reduceCtorEq])|((with_reducible first|refine jW ?hy ?_|refine jY ?hy ?_);case hy=>rfl)|((with_reducible first|refine jX ?hy ?_|refine jZ ?hy ?_);case hy=>rfl)|((with_reducible refine jF ?hy ?_);case hy=>decide))
 refine m_root (v := 3) (r0 := 0) S4.m (by omega) r44 fun H5 hM5 hf5 => ?_
 have S5 := S4.keep hM5 hf5
 repeat' (first|(with_reducible first|refine jA ?_|(refine hK _ _ ?_;clear hK K)|refine jJ fun K hK=>?_|refine jK ?_|refine jL ?_|refine jM ?_|refine jN ?_|refine jO ?_|refine jP ?_|refine jQ ?_|(refine jB ?_;clear hK K)|(refine jC ?_;clear hK K)|refine jD ?_|refine jE ?_|refine jG ?_|refine jH ?_|refine jI ?_)|((with_reducible refine jR ?hq ?_);case hq=>rfl)|((first|(with_reducible first|refine jS fun K hK=>?_|refine jT ?_|refine jU ?_)|((with_reducible refine jV ?hy fun K hK=>?_);case hy=>rfl));simp only [go_sem, Nat.reduceEqDiff, Nat.reduceAdd, Nat.reduceMul, Nat.reduceLeDiff, Nat.reduceLT, Int.reduceLT, Int.reduceLE, Int.reduceEq, Int.reduceNeg, Int.reduceToNat, Nat.reducePow, reduceIte, reduceCtorEq])|((with_reducible first|refine jW ?hy ?_|refine jY ?hy ?_);case hy=>rfl)|((with_reducible first|refine jX ?hy ?_|refine jZ ?hy ?_);case hy=>rfl)|((with_reducible refine jF ?hy ?_);case hy=>decide))
 refine m_most (u := 2) (v := 3) S5.m (by omega) (by omega) (by omega) r43 r44 fun H6 P e hP hMo hM6 hf6 => ?_
 have S6 := S5.keep hM6 hf6
 obtain rfl := ok4.sp (Ls.vtx (S := Q4) (v := 2) (by omega)) hP p2
 have ee : e = ⟨9, 3, 1, 50⟩ := by
  obtain ⟨b, hb, hbe, hbb⟩ := hMo
  simp only [List.mem_cons, List.not_mem_nil, or_false] at hb
  rcases hb with rfl | rfl | rfl | rfl | rfl
  ·rw [e3] at hbe; cases hbe
  ·rw [g2] at hbe
   obtain rfl := Option.some.inj hbe
   rcases hbb k3 (by simp) _ g3 with h | h
   ·exact absurd h.symm k23
   ·exact absurd h (by decide)
  ·rw [e2] at hbe; cases hbe
  ·rw [g3] at hbe; exact (Option.some.inj hbe).symm
  ·rw [e4] at hbe; cases hbe
 subst ee
 simp only [Ed.val]
 repeat' (first|(with_reducible first|refine jA ?_|(refine hK _ _ ?_;clear hK K)|refine jJ fun K hK=>?_|refine jK ?_|refine jL ?_|refine jM ?_|refine jN ?_|refine jO ?_|refine jP ?_|refine jQ ?_|(refine jB ?_;clear hK K)|(refine jC ?_;clear hK K)|refine jD ?_|refine jE ?_|refine jG ?_|refine jH ?_|refine jI ?_)|((with_reducible refine jR ?hq ?_);case hq=>rfl)|((first|(with_reducible first|refine jS fun K hK=>?_|refine jT ?_|refine jU ?_)|((with_reducible refine jV ?hy fun K hK=>?_);case hy=>rfl));simp only [go_sem, Nat.reduceEqDiff, Nat.reduceAdd, Nat.reduceMul, Nat.reduceLeDiff, Nat.reduceLT, Int.reduceLT, Int.reduceLE, Int.reduceEq, Int.reduceNeg, Int.reduceToNat, Nat.reducePow, reduceIte, reduceCtorEq, hcell_push, hcell_top, okW_push, okW_top, hcell_hset_ne, hcell_hset_off, hcell_hset_eq, okW_hset, hset_size, Array.size_push, Nat.lt_add_one, ne_add_one, add_one_ne, Nat.add_assoc, add_same, add_lt_same, Nat.reduceEqDiff, lt_add_k, add_k_ne, ne_add_k])|((with_reducible first|refine jW ?hy ?_|refine jY ?hy ?_);case hy=>rfl)|((with_reducible first|refine jX ?hy ?_|refine jZ ?hy ?_);case hy=>rfl)|((with_reducible refine jF ?hy ?_);case hy=>decide))
 have bn := Blk.new H6 [.int .i64 0, .int .i64 0, .int .i64 0, .int .i64 0] 31
 have fn : Fr (fun _ => False) H6 (H6.push (.cells #[.int .i64 0, .int .i64 0, .int .i64 0, .int .i64 0] 31)) := (Fr.refl _ H6).push _
 obtain ⟨b7, f7⟩ := store4 bn (.int .i64 9) (.int .i64 3) (.int .i64 1) (.int .i64 50)
 have f67 : Fr (fun _ => False) H6 _ := fn.trans' f7 fun b hb (e : b = H6.size) => by omega
 generalize hset _ _ _ = H7 at b7 f67 ⊢
 clear f7 bn fn
 have S7 := S6.grow f67
 refine m_path (u := 2) (v := 0) S7.m (by omega) (by omega) r43 r41 fun H8 P B w hP hw hB hM8 hf8 => ?_
 have S8 := S7.keep hM8 hf8
 obtain rfl := ok4.sp (Ls.vtx (S := Q4) (v := 2) (by omega)) hP p1
 have eo : outI Q4.E [3, k2, 2, k1, 1] = [8, 7] := by simp [outI, e1, e2, e3, g1, g2]
 rw [eo] at hw
 obtain ⟨wa, wc, hwv⟩ := hw.slice
 subst hwv
 have b8 := b7.frame hf8 fun hx => by have := S6.m.below _ hx; omega
 repeat' (first|(with_reducible first|refine jA ?_|(refine hK _ _ ?_;clear hK K)|refine jJ fun K hK=>?_|refine jK ?_|refine jL ?_|refine jM ?_|refine jN ?_|refine jO ?_|refine jP ?_|refine jQ ?_|(refine jB ?_;clear hK K)|(refine jC ?_;clear hK K)|refine jD ?_|refine jE ?_|refine jG ?_|refine jH ?_|refine jI ?_)|((with_reducible refine jR ?hq ?_);case hq=>rfl)|((first|(with_reducible first|refine jS fun K hK=>?_|refine jT ?_|refine jU ?_)|((with_reducible refine jV ?hy fun K hK=>?_);case hy=>rfl));simp only [go_sem, Nat.reduceEqDiff, Nat.reduceAdd, Nat.reduceMul, Nat.reduceLeDiff, Nat.reduceLT, Int.reduceLT, Int.reduceLE, Int.reduceEq, Int.reduceNeg, Int.reduceToNat, Nat.reducePow, reduceIte, reduceCtorEq])|((with_reducible first|refine jW ?hy ?_|refine jY ?hy ?_);case hy=>rfl)|((with_reducible first|refine jX ?hy ?_|refine jZ ?hy ?_);case hy=>rfl)|((with_reducible refine jF ?hy ?_);case hy=>decide))
 have fl : Fr (fun _ => False) H8 (H8.push (.cells ([8, 7].map (Value.int .i64)).toArray 3)) := (Fr.refl _ _).push _
 have il := ir_lit H8 [8, 7] 3 (by simp)
 refine Pkisthmuslaw05.same_ok (hw.frame fl fun _ _ h => h).rds il.rds (by simp) ?_
 rw [decide_eq_true rfl]
 have S9 := S8.grow fl
 have b9 := b8.frame fl fun h => h

 have r0 := b9.cellOf (i := 0) rfl
 have r1 := b9.cellOf (i := 1) rfl
 have r2 := b9.cellOf (i := 2) rfl
 have r3 := b9.cellOf (i := 3) rfl
 have z2 : ((0 : Int) == 0) = true := rfl
 have z3 : ((51 : Int) == 51) = true := rfl
 have z4 : decide (True) = true := rfl
 repeat' (first|(with_reducible first|refine jA ?_|(refine hK _ _ ?_;clear hK K)|refine jJ fun K hK=>?_|refine jK ?_|refine jL ?_|refine jM ?_|refine jN ?_|refine jO ?_|refine jP ?_|refine jQ ?_|(refine jB ?_;clear hK K)|(refine jC ?_;clear hK K)|refine jD ?_|refine jE ?_|refine jG ?_|refine jH ?_|refine jI ?_)|((with_reducible refine jR ?hq ?_);case hq=>rfl)|((first|(with_reducible first|refine jS fun K hK=>?_|refine jT ?_|refine jU ?_)|((with_reducible refine jV ?hy fun K hK=>?_);case hy=>rfl));simp only [go_sem, Nat.reduceEqDiff, Nat.reduceAdd, Nat.reduceMul, Nat.reduceLeDiff, Nat.reduceLT, Int.reduceLT, Int.reduceLE, Int.reduceEq, Int.reduceNeg, Int.reduceToNat, Nat.reducePow, reduceIte, reduceCtorEq, z2])|((with_reducible first|refine jW ?hy ?_|refine jY ?hy ?_);case hy=>rfl)|((with_reducible first|refine jX ?hy ?_|refine jZ ?hy ?_);case hy=>rfl)|((with_reducible refine jF ?hy ?_);case hy=>decide))
 simp only [List.map_cons, List.map_nil] at r0 r1 r2 r3
 simp only [go_sem, Nat.reduceEqDiff, Nat.reduceAdd, Nat.reduceMul, Nat.reduceLeDiff, Nat.reduceLT, Int.reduceLT, Int.reduceLE, Int.reduceEq, Int.reduceNeg, Int.reduceToNat, Nat.reducePow, reduceIte, reduceCtorEq, r0, r1, r2, r3]
 repeat' (first|(with_reducible first|refine jA ?_|(refine hK _ _ ?_;clear hK K)|refine jJ fun K hK=>?_|refine jK ?_|refine jL ?_|refine jM ?_|refine jN ?_|refine jO ?_|refine jP ?_|refine jQ ?_|(refine jB ?_;clear hK K)|(refine jC ?_;clear hK K)|refine jD ?_|refine jE ?_|refine jG ?_|refine jH ?_|refine jI ?_)|((with_reducible refine jR ?hq ?_);case hq=>rfl)|((first|(with_reducible first|refine jS fun K hK=>?_|refine jT ?_|refine jU ?_)|((with_reducible refine jV ?hy fun K hK=>?_);case hy=>rfl));simp only [go_sem, Nat.reduceEqDiff, Nat.reduceAdd, Nat.reduceMul, Nat.reduceLeDiff, Nat.reduceLT, Int.reduceLT, Int.reduceLE, Int.reduceEq, Int.reduceNeg, Int.reduceToNat, Nat.reducePow, reduceIte, reduceCtorEq])|((with_reducible first|refine jW ?hy ?_|refine jY ?hy ?_);case hy=>rfl)|((with_reducible first|refine jX ?hy ?_|refine jZ ?hy ?_);case hy=>rfl)|((with_reducible refine jF ?hy ?_);case hy=>decide))
 refine edge_eq (op := .eql) (ox := .tmp 79) (oy := .tmp 80) (a := ⟨9, 3, 1, 50⟩) (b := ⟨9, 3, 1, 50⟩) ?_
 simp only [decide_true]
 repeat' (first|(with_reducible first|refine jA ?_|(refine hK _ _ ?_;clear hK K)|refine jJ fun K hK=>?_|refine jK ?_|refine jL ?_|refine jM ?_|refine jN ?_|refine jO ?_|refine jP ?_|refine jQ ?_|(refine jB ?_;clear hK K)|(refine jC ?_;clear hK K)|refine jD ?_|refine jE ?_|refine jG ?_|refine jH ?_|refine jI ?_)|((with_reducible refine jR ?hq ?_);case hq=>rfl)|((first|(with_reducible first|refine jS fun K hK=>?_|refine jT ?_|refine jU ?_)|((with_reducible refine jV ?hy fun K hK=>?_);case hy=>rfl));simp only [go_sem, Nat.reduceEqDiff, Nat.reduceAdd, Nat.reduceMul, Nat.reduceLeDiff, Nat.reduceLT, Int.reduceLT, Int.reduceLE, Int.reduceEq, Int.reduceNeg, Int.reduceToNat, Nat.reducePow, reduceIte, reduceCtorEq])|((with_reducible first|refine jW ?hy ?_|refine jY ?hy ?_);case hy=>rfl)|((with_reducible first|refine jX ?hy ?_|refine jZ ?hy ?_);case hy=>rfl)|((with_reducible refine jF ?hy ?_);case hy=>decide))
 refine link_same (u := 3) (v := 0) (id := 10) (w := 1) S9.m (by omega) (by omega) (by simp [okArg]) (h4.id (by simp)) r44 r41 fun H10 hM10 hf10 => ?_
 have S10 := S9.keep hM10 hf10
 repeat' (first|(with_reducible first|refine jA ?_|(refine hK _ _ ?_;clear hK K)|refine jJ fun K hK=>?_|refine jK ?_|refine jL ?_|refine jM ?_|refine jN ?_|refine jO ?_|refine jP ?_|refine jQ ?_|(refine jB ?_;clear hK K)|(refine jC ?_;clear hK K)|refine jD ?_|refine jE ?_|refine jG ?_|refine jH ?_|refine jI ?_)|((with_reducible refine jR ?hq ?_);case hq=>rfl)|((first|(with_reducible first|refine jS fun K hK=>?_|refine jT ?_|refine jU ?_)|((with_reducible refine jV ?hy fun K hK=>?_);case hy=>rfl));simp only [go_sem, Nat.reduceEqDiff, Nat.reduceAdd, Nat.reduceMul, Nat.reduceLeDiff, Nat.reduceLT, Int.reduceLT, Int.reduceLE, Int.reduceEq, Int.reduceNeg, Int.reduceToNat, Nat.reducePow, reduceIte, reduceCtorEq, z3])|((with_reducible first|refine jW ?hy ?_|refine jY ?hy ?_);case hy=>rfl)|((with_reducible first|refine jX ?hy ?_|refine jZ ?hy ?_);case hy=>rfl)|((with_reducible refine jF ?hy ?_);case hy=>decide))
 exact fin _ S10.fr
end
end Go.Proofs.Ytoplhfhjokjbiaa
namespace Go.Li
open Go Go.Hp
set_option linter.unusedVariables false
def upS (S : Ls) (v : Nat) : Int := (S.par (S.par (v + 1)) : Int) - 1
def byS (S : Ls) (v : Nat) : Ed := (S.E (S.par (v + 1))).getD Ed.zero
section
variable {S : Ls}
theorem Ls.Ok.root_vt (k : S.Ok) {a r : Nat} (ha : S.V a) (h : RootOf S.par a r) : ∃ r0, r = r0 + 1 ∧ r0 < S.n := by
 have h0 := h.zero
 obtain ⟨l, h1, h2⟩ := h
 have hV := k.live h1 ha r (List.mem_of_getLast? h2)
 rcases hV with ⟨h3, h4⟩ | h3
 ·exact ⟨r - 1, by omega, by omega⟩
 ·obtain ⟨e, he⟩ := Option.isSome_iff_exists.1 h3
  exact absurd h0 (k.en r e he).2.2.2.2
theorem Ls.Ok.root_at (k : S.Ok) {a : Nat} (ha : a < S.n) : ∃ r0, RootOf S.par (a + 1) (r0 + 1) ∧ r0 < S.n := by
 obtain ⟨l, hl⟩ := k.ac (a + 1) (Ls.vtx ha)
 obtain ⟨r, hr⟩ : ∃ r, l.getLast? = some r := by
  cases h : l.getLast? with
  | none => exact absurd (List.getLast?_eq_none_iff.1 h) hl.ne
  | some r => exact ⟨r, rfl⟩
 obtain ⟨r0, rfl, h0⟩ := k.root_vt (Ls.vtx ha) ⟨l, hl, hr⟩
 exact ⟨r0, ⟨l, hl, hr⟩, h0⟩
theorem Ls.Ok.rootU (k : S.Ok) {v : Nat} (h : S.par (v + 1) = 0) : upS S v = -1 ∧ byS S v = Ed.zero := by
 unfold upS byS
 rw [h, k.par0, k.eno (a := 0) (by omega)]
 exact ⟨rfl, rfl⟩
theorem Ls.Ok.up_edge (k : S.Ok) {v : Nat} (hv : v < S.n) (h : S.par (v + 1) ≠ 0) : ∃ e, S.E (S.par (v + 1)) = some e ∧ S.n < S.par (v + 1) := by
 obtain ⟨e, he⟩ := Option.isSome_iff_exists.1 (k.vx (v + 1) _ (by omega) (by omega) (.inl ⟨rfl, h⟩))
 exact ⟨e, he, (k.en _ e he).1⟩
theorem Ls.Ok.hangs (k : S.Ok) {v : Nat} (hv : v < S.n) (h : S.par (v + 1) ≠ 0) : ∃ e p, S.E (S.par (v + 1)) = some e ∧ S.n < S.par (v + 1) ∧ S.par (S.par (v + 1)) = p + 1 ∧ p < S.n ∧ upS S v = p ∧ byS S v = e := by
 obtain ⟨e, he, hn⟩ := k.up_edge hv h
 obtain ⟨q1, q2, q3, q4, q5⟩ := k.en _ e he
 have h1 := (k.ad _ e _ he).1 (.inl ⟨rfl, q5⟩)
 obtain ⟨p, hp⟩ : ∃ p, S.par (S.par (v + 1)) = p + 1 := ⟨S.par (S.par (v + 1)) - 1, by omega⟩
 refine ⟨e, p, he, hn, hp, by omega, ?_, ?_⟩
 ·unfold upS; rw [hp]; omega
 ·unfold byS; rw [he]; rfl
theorem Ls.Ok.chain_cases (k : S.Ok) {v : Nat} {l : List Nat} (hv : v < S.n) (hl : Ch S.par (v + 1) l) : (l = [v + 1] ∧ upS S v = -1 ∧ byS S v = Ed.zero) ∨
  ∃ h e p l', l = (v + 1) :: h :: l' ∧ Ch S.par (p + 1) l' ∧ S.E h = some e ∧ upS S v = p ∧ byS S v = e ∧ p < S.n ∧ S.n < h ∧ S.par (v + 1) = h := by
 cases hl with
 | root h0 => exact .inl ⟨rfl, k.rootU h0⟩
 | @step _ l1 h0 k1 =>
  obtain ⟨e, p, h1, h2, h3, h4, h5, h6⟩ := k.hangs hv h0
  cases k1 with
  | root h7 => omega
  | @step _ l2 h7 k2 =>
   rw [h3] at k2
   exact .inr ⟨S.par (v + 1), e, p, l2, rfl, k2, h1, h5, h6, h4, h2, rfl⟩
theorem Ls.Ok.ev_zero (k : S.Ok) {a : Nat} {l : List Nat} (hl : Ch S.par a l) (ha : a ≠ 0) : Li.ev S.par 0 l 0 = 0 := by
 rw [ev_not_mem (hl.nz ha), k.par0]
theorem Ls.Ok.ev_first (k : S.Ok) {v : Nat} {l : List Nat} (hl : Ch S.par (v + 1) l) : upS (S.ev l) v = -1 ∧ byS (S.ev l) v = Ed.zero := by
 have h0 : (S.ev l).par (v + 1) = 0 := by obtain ⟨r, rfl⟩ := hl.head; exact ev_head
 have hz := k.ev_zero hl (by omega)
 unfold upS byS
 rw [h0]
 show ((Li.ev S.par 0 l 0 : Nat) : Int) - 1 = -1 ∧ (S.E 0).getD Ed.zero = Ed.zero
 rw [hz, k.eno (a := 0) (by omega)]
 exact ⟨rfl, rfl⟩
theorem Ls.Ok.ev_then (k : S.Ok) {a x h y : Nat} {l p q : List Nat} (hl : Ch S.par a l) (e : l = p ++ (x + 1) :: h :: (y + 1) :: q) : upS (S.ev l) y = x ∧ byS (S.ev l) y = (S.E h).getD Ed.zero := by
 have hnd := hl.nodup
 have e1 : Li.ev S.par 0 l (y + 1) = h := by
  have e' : l = (p ++ [x + 1]) ++ h :: (y + 1) :: q := by rw [e]; simp
  rw [e'] at hnd ⊢
  exact ev_next hnd
 have e2 : Li.ev S.par 0 l h = x + 1 := by
  rw [e] at hnd ⊢
  exact ev_next hnd
 unfold upS byS
 show ((Li.ev S.par 0 l (Li.ev S.par 0 l (y + 1)) : Nat) : Int) - 1 = _ ∧ (S.E (Li.ev S.par 0 l (y + 1))).getD _ = _
 rw [e1, e2]
 exact ⟨by omega, rfl⟩
theorem Ls.Ok.ev_rest (k : S.Ok) {v w : Nat} {l : List Nat} (hv : v < S.n) (hl : Ch S.par (v + 1) l) (hw : w < S.n) (hwl : w + 1 ∉ l) : upS (S.ev l) w = upS S w ∧ byS (S.ev l) w = byS S w := by
 have e1 : Li.ev S.par 0 l (w + 1) = S.par (w + 1) := ev_not_mem hwl
 have e2 : Li.ev S.par 0 l (S.par (w + 1)) = S.par (S.par (w + 1)) := by
  refine ev_not_mem fun hm => hwl ?_
  by_cases h0 : S.par (w + 1) = 0
  ·rw [h0] at hm; exact absurd hm (hl.nz (by omega))
  ·obtain ⟨e, he, hn⟩ := k.up_edge hw h0
   obtain ⟨p, q, ep⟩ := List.append_of_mem hm
   rcases List.eq_nil_or_concat p with rfl | ⟨p', z, rfl⟩
   ·obtain ⟨r, er⟩ := hl.head
    rw [er] at ep
    have := (List.cons.inj ep).1
    omega
   ·have e3 : l = p' ++ z :: S.par (w + 1) :: q := by rw [ep]; simp
    rw [e3] at hl
    have h1 := hl.par_eq.1
    obtain ⟨c, p2, _, _, _, _, c5⟩ := k.kid he
    have h2 := c5 z h1
    have h3 := c5 (w + 1) rfl
    rw [e3, h3, ← h2]
    exact List.mem_append_right _ (.head _)
 unfold upS byS
 show ((Li.ev S.par 0 l (Li.ev S.par 0 l (w + 1)) : Nat) : Int) - 1 = _ ∧ (S.E (Li.ev S.par 0 l (w + 1))).getD _ = _
 rw [e1, e2]
 exact ⟨rfl, rfl⟩
theorem Ls.Ok.link_up (k : S.Ok) {u v h w : Nat} {l : List Nat} {e : Ed} (hu : u < S.n) (hv : v < S.n) (hw : w < S.n) (eu : e.u = (u : Nat)) (ev' : e.v = (v : Nat)) (hl : Ch S.par (u + 1) l) (hh : S.n < h) (hE : S.E h = none) :
  upS (S.link l h e) w = (if w = u then (v : Int) else upS (S.ev l) w) ∧ byS (S.link l h e) w = (if w = u then e else byS (S.ev l) w) := by
 have k1 := k.evert ⟨by omega, by omega⟩ hl
 have hV : ¬ S.V h := by
  rintro (⟨_, h1⟩ | h1)
  ·omega
  ·rw [hE] at h1; cases h1
 have nk : ∀ y, Li.ev S.par 0 l y ≠ h := k1.no_kid hV (by omega)
 have tu : e.u.toNat = u := by omega
 have tv : e.v.toNat = v := by omega
 have epar : (S.link l h e).par = setP (setP (Li.ev S.par 0 l) h (v + 1)) (u + 1) h := by unfold Ls.link; rw [tu, tv]
 have eE : (S.link l h e).E = setE S.E h (some e) := rfl
 unfold upS byS
 rw [epar, eE]
 by_cases hwu : w = u
 ·subst hwu
  rw [if_pos rfl, if_pos rfl, setP_same, setP_ne _ (by omega), setP_same, setE_same]
  exact ⟨by omega, rfl⟩
 ·rw [if_neg hwu, if_neg hwu, setP_ne (i := w + 1) _ (by omega), setP_ne (i := w + 1) _ (by omega)]
  have n1 : Li.ev S.par 0 l (w + 1) ≠ u + 1 := fun e1 => by
   by_cases h0 : Li.ev S.par 0 l (w + 1) = 0
   ·omega
   ·obtain ⟨e2, _, h3⟩ := k1.up_edge (v := w) hw h0
    have h4 : (S.ev l).par (w + 1) = Li.ev S.par 0 l (w + 1) := rfl
    have h5 : (S.ev l).n = S.n := rfl
    omega
  have n2 : Li.ev S.par 0 l (w + 1) ≠ h := nk _
  rw [setP_ne _ n1, setP_ne _ n2, setE_ne _ _ n2]
  exact ⟨rfl, rfl⟩
theorem Ls.Ok.cut_up (k : S.Ok) {h c w : Nat} {e : Ed} (he : S.E h = some e) (hc : S.par (c + 1) = h) (hw : w < S.n) :
  upS (S.cut h (c + 1)) w = (if w = c then -1 else upS S w) ∧ byS (S.cut h (c + 1)) w = (if w = c then Ed.zero else byS S w) := by
 have k1 := k.cutOk he hc
 obtain ⟨q1, q2, q3, q4, q5⟩ := k.en h e he
 obtain ⟨c', p, c1, c2, c3, c4, c5⟩ := k.kid he
 by_cases hwc : w = c
 ·subst hwc
  rw [if_pos rfl, if_pos rfl]
  exact k1.rootU (setP_same _ _ _)
 ·rw [if_neg hwc, if_neg hwc]
  have n1 : S.par (w + 1) ≠ h := fun e1 => by have := c5 _ e1; have := c5 _ hc; omega
  have n2 : S.par (w + 1) ≠ c + 1 := fun e1 => by
   by_cases h0 : S.par (w + 1) = 0
   ·omega
   ·obtain ⟨e2, _, h3⟩ := k.up_edge (v := w) hw h0
    have := c5 _ hc
    omega
  unfold upS byS
  have ep : ∀ x, (S.cut h (c + 1)).par x = setP (setP S.par h 0) (c + 1) 0 x := fun _ => rfl
  have eE : (S.cut h (c + 1)).E = setE S.E h none := rfl
  rw [ep, ep, eE, setP_ne (i := w + 1) _ (by omega), setP_ne (i := w + 1) _ (by omega), setP_ne _ n2, setP_ne _ n1, setE_ne _ _ n1]
  exact ⟨rfl, rfl⟩
def Has1 (S : Ls) (id : Int) (c : Nat) : Prop := S.par (c + 1) ≠ 0 ∧ (byS S c).id = id
theorem Ls.Ok.has1 (k : S.Ok) {id : Int} {c : Nat} (hc : c < S.n) (h : Has1 S id c) : ∃ e, S.E (S.par (c + 1)) = some e ∧ e.id = id := by
 obtain ⟨e, p, h1, h2, h3, h4, h5, h6⟩ := k.hangs hc h.1
 exact ⟨e, h1, by rw [← h6]; exact h.2⟩
theorem Ls.Ok.has1_of (k : S.Ok) {id : Int} {h : Nat} {e : Ed} (he : S.E h = some e) (hi : e.id = id) : ∃ c, c < S.n ∧ S.par (c + 1) = h ∧ Has1 S id c := by
 obtain ⟨q1, q2, q3, q4, q5⟩ := k.en h e he
 obtain ⟨c', p, c1, c2, c3, c4, c5⟩ := k.kid he
 obtain ⟨c, rfl⟩ : ∃ c, c' = c + 1 := ⟨c' - 1, by omega⟩
 refine ⟨c, by omega, c1, by rw [c1]; omega, ?_⟩
 unfold byS
 rw [c1, he]
 exact hi
theorem upS_neg (k : S.Ok) {v : Nat} (hv : v < S.n) : (0 ≤ upS S v) ↔ S.par (v + 1) ≠ 0 := by
 by_cases h : S.par (v + 1) = 0
 ·rw [(k.rootU h).1]; simp [h]
 ·obtain ⟨e, p, h1, h2, h3, h4, h5, h6⟩ := k.hangs hv h
  rw [h5]
  exact ⟨fun _ => h, fun _ => by omega⟩
structure Str (S : Ls) (u v : Nat) (A B : List Nat) (w : Nat) (s : List Nat) : Prop where
 a : Ch S.par (u + 1) (A ++ (w + 1) :: s)
 b : Ch S.par (v + 1) (B ++ (w + 1) :: s)
 w : w < S.n
def eL (S : Ls) (l : List Nat) : List Ed := l.filterMap S.E
theorem eL_append (a b : List Nat) : eL S (a ++ b) = eL S a ++ eL S b := List.filterMap_append
theorem Str.last (k : S.Ok) {u v w : Nat} {A B s : List Nat} (hu : u < S.n) (h : Str S u v A B w s) : A = [] ∨ ∃ A' x e, A = A' ++ [x + 1, S.par (x + 1)] ∧ x < S.n ∧ S.E (S.par (x + 1)) = some e ∧ eL S A = eL S A' ++ [e] ∧ S.par (S.par (x + 1)) = w + 1 := by
 rcases List.eq_nil_or_concat A with e | ⟨A1, g, e⟩
 ·exact .inl e
 ·rw [List.concat_eq_append] at e
  subst e
  have ha := h.a
  have e1 : A1 ++ [g] ++ (w + 1) :: s = A1 ++ g :: (w + 1) :: s := by simp
  rw [e1] at ha
  have hg := ha.par_eq.1
  have hV := k.live ha (Ls.vtx hu)
  have hEg : (S.E g).isSome = true := k.vx (w + 1) g (by omega) (by have := h.w; omega) (.inr ⟨hg, by
   intro e0
   omega⟩)
  obtain ⟨e, he⟩ := Option.isSome_iff_exists.1 hEg
  obtain ⟨q1, q2, q3, q4, q5⟩ := k.en g e he
  rcases List.eq_nil_or_concat A1 with e2 | ⟨A2, y, e2⟩
  ·subst e2
   obtain ⟨r, er⟩ := ha.head
   have := (List.cons.inj er).1
   omega
  ·rw [List.concat_eq_append] at e2
   subst e2
   have e3 : A2 ++ [y] ++ g :: (w + 1) :: s = A2 ++ y :: g :: (w + 1) :: s := by simp
   rw [e3] at ha
   have hy := ha.par_eq.1
   have hyV := (k.ad g e y he).1 (.inr ⟨hy, by omega⟩)
   obtain ⟨x, rfl⟩ : ∃ x, y = x + 1 := ⟨y - 1, by omega⟩
   refine .inr ⟨A2, x, e, by rw [hy]; simp, by omega, by rw [hy]; exact he, ?_, by rw [hy]; exact hg⟩
   have ex : S.E (x + 1) = none := k.eno (by omega)
   rw [eL_append, eL_append]
   unfold eL
   simp [ex, he]
theorem Str.symm {u v w : Nat} {A B s : List Nat} (h : Str S u v A B w s) : Str S v u B A w s := ⟨h.b, h.a, h.w⟩
theorem Str.way (k : S.Ok) {u v w : Nat} {A B s : List Nat} (hu : u < S.n) (hv : v < S.n) (h : Str S u v A B w s) (hd : ∀ a ∈ (eL S A).getLast?, ∀ b ∈ (eL S B).getLast?, a.id ≠ b.id) :
  SP S.par (u + 1) (v + 1) (A ++ (w + 1) :: B.reverse) ∧ eL S (A ++ (w + 1) :: B.reverse) = eL S A ++ (eL S B).reverse := by
 have ha := h.a
 have hb := h.b
 have na := ha.nodup
 have nb := hb.nodup
 have dis : ∀ x ∈ A, x ∉ B := fun x hxa hxb => by
  obtain ⟨A1, A2, ea⟩ := List.append_of_mem hxa
  obtain ⟨B1, B2, eb⟩ := List.append_of_mem hxb
  have h1 : Ch S.par x (x :: (A2 ++ (w + 1) :: s)) := by
   have h2 := ha
   rw [ea, List.append_assoc] at h2
   exact h2.tail
  have h2 : Ch S.par x (x :: (B2 ++ (w + 1) :: s)) := by
   have h2 := hb
   rw [eb, List.append_assoc] at h2
   exact h2.tail
  have h3 := List.append_cancel_right (List.cons.inj (h1.uniq h2)).2
  subst h3
  rcases h.last k hu with e | ⟨A', y, e, e1, e2, e3, e4, _⟩
  ·rw [e] at hxa; cases hxa
  rcases h.symm.last k hv with e' | ⟨B', z, e', e1', e2', e3', e4', _⟩
  ·rw [e'] at hxb; cases hxb
  have l1 : A.getLast? = some (S.par (y + 1)) := by rw [e1]; simp
  have l2 : B.getLast? = some (S.par (z + 1)) := by rw [e1']; simp
  have l3 : A.getLast? = B.getLast? := by rw [ea, eb, List.getLast?_append, List.getLast?_append, List.getLast?_cons]; rfl
  rw [l1, l2] at l3
  have l4 := Option.some.inj l3
  rw [l4, e3'] at e3
  refine hd e (by rw [e4]; simp) e' (by rw [e4']; simp) (by rw [Option.some.inj e3])
 have ew : S.E (w + 1) = none := k.eno (by have := h.w; omega)
 refine ⟨⟨?_, ?_, ?_, ?_⟩, ?_⟩
 ·obtain ⟨r, er⟩ := ha.head
  cases A with
  | nil => rw [List.nil_append] at er ⊢; rw [(List.cons.inj er).1]; rfl
  | cons y r2 => rw [List.cons_append] at er; rw [(List.cons.inj er).1]; rfl
 ·obtain ⟨r, er⟩ := hb.head
  cases B with
  | nil => rw [List.nil_append] at er; rw [(List.cons.inj er).1]; simp
  | cons y r2 => rw [List.cons_append] at er; rw [(List.cons.inj er).1]; simp [List.getLast?_append, List.getLast?_cons]
 ·rw [List.nodup_append] at na nb ⊢
  obtain ⟨a1, a2, a3⟩ := na
  obtain ⟨b1, b2, b3⟩ := nb
  refine ⟨a1, ?_, fun x hx y hy e => ?_⟩
  ·rw [List.nodup_cons]
   refine ⟨fun hm => ?_, (List.reverse_perm B).nodup_iff.2 b1⟩
   exact b3 (w + 1) (List.mem_reverse.1 hm) (w + 1) (.head _) rfl
  ·subst e
   rcases List.mem_cons.1 hy with rfl | hy
   ·exact a3 (w + 1) hx (w + 1) (.head _) rfl
   ·exact dis x hx (List.mem_reverse.1 hy)
 ·have w1 := ha.wk
  have w2 := hb.wk
  have e1 : A ++ (w + 1) :: s = (A ++ [w + 1]) ++ s := by simp
  have e2 : B ++ (w + 1) :: s = (B ++ [w + 1]) ++ s := by simp
  rw [e1] at w1
  rw [e2] at w2
  have w3 := w2.left.reverse
  rw [List.reverse_append] at w3
  exact wk_join w1.left w3
 ·rw [eL_append]
  congr 1
  unfold eL
  rw [List.filterMap_cons, ew, List.filterMap_reverse]
where
 wk_join {par : Par} : ∀ {p q : List Nat} {x : Nat}, Wk par (p ++ [x]) → Wk par (x :: q) → Wk par (p ++ x :: q)
  | [], _, _, _, h => h
  | [z], _, _, h, k => ⟨h.1, k⟩
  | z :: y :: p, _, _, h, k => ⟨h.1, wk_join (p := y :: p) h.2 k⟩
theorem outI_eL (l : List Nat) : outI S.E l = (eL S l).map (·.id) := by
 unfold outI eL
 rw [List.map_filterMap]
end
end Go.Li
namespace Go.Li
open Go Go.Hp
def zrow (n : Nat) (U : Nat → Int) : List Int := (List.range n).map U
def updI (U : Nat → Int) (i : Nat) (x : Int) : Nat → Int := fun j => if j = i then x else U j
def updE (B : Nat → Ed) (i : Nat) (x : Ed) : Nat → Ed := fun j => if j = i then x else B j
theorem zrow_len (n : Nat) (U : Nat → Int) : (zrow n U).length = n := by simp [zrow]
theorem zrow_get {n i : Nat} (U : Nat → Int) (hi : i < n) : (zrow n U)[i]? = some (U i) := by simp [zrow, hi]
theorem zrow_congr {n : Nat} {U U' : Nat → Int} (h : ∀ i, i < n → U' i = U i) : zrow n U' = zrow n U := List.map_congr_left fun i hi => h i (List.mem_range.1 hi)
theorem zrow_set {n i : Nat} (U : Nat → Int) (x : Int) : (zrow n U).set i x = zrow n (updI U i x) := by
 apply List.ext_getElem?
 intro k
 rw [List.getElem?_set]
 by_cases hk : i = k
 ·subst hk
  by_cases hi : i < n
  ·simp [zrow, hi, updI]
  ·simp [zrow, hi]
 ·rw [if_neg hk]
  by_cases hkn : k < n
  ·simp [zrow, hkn, updI, Ne.symm hk]
  ·simp [zrow, hkn]
def rowsE (n : Nat) (B : Nat → Ed) : List Value := ((List.range n).map fun i => (B i).cells).flatten
theorem rowsE_len (n : Nat) (B : Nat → Ed) : (rowsE n B).length = n * 4 := by
 unfold rowsE
 induction n with
 | zero => rfl
 | succ n ih => rw [List.range_succ, List.map_append, List.flatten_append, List.length_append, ih]; simp [Ed.cells]; omega
theorem rowsE_get {n i j : Nat} (B : Nat → Ed) (hi : i < n) (hj : j < 4) : (rowsE n B)[i * 4 + j]? = (B i).cells[j]? :=
 Li.flat_get (k := 4) (fun r hr => by obtain ⟨a, _, rfl⟩ := List.mem_map.1 hr; rfl) (by simp [hi]) hj
theorem rowsE_set {n i j : Nat} (B : Nat → Ed) (hi : i < n) (hj : j < 4) {v : Value} {r : Ed} (hr : r.cells = (B i).cells.set j v) : (rowsE n B).set (i * 4 + j) v = rowsE n (updE B i r) := by
 unfold rowsE
 rw [Li.flat_set (k := 4) (fun r hr => by obtain ⟨a, _, rfl⟩ := List.mem_map.1 hr; rfl) (r := (B i).cells) v (by simp [hi]) hj, ← hr]
 congr 1
 apply List.ext_getElem?
 intro k
 rw [List.getElem?_set]
 by_cases hk : i = k
 ·subst hk
  simp [hi, updE]
 ·rw [if_neg hk]
  simp only [List.getElem?_map]
  by_cases hkl : k < n
  ·rw [List.getElem?_range hkl]
   simp [updE, Ne.symm hk]
  ·rw [List.getElem?_eq_none (by simp; omega)]; rfl
theorem rowsE_congr {n : Nat} {B B' : Nat → Ed} (h : ∀ i, i < n → B' i = B i) : rowsE n B' = rowsE n B := by
 unfold rowsE
 congr 1
 exact List.map_congr_left fun i hi => by rw [h i (List.mem_range.1 hi)]
theorem updE_same (B : Nat → Ed) (i : Nat) (x : Ed) : updE B i x i = x := if_pos rfl
theorem updE_upd (B : Nat → Ed) (i : Nat) (x y : Ed) : updE (updE B i x) i y = updE B i y := by
 funext j; unfold updE; split <;> rfl
structure RX (H : Heap) (x gu gb n cu : Nat) (U : Nat → Int) (B : Nat → Ed) : Prop where
 hd : Blk H x [.slice (some ⟨gu, 0, none⟩) n cu, .slice (some ⟨gb, 0, none⟩) n n]
 up : IR H (some gu) (.slice (some ⟨gu, 0, none⟩) n cu) (zrow n U)
 by' : Blk H gb (rowsE n B)
 ap : x ≠ gu ∧ x ≠ gb ∧ gu ≠ gb
section
variable {H H' : Heap} {x gu gb n cu : Nat} {U : Nat → Int} {B : Nat → Ed}
theorem RX.frame {T0 : Nat → Prop} (h : RX H x gu gb n cu U B) (hf : Fr T0 H H') (h1 : ¬ T0 x) (h2 : ¬ T0 gu) (h3 : ¬ T0 gb) : RX H' x gu gb n cu U B :=
 ⟨h.hd.frame hf h1, h.up.frame hf fun b hb => by obtain rfl := Option.some.inj hb; exact h2, h.by'.frame hf h3, h.ap⟩
theorem RX.grow (h : RX H x gu gb n cu U B) (hf : Fr (fun _ => False) H H') : RX H' x gu gb n cu U B := h.frame hf (fun h => h) (fun h => h) fun h => h
theorem RX.congr {U' : Nat → Int} {B' : Nat → Ed} (h : RX H x gu gb n cu U B) (hU : ∀ i, i < n → U' i = U i) (hB : ∀ i, i < n → B' i = B i) : RX H x gu gb n cu U' B' :=
 ⟨h.hd, by rw [zrow_congr hU]; exact h.up, by rw [rowsE_congr hB]; exact h.by', h.ap⟩
theorem RX.h0 (h : RX H x gu gb n cu U B) : hcell H ⟨x, 0, none⟩ = some (.slice (some ⟨gu, 0, none⟩) n cu) := h.hd.cellOf (i := 0) rfl
theorem RX.h1 (h : RX H x gu gb n cu U B) : hcell H ⟨x, 1, none⟩ = some (.slice (some ⟨gb, 0, none⟩) n n) := h.hd.cellOf (i := 1) rfl
theorem RX.uc (h : RX H x gu gb n cu U B) {i : Nat} (hi : i < n) : hcell H ⟨gu, i, none⟩ = some (.int .i64 (U i)) := h.up.cell (zrow_get U hi)
theorem RX.bc (h : RX H x gu gb n cu U B) {i : Nat} (hi : i < n) (j : Nat) {v : Value} (hj : (B i).cells[j]? = some v) : hcell H ⟨gb, i * 4 + j, none⟩ = some v := by
 have h4 : j < 4 := (List.getElem?_eq_some_iff.1 hj).1
 exact h.by'.cellOf (by rw [rowsE_get B hi h4]; exact hj)
theorem RX.b0 (h : RX H x gu gb n cu U B) {i : Nat} (hi : i < n) : hcell H ⟨gb, i * 4, none⟩ = some (.int .i64 (B i).id) := h.bc hi 0 rfl
theorem RX.lt (h : RX H x gu gb n cu U B) : x < H.size ∧ gu < H.size ∧ gb < H.size := ⟨h.hd.lt, h.up.lt rfl, h.by'.lt⟩
theorem RX.setU (h : RX H x gu gb n cu U B) {i : Nat} (hi : i < n) (y : Int) : okW H ⟨gu, i, none⟩ ∧ RX (hset H ⟨gu, i, none⟩ (.int .i64 y)) x gu gb n cu (updI U i y) B ∧ Fr (· = gu) H (hset H ⟨gu, i, none⟩ (.int .i64 y)) := by
 obtain ⟨h1, h2⟩ := h.up.write (i := i) (by rw [zrow_len]; exact hi) y
 have hf : Fr (· = gu) H (hset H ⟨gu, i, none⟩ (.int .i64 y)) := Fr.set (S := (· = gu)) (Fr.refl _ _) (.inl rfl) _
 rw [zrow_set] at h2
 exact ⟨h1, ⟨h.hd.frame hf h.ap.1, h2, h.by'.frame hf (Ne.symm h.ap.2.2), h.ap⟩, hf⟩
theorem RX.setB1 (h : RX H x gu gb n cu U B) {i j : Nat} (hi : i < n) (hj : j < 4) {v : Value} {r : Ed} (hr : r.cells = (B i).cells.set j v) : okW H ⟨gb, i * 4 + j, none⟩ ∧ RX (hset H ⟨gb, i * 4 + j, none⟩ v) x gu gb n cu U (updE B i r) ∧ Fr (· = gb) H (hset H ⟨gb, i * 4 + j, none⟩ v) := by
 have hf : Fr (· = gb) H (hset H ⟨gb, i * 4 + j, none⟩ v) := Fr.set (S := (· = gb)) (Fr.refl _ _) (.inl rfl) _
 have h2 := h.by'.set_same (i * 4 + j) v
 rw [rowsE_set B hi hj hr] at h2
 exact ⟨h.by'.okW (by rw [rowsE_len]; omega), ⟨h.hd.frame hf h.ap.2.1, h.up.frame hf fun b hb => by obtain rfl := Option.some.inj hb; exact h.ap.2.2, h2, h.ap⟩, hf⟩
theorem RX.okB (h : RX H x gu gb n cu U B) {i : Nat} (hi : i < n) : okW H ⟨gb, i * 4, none⟩ ∧ okW H ⟨gb, i * 4 + 1, none⟩ ∧ okW H ⟨gb, i * 4 + 2, none⟩ ∧ okW H ⟨gb, i * 4 + 3, none⟩ :=
 ⟨h.by'.okW (by rw [rowsE_len]; omega), h.by'.okW (by rw [rowsE_len]; omega), h.by'.okW (by rw [rowsE_len]; omega), h.by'.okW (by rw [rowsE_len]; omega)⟩
theorem RX.setB (h : RX H x gu gb n cu U B) {i : Nat} (hi : i < n) (e : Ed) :
  RX (hset (hset (hset (hset H ⟨gb, i * 4, none⟩ (.int .i64 e.id)) ⟨gb, i * 4 + 1, none⟩ (.int .i64 e.u)) ⟨gb, i * 4 + 2, none⟩ (.int .i64 e.v)) ⟨gb, i * 4 + 3, none⟩ (.int .i64 e.w)) x gu gb n cu U (updE B i e) ∧
  Fr (· = gb) H (hset (hset (hset (hset H ⟨gb, i * 4, none⟩ (.int .i64 e.id)) ⟨gb, i * 4 + 1, none⟩ (.int .i64 e.u)) ⟨gb, i * 4 + 2, none⟩ (.int .i64 e.v)) ⟨gb, i * 4 + 3, none⟩ (.int .i64 e.w)) := by
 obtain ⟨_, k1, f1⟩ := h.setB1 (j := 0) hi (by omega) (v := .int .i64 e.id) (r := { B i with id := e.id }) rfl
 obtain ⟨_, k2, f2⟩ := k1.setB1 (j := 1) hi (by omega) (v := .int .i64 e.u) (r := { B i with id := e.id, u := e.u }) (by rw [updE_same]; rfl)
 obtain ⟨_, k3, f3⟩ := k2.setB1 (j := 2) hi (by omega) (v := .int .i64 e.v) (r := { B i with id := e.id, u := e.u, v := e.v }) (by rw [updE_same]; rfl)
 obtain ⟨_, k4, f4⟩ := k3.setB1 (j := 3) hi (by omega) (v := .int .i64 e.w) (r := e) (by rw [updE_same]; rfl)
 rw [updE_upd, updE_upd, updE_upd] at k4
 exact ⟨k4, ((f1.trans f2).trans f3).trans f4⟩
end
end Go.Li
namespace Go.Proofs.Ytoplhfhjokjbiaa
open Go Go.Hp Go.Li
set_option linter.all false
set_option maxRecDepth 100000
set_option maxHeartbeats 1600000
section
variable {H H' : Heap} {x gu gb n cu : Nat} {U : Nat → Int} {B : Nat → Ed} {S : Ls} {K : Value → Heap → Prop} {e : Env} {Z : HX → Env → Heap → Prop}
theorem edge_box {H : Heap} (e : Ed) {T0 : TypeId} : Blk (hset (hset (hset (hset (H.push (.cells #[.int .i64 0, .int .i64 0, .int .i64 0, .int .i64 0] T0)) ⟨H.size, 0, none⟩ (.int .i64 e.id)) ⟨H.size, 1, none⟩ (.int .i64 e.u)) ⟨H.size, 2, none⟩ (.int .i64 e.v)) ⟨H.size, 3, none⟩ (.int .i64 e.w)) H.size e.cells ∧
  Fr (fun _ => False) H (hset (hset (hset (hset (H.push (.cells #[.int .i64 0, .int .i64 0, .int .i64 0, .int .i64 0] T0)) ⟨H.size, 0, none⟩ (.int .i64 e.id)) ⟨H.size, 1, none⟩ (.int .i64 e.u)) ⟨H.size, 2, none⟩ (.int .i64 e.v)) ⟨H.size, 3, none⟩ (.int .i64 e.w)) := by
 have bn := Blk.new H [.int .i64 0, .int .i64 0, .int .i64 0, .int .i64 0] T0
 have fn : Fr (fun _ => False) H (H.push (.cells #[.int .i64 0, .int .i64 0, .int .i64 0, .int .i64 0] T0)) := (Fr.refl _ H).push _
 obtain ⟨b7, f7⟩ := store4 bn (.int .i64 e.id) (.int .i64 e.u) (.int .i64 e.v) (.int .i64 e.w)
 exact ⟨b7, fn.trans' f7 fun b hb (e : b = H.size) => by omega⟩
theorem rx_Has {v : Int} (h : RX H x gu gb n cu U B) (fin : K (.bool (inB n v)) H) : CallsH Try.prog 50 #[.pointer (some ⟨x, 0, none⟩), .int .i64 v] H K := by
 unfold inB at fin
 have c0 := h.h0
 refine call50 (by simp) ?_
 simp only [Try.f50, Option.getD_some]
 by_cases h0 : 0 ≤ v
 ·have t1 : (0 ≤ v) = True := eq_true h0
  have t2 : decide (0 ≤ v) = true := decide_eq_true h0
  rw [t2, Bool.true_and] at fin
  repeat' (first|(with_reducible first|refine jA ?_|(refine hK _ _ ?_;clear hK K)|refine jJ fun K hK=>?_|refine jK ?_|refine jL ?_|refine jM ?_|refine jN ?_|refine jO ?_|refine jP ?_|refine jQ ?_|(refine jB ?_;clear hK K)|(refine jC ?_;clear hK K)|refine jD ?_|refine jE ?_|refine jG ?_|refine jH ?_|refine jI ?_)|((with_reducible refine jR ?hq ?_);case hq=>rfl)|((first|(with_reducible first|refine jS fun K hK=>?_|refine jT ?_|refine jU ?_)|((with_reducible refine jV ?hy fun K hK=>?_);case hy=>rfl));simp only [go_sem, Nat.reduceEqDiff, Nat.reduceAdd, Nat.reduceMul, Nat.reduceLeDiff, Nat.reduceLT, Int.reduceLT, Int.reduceLE, Int.reduceEq, Int.reduceNeg, Int.reduceToNat, Nat.reducePow, reduceIte, reduceCtorEq, t1, c0])|((with_reducible first|refine jW ?hy ?_|refine jY ?hy ?_);case hy=>rfl)|((with_reducible first|refine jX ?hy ?_|refine jZ ?hy ?_);case hy=>rfl)|((with_reducible refine jF ?hy ?_);case hy=>decide))
  exact fin
 ·have t1 : (0 ≤ v) = False := eq_false h0
  have t2 : decide (0 ≤ v) = false := decide_eq_false h0
  rw [t2, Bool.false_and] at fin
  repeat' (first|(with_reducible first|refine jA ?_|(refine hK _ _ ?_;clear hK K)|refine jJ fun K hK=>?_|refine jK ?_|refine jL ?_|refine jM ?_|refine jN ?_|refine jO ?_|refine jP ?_|refine jQ ?_|(refine jB ?_;clear hK K)|(refine jC ?_;clear hK K)|refine jD ?_|refine jE ?_|refine jG ?_|refine jH ?_|refine jI ?_)|((with_reducible refine jR ?hq ?_);case hq=>rfl)|((first|(with_reducible first|refine jS fun K hK=>?_|refine jT ?_|refine jU ?_)|((with_reducible refine jV ?hy fun K hK=>?_);case hy=>rfl));simp only [go_sem, Nat.reduceEqDiff, Nat.reduceAdd, Nat.reduceMul, Nat.reduceLeDiff, Nat.reduceLT, Int.reduceLT, Int.reduceLE, Int.reduceEq, Int.reduceNeg, Int.reduceToNat, Nat.reducePow, reduceIte, reduceCtorEq, t1])|((with_reducible first|refine jW ?hy ?_|refine jY ?hy ?_);case hy=>rfl)|((with_reducible first|refine jX ?hy ?_|refine jZ ?hy ?_);case hy=>rfl)|((with_reducible refine jF ?hy ?_);case hy=>decide))
  exact fin
theorem rx_both {u v : Int} (h : RX H x gu gb n cu U B) (fin : K (.bool (inB n u && inB n v)) H) : CallsH Try.prog 46 #[.pointer (some ⟨x, 0, none⟩), .int .i64 u, .int .i64 v] H K := by
 refine call46 (by simp) ?_
 simp only [Try.f46, Option.getD_some]
 repeat' (first|(with_reducible first|refine jA ?_|(refine hK _ _ ?_;clear hK K)|refine jJ fun K hK=>?_|refine jK ?_|refine jL ?_|refine jM ?_|refine jN ?_|refine jO ?_|refine jP ?_|refine jQ ?_|(refine jB ?_;clear hK K)|(refine jC ?_;clear hK K)|refine jD ?_|refine jE ?_|refine jG ?_|refine jH ?_|refine jI ?_)|((with_reducible refine jR ?hq ?_);case hq=>rfl)|((first|(with_reducible first|refine jS fun K hK=>?_|refine jT ?_|refine jU ?_)|((with_reducible refine jV ?hy fun K hK=>?_);case hy=>rfl));simp only [go_sem, Nat.reduceEqDiff, Nat.reduceAdd, Nat.reduceMul, Nat.reduceLeDiff, Nat.reduceLT, Int.reduceLT, Int.reduceLE, Int.reduceEq, Int.reduceNeg, Int.reduceToNat, Nat.reducePow, reduceIte, reduceCtorEq])|((with_reducible first|refine jW ?hy ?_|refine jY ?hy ?_);case hy=>rfl)|((with_reducible first|refine jX ?hy ?_|refine jZ ?hy ?_);case hy=>rfl)|((with_reducible refine jF ?hy ?_);case hy=>decide))
 refine rx_Has h ?_
 repeat' (first|(with_reducible first|refine jA ?_|(refine hK _ _ ?_;clear hK K)|refine jJ fun K hK=>?_|refine jK ?_|refine jL ?_|refine jM ?_|refine jN ?_|refine jO ?_|refine jP ?_|refine jQ ?_|(refine jB ?_;clear hK K)|(refine jC ?_;clear hK K)|refine jD ?_|refine jE ?_|refine jG ?_|refine jH ?_|refine jI ?_)|((with_reducible refine jR ?hq ?_);case hq=>rfl)|((first|(with_reducible first|refine jS fun K hK=>?_|refine jT ?_|refine jU ?_)|((with_reducible refine jV ?hy fun K hK=>?_);case hy=>rfl));simp only [go_sem, Nat.reduceEqDiff, Nat.reduceAdd, Nat.reduceMul, Nat.reduceLeDiff, Nat.reduceLT, Int.reduceLT, Int.reduceLE, Int.reduceEq, Int.reduceNeg, Int.reduceToNat, Nat.reducePow, reduceIte, reduceCtorEq])|((with_reducible first|refine jW ?hy ?_|refine jY ?hy ?_);case hy=>rfl)|((with_reducible first|refine jX ?hy ?_|refine jZ ?hy ?_);case hy=>rfl)|((with_reducible refine jF ?hy ?_);case hy=>decide))
 refine rx_Has h ?_
 cases h1 : inB n u with
 | true =>
  rw [h1, Bool.true_and] at fin
  repeat' (first|(with_reducible first|refine jA ?_|(refine hK _ _ ?_;clear hK K)|refine jJ fun K hK=>?_|refine jK ?_|refine jL ?_|refine jM ?_|refine jN ?_|refine jO ?_|refine jP ?_|refine jQ ?_|(refine jB ?_;clear hK K)|(refine jC ?_;clear hK K)|refine jD ?_|refine jE ?_|refine jG ?_|refine jH ?_|refine jI ?_)|((with_reducible refine jR ?hq ?_);case hq=>rfl)|((first|(with_reducible first|refine jS fun K hK=>?_|refine jT ?_|refine jU ?_)|((with_reducible refine jV ?hy fun K hK=>?_);case hy=>rfl));simp only [go_sem, Nat.reduceEqDiff, Nat.reduceAdd, Nat.reduceMul, Nat.reduceLeDiff, Nat.reduceLT, Int.reduceLT, Int.reduceLE, Int.reduceEq, Int.reduceNeg, Int.reduceToNat, Nat.reducePow, reduceIte, reduceCtorEq, h1])|((with_reducible first|refine jW ?hy ?_|refine jY ?hy ?_);case hy=>rfl)|((with_reducible first|refine jX ?hy ?_|refine jZ ?hy ?_);case hy=>rfl)|((with_reducible refine jF ?hy ?_);case hy=>decide))
  exact fin
 | false =>
  rw [h1, Bool.false_and] at fin
  repeat' (first|(with_reducible first|refine jA ?_|(refine hK _ _ ?_;clear hK K)|refine jJ fun K hK=>?_|refine jK ?_|refine jL ?_|refine jM ?_|refine jN ?_|refine jO ?_|refine jP ?_|refine jQ ?_|(refine jB ?_;clear hK K)|(refine jC ?_;clear hK K)|refine jD ?_|refine jE ?_|refine jG ?_|refine jH ?_|refine jI ?_)|((with_reducible refine jR ?hq ?_);case hq=>rfl)|((first|(with_reducible first|refine jS fun K hK=>?_|refine jT ?_|refine jU ?_)|((with_reducible refine jV ?hy fun K hK=>?_);case hy=>rfl));simp only [go_sem, Nat.reduceEqDiff, Nat.reduceAdd, Nat.reduceMul, Nat.reduceLeDiff, Nat.reduceLT, Int.reduceLT, Int.reduceLE, Int.reduceEq, Int.reduceNeg, Int.reduceToNat, Nat.reducePow, reduceIte, reduceCtorEq, h1])|((with_reducible first|refine jW ?hy ?_|refine jY ?hy ?_);case hy=>rfl)|((with_reducible first|refine jX ?hy ?_|refine jZ ?hy ?_);case hy=>rfl)|((with_reducible refine jF ?hy ?_);case hy=>decide))
  exact fin
theorem rx_root {v r : Nat} (h : RX H x gu gb S.n cu (upS S) (byS S)) (k : S.Ok) (hv : v < S.n) (hr : RootOf S.par (v + 1) (r + 1)) (fin : K (.int .i64 (r : Nat)) H) : CallsH Try.prog 48 #[.pointer (some ⟨x, 0, none⟩), .int .i64 (v : Nat)] H K := by
 have c0 := h.h0
 obtain ⟨l, hl, hlast⟩ := hr
 refine call48 (by simp) ?_
 simp only [Try.f48, Option.getD_some]
 repeat' (first|(with_reducible first|refine jA ?_|(refine hK _ _ ?_;clear hK K)|refine jJ fun K hK=>?_|refine jK ?_|refine jL ?_|refine jM ?_|refine jN ?_|refine jO ?_|refine jP ?_|refine jQ ?_|(refine jB ?_;clear hK K)|(refine jC ?_;clear hK K)|refine jD ?_|refine jE ?_|refine jG ?_|refine jH ?_|refine jI ?_)|((with_reducible refine jR ?hq ?_);case hq=>rfl)|((first|(with_reducible first|refine jS fun K hK=>?_|refine jT ?_|refine jU ?_)|((with_reducible refine jV ?hy fun K hK=>?_);case hy=>rfl));simp only [go_sem, Nat.reduceEqDiff, Nat.reduceAdd, Nat.reduceMul, Nat.reduceLeDiff, Nat.reduceLT, Int.reduceLT, Int.reduceLE, Int.reduceEq, Int.reduceNeg, Int.reduceToNat, Nat.reducePow, reduceIte, reduceCtorEq])|((with_reducible first|refine jW ?hy ?_|refine jY ?hy ?_);case hy=>rfl)|((with_reducible first|refine jX ?hy ?_|refine jZ ?hy ?_);case hy=>rfl)|((with_reducible refine jF ?hy ?_);case hy=>decide))
 refine x_loop (fun m e' H' => ∃ (c : Nat) (l' : List Nat), H' = H ∧ e' 1 = .int .i64 (c : Nat) ∧ c < S.n ∧ Ch S.par (c + 1) l' ∧ l'.getLast? = some (r + 1) ∧ m = l'.length) l.length ⟨v, l, rfl, rfl, hv, hl, hlast, rfl⟩ ?_
 rintro m e1 H1 ⟨c, l', rfl, i1, hc, hl', hla, rfl⟩ hoff
 have i0 : e1 0 = .pointer (some ⟨x, 0, none⟩) := (hoff 0 rfl).trans rfl
 clear hoff
 have cu' := h.uc hc
 have t0 : (c < S.n) = True := eq_true hc
 rcases k.chain_cases hc hl' with ⟨rfl, h1, _⟩ | ⟨g, ed, p, l2, rfl, h2, _, h3, _, h4, _, _⟩
 ·have er : c = r := by simpa using hla
  rw [h1] at cu'
  have t1 : ((0 : Int) ≤ -1) = False := by simp
  repeat' (first|(with_reducible first|refine jA ?_|(refine hK _ _ ?_;clear hK K)|refine jJ fun K hK=>?_|refine jK ?_|refine jL ?_|refine jM ?_|refine jN ?_|refine jO ?_|refine jP ?_|refine jQ ?_|(refine jB ?_;clear hK K)|(refine jC ?_;clear hK K)|refine jD ?_|refine jE ?_|refine jG ?_|refine jH ?_|refine jI ?_)|((with_reducible refine jR ?hq ?_);case hq=>rfl)|((first|(with_reducible first|refine jS fun K hK=>?_|refine jT ?_|refine jU ?_)|((with_reducible refine jV ?hy fun K hK=>?_);case hy=>rfl));simp only [go_sem, Nat.reduceEqDiff, Nat.reduceAdd, Nat.reduceMul, Nat.reduceLeDiff, Nat.reduceLT, Int.reduceLT, Int.reduceLE, Int.reduceEq, Int.reduceNeg, Int.reduceToNat, Nat.reducePow, reduceIte, reduceCtorEq, i0, i1, c0, t0, cu', t1])|((with_reducible first|refine jW ?hy ?_|refine jY ?hy ?_);case hy=>rfl)|((with_reducible first|refine jX ?hy ?_|refine jZ ?hy ?_);case hy=>rfl)|((with_reducible refine jF ?hy ?_);case hy=>decide))
  rw [er]
  exact fin
 ·rw [h3] at cu'
  have t1 : ((0 : Int) ≤ (p : Nat)) = True := by simp
  repeat' (first|(with_reducible first|refine jA ?_|(refine hK _ _ ?_;clear hK K)|refine jJ fun K hK=>?_|refine jK ?_|refine jL ?_|refine jM ?_|refine jN ?_|refine jO ?_|refine jP ?_|refine jQ ?_|(refine jB ?_;clear hK K)|(refine jC ?_;clear hK K)|refine jD ?_|refine jE ?_|refine jG ?_|refine jH ?_|refine jI ?_)|((with_reducible refine jR ?hq ?_);case hq=>rfl)|((first|(with_reducible first|refine jS fun K hK=>?_|refine jT ?_|refine jU ?_)|((with_reducible refine jV ?hy fun K hK=>?_);case hy=>rfl));simp only [go_sem, Nat.reduceEqDiff, Nat.reduceAdd, Nat.reduceMul, Nat.reduceLeDiff, Nat.reduceLT, Int.reduceLT, Int.reduceLE, Int.reduceEq, Int.reduceNeg, Int.reduceToNat, Nat.reducePow, reduceIte, reduceCtorEq, i0, i1, c0, t0, cu', t1])|((with_reducible first|refine jW ?hy ?_|refine jY ?hy ?_);case hy=>rfl)|((with_reducible first|refine jX ?hy ?_|refine jZ ?hy ?_);case hy=>rfl)|((with_reducible refine jF ?hy ?_);case hy=>decide))
  refine loop_normal (m' := l2.length) (by simp; omega) ⟨p, l2, rfl, rfl, h4, h2, ?_, rfl⟩
  obtain ⟨r2, rfl⟩ := h2.head
  simpa [List.getLast?_cons_cons] using hla
theorem rx_edge {id : Int} (h : RX H x gu gb S.n cu (upS S) (byS S)) (k : S.Ok)
  (yes : ∀ c : Nat, c < S.n → Has1 S id c → K (.int .i64 (c : Nat)) H) (no : (∀ c, c < S.n → ¬ Has1 S id c) → K (.int .i64 (-1)) H) : CallsH Try.prog 47 #[.pointer (some ⟨x, 0, none⟩), .int .i64 id] H K := by
 have c0 := h.h0
 have c1 := h.h1
 have n64 := k.n64
 refine call47 (by simp) ?_
 simp only [Try.f47, Option.getD_some]
 repeat' (first|(with_reducible first|refine jA ?_|(refine hK _ _ ?_;clear hK K)|refine jJ fun K hK=>?_|refine jK ?_|refine jL ?_|refine jM ?_|refine jN ?_|refine jO ?_|refine jP ?_|refine jQ ?_|(refine jB ?_;clear hK K)|(refine jC ?_;clear hK K)|refine jD ?_|refine jE ?_|refine jG ?_|refine jH ?_|refine jI ?_)|((with_reducible refine jR ?hq ?_);case hq=>rfl)|((first|(with_reducible first|refine jS fun K hK=>?_|refine jT ?_|refine jU ?_)|((with_reducible refine jV ?hy fun K hK=>?_);case hy=>rfl));simp only [go_sem, Nat.reduceEqDiff, Nat.reduceAdd, Nat.reduceMul, Nat.reduceLeDiff, Nat.reduceLT, Int.reduceLT, Int.reduceLE, Int.reduceEq, Int.reduceNeg, Int.reduceToNat, Nat.reducePow, reduceIte, reduceCtorEq])|((with_reducible first|refine jW ?hy ?_|refine jY ?hy ?_);case hy=>rfl)|((with_reducible first|refine jX ?hy ?_|refine jZ ?hy ?_);case hy=>rfl)|((with_reducible refine jF ?hy ?_);case hy=>decide))
 refine x_loop (fun m e' H' => ∃ c : Nat, H' = H ∧ e' 5 = .int .i64 (c : Nat) ∧ c ≤ S.n ∧ (∀ j, j < c → ¬ Has1 S id j) ∧ m = S.n - c) S.n ⟨0, rfl, rfl, Nat.zero_le _, fun j hj => (by omega), rfl⟩ ?_
 rintro m e1 H1 ⟨c, rfl, i5, hc, hall, rfl⟩ hoff
 have i0 : e1 0 = .pointer (some ⟨x, 0, none⟩) := (hoff 0 rfl).trans rfl
 have i1 : e1 1 = .int .i64 id := (hoff 1 rfl).trans rfl
 clear hoff
 by_cases hlt : c < S.n
 ·have t0 : (c < S.n) = True := eq_true hlt
  have cu' := h.uc hlt
  have cb := h.b0 hlt
  have ew : IntKind.i64.wrap ((c : Int) + 1) = ((c + 1 : Nat) : Int) := by rw [wrap_i64] <;> omega
  have next : ¬ Has1 S id c → ∀ j, j < c + 1 → ¬ Has1 S id j := fun hn j hj => by
   rcases Nat.lt_succ_iff_lt_or_eq.1 hj with h1 | rfl
   ·exact hall j h1
   ·exact hn
  by_cases hp : S.par (c + 1) = 0
  ·have t1 : (0 ≤ upS S c) = False := eq_false fun h1 => (upS_neg k hlt).1 h1 hp
   repeat' (first|(with_reducible first|refine jA ?_|(refine hK _ _ ?_;clear hK K)|refine jJ fun K hK=>?_|refine jK ?_|refine jL ?_|refine jM ?_|refine jN ?_|refine jO ?_|refine jP ?_|refine jQ ?_|(refine jB ?_;clear hK K)|(refine jC ?_;clear hK K)|refine jD ?_|refine jE ?_|refine jG ?_|refine jH ?_|refine jI ?_)|((with_reducible refine jR ?hq ?_);case hq=>rfl)|((first|(with_reducible first|refine jS fun K hK=>?_|refine jT ?_|refine jU ?_)|((with_reducible refine jV ?hy fun K hK=>?_);case hy=>rfl));simp only [go_sem, Nat.reduceEqDiff, Nat.reduceAdd, Nat.reduceMul, Nat.reduceLeDiff, Nat.reduceLT, Int.reduceLT, Int.reduceLE, Int.reduceEq, Int.reduceNeg, Int.reduceToNat, Nat.reducePow, reduceIte, reduceCtorEq, i0, i1, i5, c0, c1, t0, cu', t1, ew])|((with_reducible first|refine jW ?hy ?_|refine jY ?hy ?_);case hy=>rfl)|((with_reducible first|refine jX ?hy ?_|refine jZ ?hy ?_);case hy=>rfl)|((with_reducible refine jF ?hy ?_);case hy=>decide))
   exact loop_normal (m' := S.n - (c + 1)) (by omega) ⟨c + 1, rfl, rfl, hlt, next fun h1 => h1.1 hp, rfl⟩
  ·have t1 : (0 ≤ upS S c) = True := eq_true ((upS_neg k hlt).2 hp)
   by_cases hi : (byS S c).id = id
   ·have t2 : ((byS S c).id == id) = true := by simp [hi]
    repeat' (first|(with_reducible first|refine jA ?_|(refine hK _ _ ?_;clear hK K)|refine jJ fun K hK=>?_|refine jK ?_|refine jL ?_|refine jM ?_|refine jN ?_|refine jO ?_|refine jP ?_|refine jQ ?_|(refine jB ?_;clear hK K)|(refine jC ?_;clear hK K)|refine jD ?_|refine jE ?_|refine jG ?_|refine jH ?_|refine jI ?_)|((with_reducible refine jR ?hq ?_);case hq=>rfl)|((first|(with_reducible first|refine jS fun K hK=>?_|refine jT ?_|refine jU ?_)|((with_reducible refine jV ?hy fun K hK=>?_);case hy=>rfl));simp only [go_sem, Nat.reduceEqDiff, Nat.reduceAdd, Nat.reduceMul, Nat.reduceLeDiff, Nat.reduceLT, Int.reduceLT, Int.reduceLE, Int.reduceEq, Int.reduceNeg, Int.reduceToNat, Nat.reducePow, reduceIte, reduceCtorEq, i0, i1, i5, c0, c1, t0, cu', cb, t1, t2])|((with_reducible first|refine jW ?hy ?_|refine jY ?hy ?_);case hy=>rfl)|((with_reducible first|refine jX ?hy ?_|refine jZ ?hy ?_);case hy=>rfl)|((with_reducible refine jF ?hy ?_);case hy=>decide))
    exact yes c hlt ⟨hp, hi⟩
   ·have t2 : ((byS S c).id == id) = false := by simp [hi]
    repeat' (first|(with_reducible first|refine jA ?_|(refine hK _ _ ?_;clear hK K)|refine jJ fun K hK=>?_|refine jK ?_|refine jL ?_|refine jM ?_|refine jN ?_|refine jO ?_|refine jP ?_|refine jQ ?_|(refine jB ?_;clear hK K)|(refine jC ?_;clear hK K)|refine jD ?_|refine jE ?_|refine jG ?_|refine jH ?_|refine jI ?_)|((with_reducible refine jR ?hq ?_);case hq=>rfl)|((first|(with_reducible first|refine jS fun K hK=>?_|refine jT ?_|refine jU ?_)|((with_reducible refine jV ?hy fun K hK=>?_);case hy=>rfl));simp only [go_sem, Nat.reduceEqDiff, Nat.reduceAdd, Nat.reduceMul, Nat.reduceLeDiff, Nat.reduceLT, Int.reduceLT, Int.reduceLE, Int.reduceEq, Int.reduceNeg, Int.reduceToNat, Nat.reducePow, reduceIte, reduceCtorEq, i0, i1, i5, c0, c1, t0, cu', cb, t1, t2, ew])|((with_reducible first|refine jW ?hy ?_|refine jY ?hy ?_);case hy=>rfl)|((with_reducible first|refine jX ?hy ?_|refine jZ ?hy ?_);case hy=>rfl)|((with_reducible refine jF ?hy ?_);case hy=>decide))
    exact loop_normal (m' := S.n - (c + 1)) (by omega) ⟨c + 1, rfl, rfl, hlt, next fun h1 => hi h1.2, rfl⟩
 ·have t0 : (c < S.n) = False := eq_false hlt
  repeat' (first|(with_reducible first|refine jA ?_|(refine hK _ _ ?_;clear hK K)|refine jJ fun K hK=>?_|refine jK ?_|refine jL ?_|refine jM ?_|refine jN ?_|refine jO ?_|refine jP ?_|refine jQ ?_|(refine jB ?_;clear hK K)|(refine jC ?_;clear hK K)|refine jD ?_|refine jE ?_|refine jG ?_|refine jH ?_|refine jI ?_)|((with_reducible refine jR ?hq ?_);case hq=>rfl)|((first|(with_reducible first|refine jS fun K hK=>?_|refine jT ?_|refine jU ?_)|((with_reducible refine jV ?hy fun K hK=>?_);case hy=>rfl));simp only [go_sem, Nat.reduceEqDiff, Nat.reduceAdd, Nat.reduceMul, Nat.reduceLeDiff, Nat.reduceLT, Int.reduceLT, Int.reduceLE, Int.reduceEq, Int.reduceNeg, Int.reduceToNat, Nat.reducePow, reduceIte, reduceCtorEq, i0, i5, c0, t0])|((with_reducible first|refine jW ?hy ?_|refine jY ?hy ?_);case hy=>rfl)|((with_reducible first|refine jX ?hy ?_|refine jZ ?hy ?_);case hy=>rfl)|((with_reducible refine jF ?hy ?_);case hy=>decide))
  exact no fun j hj => hall j (by omega)
end
end Go.Proofs.Ytoplhfhjokjbiaa
namespace Go.Proofs.Ytoplhfhjokjbiaa
open Go Go.Hp Go.Li
set_option linter.all false
set_option maxRecDepth 100000
set_option maxHeartbeats 1600000
section
variable {H H' : Heap} {x gu gb n cu : Nat} {U : Nat → Int} {B : Nat → Ed} {S : Ls} {K : Value → Heap → Prop} {e : Env} {Z : HX → Env → Heap → Prop}
theorem rx_roots {v : Nat} {l : List Nat} (h : RX H x gu gb S.n cu (upS S) (byS S)) (k : S.Ok) (hv : v < S.n) (hl : Ch S.par (v + 1) l)
  (fin : ∀ H', RX H' x gu gb S.n cu (upS (S.ev l)) (byS (S.ev l)) → Fr (fun b => b = gu ∨ b = gb) H H' → K (.tuple #[]) H') : CallsH Try.prog 49 #[.pointer (some ⟨x, 0, none⟩), .int .i64 (v : Nat)] H K := by
 have hlt := h.lt
 refine call49 (by simp) ?_
 simp only [Try.f49, Option.getD_some]
 repeat' (first|(with_reducible first|refine jA ?_|(refine hK _ _ ?_;clear hK K)|refine jJ fun K hK=>?_|refine jK ?_|refine jL ?_|refine jM ?_|refine jN ?_|refine jO ?_|refine jP ?_|refine jQ ?_|(refine jB ?_;clear hK K)|(refine jC ?_;clear hK K)|refine jD ?_|refine jE ?_|refine jG ?_|refine jH ?_|refine jI ?_)|((with_reducible refine jR ?hq ?_);case hq=>rfl)|((first|(with_reducible first|refine jS fun K hK=>?_|refine jT ?_|refine jU ?_)|((with_reducible refine jV ?hy fun K hK=>?_);case hy=>rfl));simp only [go_sem, Nat.reduceEqDiff, Nat.reduceAdd, Nat.reduceMul, Nat.reduceLeDiff, Nat.reduceLT, Int.reduceLT, Int.reduceLE, Int.reduceEq, Int.reduceNeg, Int.reduceToNat, Nat.reducePow, reduceIte, reduceCtorEq, hcell_push, hcell_top, okW_push, okW_top, hcell_hset_ne, hcell_hset_off, hcell_hset_eq, okW_hset, hset_size, Array.size_push, Nat.lt_add_one, ne_add_one, add_one_ne, Nat.add_assoc, add_same, add_lt_same, Nat.reduceEqDiff, lt_add_k, add_k_ne, ne_add_k])|((with_reducible first|refine jW ?hy ?_|refine jY ?hy ?_);case hy=>rfl)|((with_reducible first|refine jX ?hy ?_|refine jZ ?hy ?_);case hy=>rfl)|((with_reducible refine jF ?hy ?_);case hy=>decide))
 obtain ⟨b1, f1⟩ := edge_box (H := H) Ed.zero (T0 := 31)
 simp only [Ed.zero] at b1 f1
 generalize hset _ _ _ = H1 at b1 f1 ⊢
 have hX1 := h.grow f1
 have l1 := b1.lt
 have first := k.ev_first hl
 refine x_loop (fun m e' H' => ∃ (p r : List Nat) (U : Nat → Int) (B : Nat → Ed) (be : Int) (ed : Ed), l = p ++ r ∧ e' 4 = .int .i64 be ∧ Blk H' H.size ed.cells ∧ RX H' x gu gb S.n cu U B ∧ (∀ w, w < S.n → U w = if w + 1 ∈ p then upS (S.ev l) w else upS S w) ∧ (∀ w, w < S.n → B w = if w + 1 ∈ p then byS (S.ev l) w else byS S w) ∧
   ((r = [] ∧ e' 1 = .int .i64 (-1)) ∨ ∃ c : Nat, e' 1 = .int .i64 (c : Nat) ∧ c < S.n ∧ Ch S.par (c + 1) r ∧ be = upS (S.ev l) c ∧ ed = byS (S.ev l) c) ∧ Fr (fun b => b = gu ∨ b = gb) H H' ∧ m = r.length) l.length
  ⟨[], l, _, _, -1, Ed.zero, rfl, rfl, b1, hX1, fun w _ => by simp, fun w _ => by simp, .inr ⟨v, rfl, hv, hl, first.1.symm, first.2.symm⟩, f1.mono fun _ _ h => h.elim, rfl⟩ ?_
 rintro m e1 H2 ⟨p, r, U, B, be, ed, hpr, i4, hb2, hX2, hU, hB, hcase, hf2, rfl⟩ hoff
 have i0 : e1 0 = .pointer (some ⟨x, 0, none⟩) := (hoff 0 rfl).trans rfl
 have i5 : e1 5 = .pointer (some ⟨H.size, 0, none⟩) := (hoff 5 rfl).trans rfl
 clear hoff
 rcases hcase with ⟨rfl, i1⟩ | ⟨c, i1, hc, hr, hbe, hed⟩
 ·have t1 : ((0 : Int) ≤ -1) = False := by simp
  rw [List.append_nil] at hpr
  subst hpr
  repeat' (first|(with_reducible first|refine jA ?_|(refine hK _ _ ?_;clear hK K)|refine jJ fun K hK=>?_|refine jK ?_|refine jL ?_|refine jM ?_|refine jN ?_|refine jO ?_|refine jP ?_|refine jQ ?_|(refine jB ?_;clear hK K)|(refine jC ?_;clear hK K)|refine jD ?_|refine jE ?_|refine jG ?_|refine jH ?_|refine jI ?_)|((with_reducible refine jR ?hq ?_);case hq=>rfl)|((first|(with_reducible first|refine jS fun K hK=>?_|refine jT ?_|refine jU ?_)|((with_reducible refine jV ?hy fun K hK=>?_);case hy=>rfl));simp only [go_sem, Nat.reduceEqDiff, Nat.reduceAdd, Nat.reduceMul, Nat.reduceLeDiff, Nat.reduceLT, Int.reduceLT, Int.reduceLE, Int.reduceEq, Int.reduceNeg, Int.reduceToNat, Nat.reducePow, reduceIte, reduceCtorEq, i1, t1])|((with_reducible first|refine jW ?hy ?_|refine jY ?hy ?_);case hy=>rfl)|((with_reducible first|refine jX ?hy ?_|refine jZ ?hy ?_);case hy=>rfl)|((with_reducible refine jF ?hy ?_);case hy=>decide))
  refine fin _ (hX2.congr (fun w hw => ?_) fun w hw => ?_) hf2
  ·rw [hU w hw]
   by_cases hm : w + 1 ∈ l
   ·rw [if_pos hm]
   ·rw [if_neg hm]; exact (k.ev_rest hv hl hw hm).1
  ·rw [hB w hw]
   by_cases hm : w + 1 ∈ l
   ·rw [if_pos hm]
   ·rw [if_neg hm]; exact (k.ev_rest hv hl hw hm).2
 ·have t1 : ((0 : Int) ≤ (c : Nat)) = True := by simp
  have t0 : (c < S.n) = True := eq_true hc
  have hnd := hl.nodup
  have hcp : c + 1 ∉ p := fun hm => by
   obtain ⟨r2, er⟩ := hr.head
   rw [hpr, er, List.nodup_append] at hnd
   exact hnd.2.2 _ hm _ (.head _) rfl
  have eU : U c = upS S c := by rw [hU c hc, if_neg hcp]
  have eB : B c = byS S c := by rw [hB c hc, if_neg hcp]
  have c0 := hX2.h0
  have c1 := hX2.h1
  have cu' := hX2.uc hc
  have cb0 := hX2.b0 hc
  have cb1 := hX2.bc hc 1 rfl
  have cb2 := hX2.bc hc 2 rfl
  have cb3 := hX2.bc hc 3 rfl
  rw [eU] at cu'
  rw [eB] at cb0 cb1 cb2 cb3
  repeat' (first|(with_reducible first|refine jA ?_|(refine hK _ _ ?_;clear hK K)|refine jJ fun K hK=>?_|refine jK ?_|refine jL ?_|refine jM ?_|refine jN ?_|refine jO ?_|refine jP ?_|refine jQ ?_|(refine jB ?_;clear hK K)|(refine jC ?_;clear hK K)|refine jD ?_|refine jE ?_|refine jG ?_|refine jH ?_|refine jI ?_)|((with_reducible refine jR ?hq ?_);case hq=>rfl)|((first|(with_reducible first|refine jS fun K hK=>?_|refine jT ?_|refine jU ?_)|((with_reducible refine jV ?hy fun K hK=>?_);case hy=>rfl));simp only [go_sem, Nat.reduceEqDiff, Nat.reduceAdd, Nat.reduceMul, Nat.reduceLeDiff, Nat.reduceLT, Int.reduceLT, Int.reduceLE, Int.reduceEq, Int.reduceNeg, Int.reduceToNat, Nat.reducePow, reduceIte, reduceCtorEq, i0, i1, c0, c1, t0, t1, cu', cb0, cb1, cb2, cb3, hcell_push, hcell_top, okW_push, okW_top, hcell_hset_ne, hcell_hset_off, hcell_hset_eq, okW_hset, hset_size, Array.size_push, Nat.lt_add_one, ne_add_one, add_one_ne, Nat.add_assoc, add_same, add_lt_same, Nat.reduceEqDiff, lt_add_k, add_k_ne, ne_add_k])|((with_reducible first|refine jW ?hy ?_|refine jY ?hy ?_);case hy=>rfl)|((with_reducible first|refine jX ?hy ?_|refine jZ ?hy ?_);case hy=>rfl)|((with_reducible refine jF ?hy ?_);case hy=>decide))
  obtain ⟨b3, f3⟩ := edge_box (H := H2) (byS S c) (T0 := 31)
  generalize hset _ _ _ = H3 at b3 f3 ⊢
  have hX3 := hX2.grow f3
  have hb3 := hb2.frame f3 fun h => h
  have c0 := hX3.h0
  obtain ⟨wU, hX4, f4⟩ := hX3.setU hc be
  simp only [go_sem, Nat.reduceEqDiff, Nat.reduceAdd, Nat.reduceMul, Nat.reduceLeDiff, Nat.reduceLT, Int.reduceLT, Int.reduceLE, Int.reduceEq, Int.reduceNeg, Int.reduceToNat, Nat.reducePow, reduceIte, reduceCtorEq, c0]
  repeat' (first|(with_reducible first|refine jA ?_|(refine hK _ _ ?_;clear hK K)|refine jJ fun K hK=>?_|refine jK ?_|refine jL ?_|refine jM ?_|refine jN ?_|refine jO ?_|refine jP ?_|refine jQ ?_|(refine jB ?_;clear hK K)|(refine jC ?_;clear hK K)|refine jD ?_|refine jE ?_|refine jG ?_|refine jH ?_|refine jI ?_)|((with_reducible refine jR ?hq ?_);case hq=>rfl)|((first|(with_reducible first|refine jS fun K hK=>?_|refine jT ?_|refine jU ?_)|((with_reducible refine jV ?hy fun K hK=>?_);case hy=>rfl));simp only [go_sem, Nat.reduceEqDiff, Nat.reduceAdd, Nat.reduceMul, Nat.reduceLeDiff, Nat.reduceLT, Int.reduceLT, Int.reduceLE, Int.reduceEq, Int.reduceNeg, Int.reduceToNat, Nat.reducePow, reduceIte, reduceCtorEq, i0, i1, i4, t0, wU])|((with_reducible first|refine jW ?hy ?_|refine jY ?hy ?_);case hy=>rfl)|((with_reducible first|refine jX ?hy ?_|refine jZ ?hy ?_);case hy=>rfl)|((with_reducible refine jF ?hy ?_);case hy=>decide))
  generalize hset _ _ _ = H4 at hX4 f4 ⊢
  have l2 := hX2.lt
  have hl2 := hb2.lt
  have hb4 := hb3.frame f4 (by omega)
  have b4 := b3.frame f4 (by omega)
  have c1 := hX4.h1
  have d0 := hb4.cellOf (i := 0) rfl
  have d1 := hb4.cellOf (i := 1) rfl
  have d2 := hb4.cellOf (i := 2) rfl
  have d3 := hb4.cellOf (i := 3) rfl
  obtain ⟨w0, w1, w2, w3⟩ := hX4.okB hc
  obtain ⟨hX5, f5⟩ := hX4.setB hc ed
  simp only [go_sem, Nat.reduceEqDiff, Nat.reduceAdd, Nat.reduceMul, Nat.reduceLeDiff, Nat.reduceLT, Int.reduceLT, Int.reduceLE, Int.reduceEq, Int.reduceNeg, Int.reduceToNat, Nat.reducePow, reduceIte, reduceCtorEq, c1]
  repeat' (first|(with_reducible first|refine jA ?_|(refine hK _ _ ?_;clear hK K)|refine jJ fun K hK=>?_|refine jK ?_|refine jL ?_|refine jM ?_|refine jN ?_|refine jO ?_|refine jP ?_|refine jQ ?_|(refine jB ?_;clear hK K)|(refine jC ?_;clear hK K)|refine jD ?_|refine jE ?_|refine jG ?_|refine jH ?_|refine jI ?_)|((with_reducible refine jR ?hq ?_);case hq=>rfl)|((first|(with_reducible first|refine jS fun K hK=>?_|refine jT ?_|refine jU ?_)|((with_reducible refine jV ?hy fun K hK=>?_);case hy=>rfl));simp only [go_sem, Nat.reduceEqDiff, Nat.reduceAdd, Nat.reduceMul, Nat.reduceLeDiff, Nat.reduceLT, Int.reduceLT, Int.reduceLE, Int.reduceEq, Int.reduceNeg, Int.reduceToNat, Nat.reducePow, reduceIte, reduceCtorEq, i0, i1, i5, t0, d0, d1, d2, d3, w0, w1, w2, w3, hcell_push, hcell_top, okW_push, okW_top, hcell_hset_ne, hcell_hset_off, hcell_hset_eq, okW_hset, hset_size, Array.size_push, Nat.lt_add_one, ne_add_one, add_one_ne, Nat.add_assoc, add_same, add_lt_same, Nat.reduceEqDiff, lt_add_k, add_k_ne, ne_add_k])|((with_reducible first|refine jW ?hy ?_|refine jY ?hy ?_);case hy=>rfl)|((with_reducible first|refine jX ?hy ?_|refine jZ ?hy ?_);case hy=>rfl)|((with_reducible refine jF ?hy ?_);case hy=>decide))
  generalize hset _ _ _ = H5 at hX5 f5 ⊢
  have l4 := hX4.lt
  have hb5 := hb4.frame f5 (by omega)
  have b5 := b4.frame f5 (by omega)
  have g0 := b5.cellOf (i := 0) rfl
  have g1 := b5.cellOf (i := 1) rfl
  have g2 := b5.cellOf (i := 2) rfl
  have g3 := b5.cellOf (i := 3) rfl
  have y0 := hb5.okW (i := 0) (by simp [Ed.cells])
  have y1 := hb5.okW (i := 1) (by simp [Ed.cells])
  have y2 := hb5.okW (i := 2) (by simp [Ed.cells])
  have y3 := hb5.okW (i := 3) (by simp [Ed.cells])
  obtain ⟨hb6, f6⟩ := store4 hb5 (.int .i64 (byS S c).id) (.int .i64 (byS S c).u) (.int .i64 (byS S c).v) (.int .i64 (byS S c).w)
  simp only [go_sem, Nat.reduceEqDiff, Nat.reduceAdd, Nat.reduceMul, Nat.reduceLeDiff, Nat.reduceLT, Int.reduceLT, Int.reduceLE, Int.reduceEq, Int.reduceNeg, Int.reduceToNat, Nat.reducePow, reduceIte, reduceCtorEq, g0, g1, g2, g3]
  repeat' (first|(with_reducible first|refine jA ?_|(refine hK _ _ ?_;clear hK K)|refine jJ fun K hK=>?_|refine jK ?_|refine jL ?_|refine jM ?_|refine jN ?_|refine jO ?_|refine jP ?_|refine jQ ?_|(refine jB ?_;clear hK K)|(refine jC ?_;clear hK K)|refine jD ?_|refine jE ?_|refine jG ?_|refine jH ?_|refine jI ?_)|((with_reducible refine jR ?hq ?_);case hq=>rfl)|((first|(with_reducible first|refine jS fun K hK=>?_|refine jT ?_|refine jU ?_)|((with_reducible refine jV ?hy fun K hK=>?_);case hy=>rfl));simp only [go_sem, Nat.reduceEqDiff, Nat.reduceAdd, Nat.reduceMul, Nat.reduceLeDiff, Nat.reduceLT, Int.reduceLT, Int.reduceLE, Int.reduceEq, Int.reduceNeg, Int.reduceToNat, Nat.reducePow, reduceIte, reduceCtorEq, i5, y0, y1, y2, y3, hcell_push, hcell_top, okW_push, okW_top, hcell_hset_ne, hcell_hset_off, hcell_hset_eq, okW_hset, hset_size, Array.size_push, Nat.lt_add_one, ne_add_one, add_one_ne, Nat.add_assoc, add_same, add_lt_same, Nat.reduceEqDiff, lt_add_k, add_k_ne, ne_add_k])|((with_reducible first|refine jW ?hy ?_|refine jY ?hy ?_);case hy=>rfl)|((with_reducible first|refine jX ?hy ?_|refine jZ ?hy ?_);case hy=>rfl)|((with_reducible refine jF ?hy ?_);case hy=>decide))
  generalize hset _ _ _ = H6 at hb6 f6 ⊢
  have hX6 := hX5.frame f6 (by have := hlt.1; omega) (by have := hlt.2.1; omega) (by have := hlt.2.2; omega)
  have hf6 : Fr (fun b => b = gu ∨ b = gb) H H6 := (((hf2.trans (f3.mono fun _ _ h => h.elim)).trans (f4.mono fun _ _ h => .inl h)).trans (f5.mono fun _ _ h => .inr h)).trans' f6 fun b hb e => by omega
  have hs : ∀ (p' : List Nat), (∀ w, w < S.n → (w + 1 ∈ p' ↔ w + 1 ∈ p ∨ w = c)) → (∀ w, w < S.n → updI U c be w = if w + 1 ∈ p' then upS (S.ev l) w else upS S w) ∧ ∀ w, w < S.n → updE B c ed w = if w + 1 ∈ p' then byS (S.ev l) w else byS S w := fun p' hp' => by
   constructor
   ·intro w hw
    unfold updI
    by_cases e : w = c
    ·rw [if_pos e, if_pos ((hp' w hw).2 (.inr e)), hbe, e]
    ·rw [if_neg e, hU w hw]
     by_cases hm : w + 1 ∈ p
     ·rw [if_pos hm, if_pos ((hp' w hw).2 (.inl hm))]
     ·rw [if_neg hm, if_neg fun h => ((hp' w hw).1 h).elim hm e]
   ·intro w hw
    unfold updE
    by_cases e : w = c
    ·rw [if_pos e, if_pos ((hp' w hw).2 (.inr e)), hed, e]
    ·rw [if_neg e, hB w hw]
     by_cases hm : w + 1 ∈ p
     ·rw [if_pos hm, if_pos ((hp' w hw).2 (.inl hm))]
     ·rw [if_neg hm, if_neg fun h => ((hp' w hw).1 h).elim hm e]
  rcases k.chain_cases hc hr with ⟨rfl, h1, _⟩ | ⟨g, ed2, q, r2, rfl, h2, h3, h4, h5, h6, h7, h8⟩
  ·obtain ⟨s1, s2⟩ := hs (p ++ [c + 1]) fun w hw => by simp
   exact loop_normal (m' := 0) (by simp) ⟨p ++ [c + 1], [], _, _, _, _, by rw [hpr]; simp, rfl, hb6, hX6, s1, s2, .inl ⟨rfl, by rw [h1]; rfl⟩, hf6, rfl⟩
  ·obtain ⟨s1, s2⟩ := hs (p ++ [c + 1, g]) fun w hw => by
    simp only [List.mem_append, List.mem_cons, List.not_mem_nil, or_false]
    constructor
    ·rintro (h | h | h)
     ·exact .inl h
     ·exact .inr (by omega)
     ·omega
    ·rintro (h | h)
     ·exact .inl h
     ·exact .inr (.inl (by omega))
   obtain ⟨r3, e3⟩ := h2.head
   have th := k.ev_then hl (p := p) (q := r3) (h := g) (x := c) (y := q) (by rw [hpr, e3])
   exact loop_normal (m' := r2.length) (by simp; omega) ⟨p ++ [c + 1, g], r2, _, _, _, _, by rw [hpr]; simp, rfl, hb6, hX6, s1, s2, .inr ⟨q, by rw [h4]; rfl, h6, h2, th.1.symm, by rw [th.2, h3, h5]; rfl⟩, hf6, rfl⟩
end
end Go.Proofs.Ytoplhfhjokjbiaa
