/-
  Linked trees in memory: slices.Backward; splay.
  Rooted trees told by who is above whom: ways up, rooting anew, cutting, linking.
  Linked trees: paths of rooted trees; what cutting a path and laying another one behind it makes.
  Linked trees: a path turned about; cut above its last one; pushes on the way to its first one.
  Linked trees in memory: a row splayed; access.
  Linked trees in memory: evert, root, same, apart.
  Linked trees: a node more, a tree hung below another one, a node less; simple ways, and that there is one of them.
-/
import Derived.Test.YtafehbegoanajaaG1
import Derived.Test.YtafehbegoanajaaHpV
import Derived.Test.YtafehbegoanajaaHpA
namespace Go.Proofs.Ytafehbegoanajaa
open Go Go.Hp Go.Li
set_option linter.all false
set_option maxRecDepth 100000
set_option maxHeartbeats 1600000
theorem nextHp_mono {P : Program} {K K' : Value → Heap → Prop} (hk : ∀ v H, K v H → K' v H) : ∀ (x : Next) (H : Heap), nextHp P K x H → nextHp P K' x H
 | .value v, H, h => hk _ _ h
 | .skip, H, h => hk _ _ h
 | .enter f args, H, h => h.mono hk
 | .round l f tmps a b, H, h => h.mono hk
section
variable {H H' : Heap} {t g c len : Nat} {N : Nodes} {K : Value → Heap → Prop}
theorem backward_ok {l b rg cap : Nat} {xs : List Int} (I : Nat → Heap → Prop) (hlen : xs.length < 4096)
  (hx : ∀ i H', I i H' → hcell H' ⟨b, 0, none⟩ = some (.slice (some ⟨rg, 0, none⟩) xs.length cap) ∧ ∀ k x, xs[k]? = some x → hcell H' ⟨rg, k, none⟩ = some (.int .i64 x))
  (h0 : I xs.length H)
  (hstep : ∀ (i : Nat) x H' (K' : Value → Heap → Prop), xs[i]? = some x → I (i + 1) H' → (∀ H'', I i H'' → K' (.bool true) H'') → semHp Try.prog (Instr.yield l #[.int .i64 (i : Nat), .int .i64 x]) H' (nextHp Try.prog K'))
  (fin : ∀ H', I 0 H' → K (.tuple #[]) H') : CallsH Try.prog 96 #[.func (.yield l) #[] #[], .pointer (some ⟨b, 0, none⟩)] H K := by
 obtain ⟨d0, _⟩ := hx _ _ h0
 have ew : IntKind.i64.wrap ((xs.length : Int) - 1) = (xs.length : Int) - 1 := by rw [wrap_i64] <;> omega
 refine call96 (by simp) ?_
 simp only [Try.f96, Option.getD_some]
 repeat' (first|(with_reducible first|refine jA ?_|(refine hK _ _ ?_;clear hK K)|refine jJ fun K hK=>?_|refine jK ?_|refine jL ?_|refine jM ?_|refine jN ?_|refine jO ?_|refine jP ?_|refine jQ ?_|(refine jB ?_;clear hK K)|(refine jC ?_;clear hK K)|refine jD ?_|refine jE ?_|refine jG ?_|refine jH ?_|refine jI ?_)|((with_reducible refine jR ?hq ?_);case hq=>rfl)|((first|(with_reducible first|refine jS fun K hK=>?_|refine jT ?_|refine jU ?_)|((with_reducible refine jV ?hy fun K hK=>?_);case hy=>rfl));simp only [go_sem, Nat.reduceEqDiff, Nat.reduceAdd, Nat.reduceMul, Nat.reduceLeDiff, Nat.reduceLT, Int.reduceLT, Int.reduceLE, Int.reduceEq, Int.reduceNeg, Int.reduceToNat, Nat.reducePow, reduceIte, reduceCtorEq, d0, ew])|((with_reducible first|refine jW ?hy ?_|refine jY ?hy ?_);case hy=>rfl)|((with_reducible first|refine jX ?hy ?_|refine jZ ?hy ?_);case hy=>rfl)|((with_reducible refine jF ?hy ?_);case hy=>decide))
 refine x_loop (fun m e' H' => ∃ i : Nat, i ≤ xs.length ∧ e' 3 = .int .i64 ((i : Int) - 1) ∧ m = i ∧ I i H') xs.length ⟨xs.length, Nat.le_refl _, rfl, rfl, h0⟩ ?_
 rintro m e1 H1 ⟨i, hi, i3, rfl, hI⟩ hoff
 have i0 : e1 0 = .func (.yield l) #[] #[] := (hoff 0 rfl).trans rfl
 have i1 : e1 1 = .pointer (some ⟨b, 0, none⟩) := (hoff 1 rfl).trans rfl
 clear hoff
 cases m with
 | zero =>
  have t1 : ((0 : Int) ≤ ((0 : Nat) : Int) - 1) = False := by simp
  repeat' (first|(with_reducible first|refine jA ?_|(refine hK _ _ ?_;clear hK K)|refine jJ fun K hK=>?_|refine jK ?_|refine jL ?_|refine jM ?_|refine jN ?_|refine jO ?_|refine jP ?_|refine jQ ?_|(refine jB ?_;clear hK K)|(refine jC ?_;clear hK K)|refine jD ?_|refine jE ?_|refine jG ?_|refine jH ?_|refine jI ?_)|((with_reducible refine jR ?hq ?_);case hq=>rfl)|((first|(with_reducible first|refine jS fun K hK=>?_|refine jT ?_|refine jU ?_)|((with_reducible refine jV ?hy fun K hK=>?_);case hy=>rfl));simp only [go_sem, Nat.reduceEqDiff, Nat.reduceAdd, Nat.reduceMul, Nat.reduceLeDiff, Nat.reduceLT, Int.reduceLT, Int.reduceLE, Int.reduceEq, Int.reduceNeg, Int.reduceToNat, Nat.reducePow, reduceIte, reduceCtorEq, i3, t1])|((with_reducible first|refine jW ?hy ?_|refine jY ?hy ?_);case hy=>rfl)|((with_reducible first|refine jX ?hy ?_|refine jZ ?hy ?_);case hy=>rfl)|((with_reducible refine jF ?hy ?_);case hy=>decide))
  exact fin _ hI
 | succ i =>
  have ei : (((i + 1 : Nat) : Int) - 1) = (i : Nat) := by omega
  rw [ei] at i3
  have t1 : ((0 : Int) ≤ (i : Nat)) = True := by simp
  obtain ⟨x, hxi⟩ : ∃ x, xs[i]? = some x := ⟨_, List.getElem?_eq_getElem (by omega)⟩
  obtain ⟨d1, dx⟩ := hx _ _ hI
  have dk := dx i x hxi
  have hil : i < xs.length := by omega
  have ew2 : IntKind.i64.wrap ((i : Int) - 1) = (i : Int) - 1 := by rw [wrap_i64] <;> omega
  repeat' (first|(with_reducible first|refine jA ?_|(refine hK _ _ ?_;clear hK K)|refine jJ fun K hK=>?_|refine jK ?_|refine jL ?_|refine jM ?_|refine jN ?_|refine jO ?_|refine jP ?_|refine jQ ?_|(refine jB ?_;clear hK K)|(refine jC ?_;clear hK K)|refine jD ?_|refine jE ?_|refine jG ?_|refine jH ?_|refine jI ?_)|((with_reducible refine jR ?hq ?_);case hq=>rfl)|((first|(with_reducible first|refine jS fun K hK=>?_|refine jT ?_|refine jU ?_)|((with_reducible refine jV ?hy fun K hK=>?_);case hy=>rfl));simp only [go_sem, Nat.reduceEqDiff, Nat.reduceAdd, Nat.reduceMul, Nat.reduceLeDiff, Nat.reduceLT, Int.reduceLT, Int.reduceLE, Int.reduceEq, Int.reduceNeg, Int.reduceToNat, Nat.reducePow, reduceIte, reduceCtorEq, i0, i1, i3, t1, d1, dk, hil])|((with_reducible first|refine jW ?hy ?_|refine jY ?hy ?_);case hy=>rfl)|((with_reducible first|refine jX ?hy ?_|refine jZ ?hy ?_);case hy=>rfl)|((with_reducible refine jF ?hy ?_);case hy=>decide))
  refine hstep i x _ _ hxi hI fun H2 hI2 => ?_
  repeat' (first|(with_reducible first|refine jA ?_|(refine hK _ _ ?_;clear hK K)|refine jJ fun K hK=>?_|refine jK ?_|refine jL ?_|refine jM ?_|refine jN ?_|refine jO ?_|refine jP ?_|refine jQ ?_|(refine jB ?_;clear hK K)|(refine jC ?_;clear hK K)|refine jD ?_|refine jE ?_|refine jG ?_|refine jH ?_|refine jI ?_)|((with_reducible refine jR ?hq ?_);case hq=>rfl)|((first|(with_reducible first|refine jS fun K hK=>?_|refine jT ?_|refine jU ?_)|((with_reducible refine jV ?hy fun K hK=>?_);case hy=>rfl));simp only [go_sem, Nat.reduceEqDiff, Nat.reduceAdd, Nat.reduceMul, Nat.reduceLeDiff, Nat.reduceLT, Int.reduceLT, Int.reduceLE, Int.reduceEq, Int.reduceNeg, Int.reduceToNat, Nat.reducePow, reduceIte, reduceCtorEq, i3, ew2])|((with_reducible first|refine jW ?hy ?_|refine jY ?hy ?_);case hy=>rfl)|((with_reducible first|refine jX ?hy ?_|refine jZ ?hy ?_);case hy=>rfl)|((with_reducible refine jF ?hy ?_);case hy=>decide))
  exact loop_normal (m' := i) (by omega) ⟨i, by omega, rfl, rfl, hI2⟩
theorem back_ok {a : Option Addr} {n cap : Nat} (fin : ∀ H', Fr (fun _ => False) H H' → hcell H' ⟨H.size, 0, none⟩ = some (.slice a n cap) → K (.func (.func 96) #[] #[.pointer (some ⟨H.size, 0, none⟩)]) H') :
  CallsH Try.prog 86 #[.slice a n cap] H K := by
 refine call86 (by simp) ?_
 simp only [Try.f86, Option.getD_some]
 repeat' (first|(with_reducible first|refine jA ?_|(refine hK _ _ ?_;clear hK K)|refine jJ fun K hK=>?_|refine jK ?_|refine jL ?_|refine jM ?_|refine jN ?_|refine jO ?_|refine jP ?_|refine jQ ?_|(refine jB ?_;clear hK K)|(refine jC ?_;clear hK K)|refine jD ?_|refine jE ?_|refine jG ?_|refine jH ?_|refine jI ?_)|((with_reducible refine jR ?hq ?_);case hq=>rfl)|((first|(with_reducible first|refine jS fun K hK=>?_|refine jT ?_|refine jU ?_)|((with_reducible refine jV ?hy fun K hK=>?_);case hy=>rfl));simp only [go_sem, Nat.reduceEqDiff, Nat.reduceAdd, Nat.reduceMul, Nat.reduceLeDiff, Nat.reduceLT, Int.reduceLT, Int.reduceLE, Int.reduceEq, Int.reduceNeg, Int.reduceToNat, Nat.reducePow, reduceIte, reduceCtorEq])|((with_reducible first|refine jW ?hy ?_|refine jY ?hy ?_);case hy=>rfl)|((with_reducible first|refine jX ?hy ?_|refine jZ ?hy ?_);case hy=>rfl)|((with_reducible refine jF ?hy ?_);case hy=>decide))
 exact fin _ ((Fr.refl _ _).push _) ((Blk.new H [.slice a n cap] _).cellOf rfl)
theorem hcell_app {H : Heap} {v : Value} {B : Option Nat} {xs : List Int} (h : IR H B v xs) (hn : xs ≠ []) : ∃ rg cap, B = some rg ∧ v = .slice (some ⟨rg, 0, none⟩) xs.length cap ∧ ∀ k x, xs[k]? = some x → hcell H ⟨rg, k, none⟩ = some (.int .i64 x) := by
 obtain ⟨rg, cap, rest, h1, h2, h3, h4, h5⟩ := h.row hn
 refine ⟨rg, cap, h1, h2, fun k x hk => h3.cellOf ?_⟩
 have hlt := (List.getElem?_eq_some_iff.1 hk).1
 rw [List.getElem?_append_left (by simpa using hlt), List.getElem?_map, hk]
 rfl
theorem setIB_fr (H : Heap) (l : Nat) (o : Obj) : Fr (· = l) H (H.setIfInBounds l o) := ⟨by simp, fun b _ hb => by rw [Array.getElem?_setIfInBounds_ne (Ne.symm hb)]⟩
theorem fr_close {H H' : Heap} {g l : Nat} (h : Fr (fun b => b = g ∨ b = l) H H') (hl : H'[l]? = H[l]?) : Fr (· = g) H H' := ⟨h.size, fun b hb hg => by
 by_cases e : b = l
 ·subst e; exact hl
 ·exact h.same b hb fun h => h.elim hg e⟩
def natsI (ws : List Nat) : List Int := ws.map fun x => ((x : Nat) : Int)
theorem splay_ok {L : Value → Heap → Prop} {P : Nat → Nodes → Prop} {m0 h : Nat} {ws : List Nat} (hN : NA H t g c len N) (hh : h < len) (hw : IsWay N h ws) (hwl : ∀ x ∈ ws, x < len) (hlen : ws.length < 4096)
  (h0 : P m0 (pushAll N ws)) (hP : ∀ m N, P m N → topB N h = true ∨ (topB N h = false ∧ ∃ m', m' < m ∧ P m' (stepN N h)))
  (fin : ∀ H' N' m', NA H' t g c len N' → P m' N' → topB N' h = true → Fr (· = g) H H' → L (.tuple #[]) H') :
  CallsH Try.prog 71 #[.pointer (some ⟨t, 0, none⟩), .int .i64 (h : Nat)] H L := by
 have hsz := hN.lt
 refine callsH_top 97 [] (f := 71) (fn := Try.f71) (by kernel_rfl) (by kernel_rfl) (c := Try.f71.body.getD .skip) (by kernel_rfl) (by kernel_rfl) (by kernel_rfl) (by simp) ?_
 simp only [Try.f71, Option.getD_some]
 refine top_seq (top_of mixed [] (by kernel_rfl) ?_)
 repeat' (first|(with_reducible first|refine jA ?_|(refine hK _ _ ?_;clear hK K)|refine jJ fun K hK=>?_|refine jK ?_|refine jL ?_|refine jM ?_|refine jN ?_|refine jO ?_|refine jP ?_|refine jQ ?_|(refine jB ?_;clear hK K)|(refine jC ?_;clear hK K)|refine jD ?_|refine jE ?_|refine jG ?_|refine jH ?_|refine jI ?_)|((with_reducible refine jR ?hq ?_);case hq=>rfl)|((first|(with_reducible first|refine jS fun K hK=>?_|refine jT ?_|refine jU ?_)|((with_reducible refine jV ?hy fun K hK=>?_);case hy=>rfl));simp only [go_sem, Nat.reduceEqDiff, Nat.reduceAdd, Nat.reduceMul, Nat.reduceLeDiff, Nat.reduceLT, Int.reduceLT, Int.reduceLE, Int.reduceEq, Int.reduceNeg, Int.reduceToNat, Nat.reducePow, reduceIte, reduceCtorEq])|((with_reducible first|refine jW ?hy ?_|refine jY ?hy ?_);case hy=>rfl)|((with_reducible first|refine jX ?hy ?_|refine jZ ?hy ?_);case hy=>rfl)|((with_reducible refine jF ?hy ?_);case hy=>decide))
 intro hx_; clear hx_
 generalize eHB : H.push _ = HB
 have f0 : Fr (fun _ => False) H HB := by rw [← eHB]; exact (Fr.refl _ _).push _
 have q0 : hcell HB ⟨H.size, 0, none⟩ = some (.pointer (some ⟨t, 0, none⟩)) := by rw [← eHB]; exact (Blk.new H [.pointer (some ⟨t, 0, none⟩)] _).cellOf rfl
 have hNB := hN.grow f0
 have sB : HB.size = H.size + 1 := by rw [← eHB]; simp
 clear eHB
 refine top_seq (top_of mixed [] (by kernel_rfl) ?_)
 repeat' (first|(with_reducible first|refine jA ?_|(refine hK _ _ ?_;clear hK K)|refine jJ fun K hK=>?_|refine jK ?_|refine jL ?_|refine jM ?_|refine jN ?_|refine jO ?_|refine jP ?_|refine jQ ?_|(refine jB ?_;clear hK K)|(refine jC ?_;clear hK K)|refine jD ?_|refine jE ?_|refine jG ?_|refine jH ?_|refine jI ?_)|((with_reducible refine jR ?hq ?_);case hq=>rfl)|((first|(with_reducible first|refine jS fun K hK=>?_|refine jT ?_|refine jU ?_)|((with_reducible refine jV ?hy fun K hK=>?_);case hy=>rfl));simp only [go_sem, Nat.reduceEqDiff, Nat.reduceAdd, Nat.reduceMul, Nat.reduceLeDiff, Nat.reduceLT, Int.reduceLT, Int.reduceLE, Int.reduceEq, Int.reduceNeg, Int.reduceToNat, Nat.reducePow, reduceIte, reduceCtorEq])|((with_reducible first|refine jW ?hy ?_|refine jY ?hy ?_);case hy=>rfl)|((with_reducible first|refine jX ?hy ?_|refine jZ ?hy ?_);case hy=>rfl)|((with_reducible refine jF ?hy ?_);case hy=>decide))
 intro hx_; clear hx_
 generalize eH1 : HB.push _ = H1
 have f1 : Fr (fun _ => False) HB H1 := by rw [← eH1]; exact (Fr.refl _ _).push _
 have s1 : H1.size = H.size + 2 := by rw [← eH1]; simp [sB]
 have r1 : IR H1 (some HB.size) (.slice (some ⟨HB.size, 0, none⟩) 1 1) (natsI [h]) := by
  rw [← eH1]
  exact ⟨rfl, .inr ⟨HB.size, 1, [], rfl, rfl, Blk.new HB [.int .i64 (h : Nat)] _, rfl, Nat.le_refl _⟩⟩
 have hN1 := hNB.grow f1
 clear eH1
 refine top_seq (top_of mixed [] (by kernel_rfl) ?_)
 repeat' (first|(with_reducible first|refine jA ?_|(refine hK _ _ ?_;clear hK K)|refine jJ fun K hK=>?_|refine jK ?_|refine jL ?_|refine jM ?_|refine jN ?_|refine jO ?_|refine jP ?_|refine jQ ?_|(refine jB ?_;clear hK K)|(refine jC ?_;clear hK K)|refine jD ?_|refine jE ?_|refine jG ?_|refine jH ?_|refine jI ?_)|((with_reducible refine jR ?hq ?_);case hq=>rfl)|((first|(with_reducible first|refine jS fun K hK=>?_|refine jT ?_|refine jU ?_)|((with_reducible refine jV ?hy fun K hK=>?_);case hy=>rfl));simp only [go_sem, Nat.reduceEqDiff, Nat.reduceAdd, Nat.reduceMul, Nat.reduceLeDiff, Nat.reduceLT, Int.reduceLT, Int.reduceLE, Int.reduceEq, Int.reduceNeg, Int.reduceToNat, Nat.reducePow, reduceIte, reduceCtorEq])|((with_reducible first|refine jW ?hy ?_|refine jY ?hy ?_);case hy=>rfl)|((with_reducible first|refine jX ?hy ?_|refine jZ ?hy ?_);case hy=>rfl)|((with_reducible refine jF ?hy ?_);case hy=>decide))
 obtain ⟨w0, w1, w2⟩ := hw.at
 refine x_loop (fun m e' H' => ∃ (k y : Nat) (B : Option Nat) (v : Value), ws[k]? = some y ∧ m = ws.length - k ∧ e' 5 = .int .i64 (y : Nat) ∧ e' 4 = v ∧ IR H' B v (natsI (ws.take (k + 1))) ∧ Fr (fun _ => False) HB H' ∧ (∀ b, B = some b → HB.size ≤ b)) ws.length
  ⟨0, h, some HB.size, _, w0, rfl, rfl, rfl, by
   have : ws.take (0 + 1) = [h] := by
    cases ws with
    | nil => simp at w0
    | cons a r => simp at w0; simp [w0]
   rw [this]; exact r1, f1, fun b hb => by obtain rfl := Option.some.inj hb; exact Nat.le_refl _⟩ ?_
 rintro m e1 H2 ⟨k, y, B, v, hk, rfl, i5, i4, hr, hf2, hB⟩ hoff
 have i1 : e1 1 = .int .i64 (h : Nat) := (hoff 1 rfl).trans rfl
 have i2 : e1 2 = .pointer (some ⟨H.size, 0, none⟩) := (hoff 2 rfl).trans rfl
 clear hoff
 have hy : y < len := hwl y (List.mem_of_getElem? hk)
 have hN2 := hNB.grow hf2
 have q2 : hcell H2 ⟨H.size, 0, none⟩ = some (.pointer (some ⟨t, 0, none⟩)) := by rw [hf2.cell (hcell_lt q0) (fun h => h)]; exact q0
 repeat' (first|(with_reducible first|refine jA ?_|(refine hK _ _ ?_;clear hK K)|refine jJ fun K hK=>?_|refine jK ?_|refine jL ?_|refine jM ?_|refine jN ?_|refine jO ?_|refine jP ?_|refine jQ ?_|(refine jB ?_;clear hK K)|(refine jC ?_;clear hK K)|refine jD ?_|refine jE ?_|refine jG ?_|refine jH ?_|refine jI ?_)|((with_reducible refine jR ?hq ?_);case hq=>rfl)|((first|(with_reducible first|refine jS fun K hK=>?_|refine jT ?_|refine jU ?_)|((with_reducible refine jV ?hy fun K hK=>?_);case hy=>rfl));simp only [go_sem, Nat.reduceEqDiff, Nat.reduceAdd, Nat.reduceMul, Nat.reduceLeDiff, Nat.reduceLT, Int.reduceLT, Int.reduceLE, Int.reduceEq, Int.reduceNeg, Int.reduceToNat, Nat.reducePow, reduceIte, reduceCtorEq, i2, q2, i5])|((with_reducible first|refine jW ?hy ?_|refine jY ?hy ?_);case hy=>rfl)|((with_reducible first|refine jX ?hy ?_|refine jZ ?hy ?_);case hy=>rfl)|((with_reducible refine jF ?hy ?_);case hy=>decide))
 refine top_ok hN2 hy ?_
 cases hT : topB N y with
 | false =>
  have hlt : k + 1 < ws.length := by
   rcases Nat.lt_or_ge (k + 1) ws.length with h | h
   ·exact h
   ·have := (List.getElem?_eq_some_iff.1 hk).1
    have := w2 k y hk (by omega)
    rw [hT] at this; cases this
  obtain ⟨z, hz⟩ : ∃ z, ws[k + 1]? = some z := ⟨_, List.getElem?_eq_getElem hlt⟩
  obtain ⟨_, ez⟩ := w1 k y z hk hz
  have hd2 := hN2.hd
  have c0 := hN2.cell0 hy
  rw [← ez] at c0
  repeat' (first|(with_reducible first|refine jA ?_|(refine hK _ _ ?_;clear hK K)|refine jJ fun K hK=>?_|refine jK ?_|refine jL ?_|refine jM ?_|refine jN ?_|refine jO ?_|refine jP ?_|refine jQ ?_|(refine jB ?_;clear hK K)|(refine jC ?_;clear hK K)|refine jD ?_|refine jE ?_|refine jG ?_|refine jH ?_|refine jI ?_)|((with_reducible refine jR ?hq ?_);case hq=>rfl)|((first|(with_reducible first|refine jS fun K hK=>?_|refine jT ?_|refine jU ?_)|((with_reducible refine jV ?hy fun K hK=>?_);case hy=>rfl));simp only [go_sem, Nat.reduceEqDiff, Nat.reduceAdd, Nat.reduceMul, Nat.reduceLeDiff, Nat.reduceLT, Int.reduceLT, Int.reduceLE, Int.reduceEq, Int.reduceNeg, Int.reduceToNat, Nat.reducePow, reduceIte, reduceCtorEq, i2, q2, i5, i4, hd2, c0, hy])|((with_reducible first|refine jW ?hy ?_|refine jY ?hy ?_);case hy=>rfl)|((with_reducible first|refine jX ?hy ?_|refine jZ ?hy ?_);case hy=>rfl)|((with_reducible refine jF ?hy ?_);case hy=>decide))
  have hln : (natsI (ws.take (k + 1))).length ≤ 4096 := by unfold natsI; simp; omega
  refine append_ir elems34 tl3 hr rfl (by decide) (by simp only []; omega) rfl ?_
  intro v' H3 B' hr3 hf3 hB3
  have er : natsI (ws.take (k + 1)) ++ [((z : Nat) : Int)] = natsI (ws.take (k + 1 + 1)) := by
   unfold natsI
   rw [List.take_add_one (i := k + 1), hz]
   simp
  rw [er] at hr3
  repeat' (first|(with_reducible first|refine jA ?_|(refine hK _ _ ?_;clear hK K)|refine jJ fun K hK=>?_|refine jK ?_|refine jL ?_|refine jM ?_|refine jN ?_|refine jO ?_|refine jP ?_|refine jQ ?_|(refine jB ?_;clear hK K)|(refine jC ?_;clear hK K)|refine jD ?_|refine jE ?_|refine jG ?_|refine jH ?_|refine jI ?_)|((with_reducible refine jR ?hq ?_);case hq=>rfl)|((first|(with_reducible first|refine jS fun K hK=>?_|refine jT ?_|refine jU ?_)|((with_reducible refine jV ?hy fun K hK=>?_);case hy=>rfl));simp only [go_sem, Nat.reduceEqDiff, Nat.reduceAdd, Nat.reduceMul, Nat.reduceLeDiff, Nat.reduceLT, Int.reduceLT, Int.reduceLE, Int.reduceEq, Int.reduceNeg, Int.reduceToNat, Nat.reducePow, reduceIte, reduceCtorEq])|((with_reducible first|refine jW ?hy ?_|refine jY ?hy ?_);case hy=>rfl)|((with_reducible first|refine jX ?hy ?_|refine jZ ?hy ?_);case hy=>rfl)|((with_reducible refine jF ?hy ?_);case hy=>decide))
  refine loop_normal (m' := ws.length - (k + 1)) (by omega) ⟨k + 1, z, B', v', hz, rfl, rfl, rfl, hr3, hf2.trans' hf3 (fun b hb hBb => ?_), fun b hb => ?_⟩
  ·have := hB b hBb
   omega
  ·have hs := hf2.size
   rcases hB3 with rfl | ⟨g', hg', hge⟩
   ·exact hB b hb
   ·rw [hg'] at hb
    obtain rfl := Option.some.inj hb
    omega
 | true =>
  have hlt : k + 1 = ws.length := by
   have h1 := (List.getElem?_eq_some_iff.1 hk).1
   rcases Nat.lt_or_ge (k + 1) ws.length with h | h
   ·obtain ⟨z, hz⟩ : ∃ z, ws[k + 1]? = some z := ⟨_, List.getElem?_eq_getElem h⟩
    have := (w1 k y z hk hz).1
    rw [hT] at this; cases this
   ·omega
  rw [hlt, List.take_length] at hr
  repeat' (first|(with_reducible first|refine jA ?_|(refine hK _ _ ?_;clear hK K)|refine jJ fun K hK=>?_|refine jK ?_|refine jL ?_|refine jM ?_|refine jN ?_|refine jO ?_|refine jP ?_|refine jQ ?_|(refine jB ?_;clear hK K)|(refine jC ?_;clear hK K)|refine jD ?_|refine jE ?_|refine jG ?_|refine jH ?_|refine jI ?_)|((with_reducible refine jR ?hq ?_);case hq=>rfl)|((first|(with_reducible first|refine jS fun K hK=>?_|refine jT ?_|refine jU ?_)|((with_reducible refine jV ?hy fun K hK=>?_);case hy=>rfl));simp only [go_sem, Nat.reduceEqDiff, Nat.reduceAdd, Nat.reduceMul, Nat.reduceLeDiff, Nat.reduceLT, Int.reduceLT, Int.reduceLE, Int.reduceEq, Int.reduceNeg, Int.reduceToNat, Nat.reducePow, reduceIte, reduceCtorEq])|((with_reducible first|refine jW ?hy ?_|refine jY ?hy ?_);case hy=>rfl)|((with_reducible first|refine jX ?hy ?_|refine jZ ?hy ?_);case hy=>rfl)|((with_reducible refine jF ?hy ?_);case hy=>decide))
  intro hx_; clear hx_
  refine top_seq (top_seq (top_of mixed [] (by kernel_rfl) ?_))
  repeat' (first|(with_reducible first|refine jA ?_|(refine hK _ _ ?_;clear hK K)|refine jJ fun K hK=>?_|refine jK ?_|refine jL ?_|refine jM ?_|refine jN ?_|refine jO ?_|refine jP ?_|refine jQ ?_|(refine jB ?_;clear hK K)|(refine jC ?_;clear hK K)|refine jD ?_|refine jE ?_|refine jG ?_|refine jH ?_|refine jI ?_)|((with_reducible refine jR ?hq ?_);case hq=>rfl)|((first|(with_reducible first|refine jS fun K hK=>?_|refine jT ?_|refine jU ?_)|((with_reducible refine jV ?hy fun K hK=>?_);case hy=>rfl));simp only [go_sem, Nat.reduceEqDiff, Nat.reduceAdd, Nat.reduceMul, Nat.reduceLeDiff, Nat.reduceLT, Int.reduceLT, Int.reduceLE, Int.reduceEq, Int.reduceNeg, Int.reduceToNat, Nat.reducePow, reduceIte, reduceCtorEq, i4])|((with_reducible first|refine jW ?hy ?_|refine jY ?hy ?_);case hy=>rfl)|((with_reducible first|refine jX ?hy ?_|refine jZ ?hy ?_);case hy=>rfl)|((with_reducible refine jF ?hy ?_);case hy=>decide))
  obtain ⟨rg, cap, rfl, rfl, hcells⟩ := hcell_app hr (by unfold natsI; simpa using hw.ne)
  refine back_ok (a := some ⟨rg, 0, none⟩) fun H3 hf3 q3' => ?_
  repeat' (first|(with_reducible first|refine jA ?_|(refine hK _ _ ?_;clear hK K)|refine jJ fun K hK=>?_|refine jK ?_|refine jL ?_|refine jM ?_|refine jN ?_|refine jO ?_|refine jP ?_|refine jQ ?_|(refine jB ?_;clear hK K)|(refine jC ?_;clear hK K)|refine jD ?_|refine jE ?_|refine jG ?_|refine jH ?_|refine jI ?_)|((with_reducible refine jR ?hq ?_);case hq=>rfl)|((first|(with_reducible first|refine jS fun K hK=>?_|refine jT ?_|refine jU ?_)|((with_reducible refine jV ?hy fun K hK=>?_);case hy=>rfl));simp only [go_sem, Nat.reduceEqDiff, Nat.reduceAdd, Nat.reduceMul, Nat.reduceLeDiff, Nat.reduceLT, Int.reduceLT, Int.reduceLE, Int.reduceEq, Int.reduceNeg, Int.reduceToNat, Nat.reducePow, reduceIte, reduceCtorEq])|((with_reducible first|refine jW ?hy ?_|refine jY ?hy ?_);case hy=>rfl)|((with_reducible first|refine jX ?hy ?_|refine jZ ?hy ?_);case hy=>rfl)|((with_reducible refine jF ?hy ?_);case hy=>decide))
  intro hx_; clear hx_
  have hN3 := hN2.grow hf3
  have q3 : hcell H3 ⟨H.size, 0, none⟩ = some (.pointer (some ⟨t, 0, none⟩)) := by rw [hf3.cell (hcell_lt q2) (fun h => h)]; exact q2
  have hc3 : ∀ k x, (natsI ws)[k]? = some x → hcell H3 ⟨rg, k, none⟩ = some (.int .i64 x) := fun k x hx => by
   have := hcells k x hx
   rw [hf3.cell (hcell_lt this) (fun h => h)]; exact this
  have hs2 := hf2.size
  have hs3 := hf3.size
  have nrg : rg ≠ g := by have := hB rg rfl; omega
  have hnw : (natsI ws).length = ws.length := by unfold natsI; simp
  refine top_block (top_rangeN rfl fun r H4 hR hD hl hf4 s4 => ?_)
  have hN4 := hN3.grow hf4
  have q4 : hcell H4 ⟨H.size, 0, none⟩ = some (.pointer (some ⟨t, 0, none⟩)) := by rw [hf4.cell (hcell_lt q3) (fun h => h)]; exact q3
  have qs4 : hcell H4 ⟨H2.size, 0, none⟩ = some (.slice (some ⟨rg, 0, none⟩) (natsI ws).length cap) := by rw [hf4.cell (hcell_lt q3') (fun h => h)]; exact q3'
  have hc4 : ∀ k x, (natsI ws)[k]? = some x → hcell H4 ⟨rg, k, none⟩ = some (.int .i64 x) := fun k x hx => by
   have := hc3 k x hx
   rw [hf4.cell (hcell_lt this) (fun h => h)]; exact this
  have lS2 := hcell_lt q3'
  simp only at lS2
  refine backward_ok (l := H3.size + 1) (b := H2.size) (rg := rg) (cap := cap) (xs := natsI ws) (fun i H' => NA H' t g c len (pushAll N (ws.drop i)) ∧ Fr (· = g) H4 H') (by omega) ?_ ?_ ?_ ?_
  ·rintro i H' ⟨_, hf⟩
   refine ⟨by rw [hf.cell (hcell_lt qs4) (by simp only; omega)]; exact qs4, fun k x hx => ?_⟩
   have := hc4 k x hx
   rw [hf.cell (hcell_lt this) (by simpa using nrg)]; exact this
  ·refine ⟨?_, .refl _ _⟩
   rw [hnw, List.drop_length]
   exact hN4
  ·rintro i x H' K' hxi ⟨hNi, hfi⟩ hk
   obtain ⟨y', hyi, rfl⟩ : ∃ y' : Nat, ws[i]? = some y' ∧ x = (y' : Nat) := by
    unfold natsI at hxi
    rw [List.getElem?_map] at hxi
    cases hw' : ws[i]? with
    | none => rw [hw'] at hxi; cases hxi
    | some y' => rw [hw'] at hxi; exact ⟨y', rfl, (Option.some.inj hxi).symm⟩
   have hy' : y' < len := hwl y' (List.mem_of_getElem? hyi)
   have hli : H'[H3.size + 1]? = some (.loop r) := by rw [hfi.same _ (by omega) (by omega)]; exact hl
   refine hp_round mixed [] hR hli rfl (by simp) (by kernel_rfl) (by kernel_rfl) (fun e => e 7 = .int .i64 (y' : Nat) ∧ e 2 = .pointer (some ⟨H.size, 0, none⟩)) ?_ ?_
   ·rw [show (#[32, 33].zip #[Value.int .i64 (i : Nat), Value.int .i64 (y' : Nat)]).toList = [(32, Value.int .i64 (i : Nat)), (33, Value.int .i64 (y' : Nat))] from by simp [Array.toList_zip]]
    simp only [List.foldl_cons, List.foldl_nil]
    repeat' (first|(with_reducible first|refine jA ?_|(refine hK _ _ ?_;clear hK K)|refine jJ fun K hK=>?_|refine jK ?_|refine jL ?_|refine jM ?_|refine jN ?_|refine jO ?_|refine jP ?_|refine jQ ?_|(refine jB ?_;clear hK K)|(refine jC ?_;clear hK K)|refine jD ?_|refine jE ?_|refine jG ?_|refine jH ?_|refine jI ?_)|((with_reducible refine jR ?hq ?_);case hq=>rfl)|((first|(with_reducible first|refine jS fun K hK=>?_|refine jT ?_|refine jU ?_)|((with_reducible refine jV ?hy fun K hK=>?_);case hy=>rfl));simp only [go_sem, Nat.reduceEqDiff, Nat.reduceAdd, Nat.reduceMul, Nat.reduceLeDiff, Nat.reduceLT, Int.reduceLT, Int.reduceLE, Int.reduceEq, Int.reduceNeg, Int.reduceToNat, Nat.reducePow, reduceIte, reduceCtorEq])|((with_reducible first|refine jW ?hy ?_|refine jY ?hy ?_);case hy=>rfl)|((with_reducible first|refine jX ?hy ?_|refine jZ ?hy ?_);case hy=>rfl)|((with_reducible refine jF ?hy ?_);case hy=>decide))
    refine ⟨rfl, rfl, ?_, ?_⟩
    ·rfl
    ·exact i2
   ·rintro e1 ⟨j7, j2⟩
    have hfb : Fr (· = H3.size + 1) H' (H'.setIfInBounds (H3.size + 1) (.loop (busy r))) := setIB_fr _ _ _
    have hNb := hNi.frame hfb (by omega) (by omega)
    have qb : hcell (H'.setIfInBounds (H3.size + 1) (.loop (busy r))) ⟨H.size, 0, none⟩ = some (.pointer (some ⟨t, 0, none⟩)) := by
     have h1 : hcell H' ⟨H.size, 0, none⟩ = some (.pointer (some ⟨t, 0, none⟩)) := by rw [hfi.cell (hcell_lt q4) (by simp only; omega)]; exact q4
     rw [hfb.cell (hcell_lt h1) (by simp only; omega)]; exact h1
    have hlb : (H'.setIfInBounds (H3.size + 1) (.loop (busy r)))[H3.size + 1]? = some (.loop (busy r)) := by rw [Array.getElem?_setIfInBounds_self_of_lt (by have := hfi.size; omega)]
    generalize H'.setIfInBounds (H3.size + 1) (.loop (busy r)) = Hb at hfb hNb qb hlb
    repeat' (first|(with_reducible first|refine jA ?_|(refine hK _ _ ?_;clear hK K)|refine jJ fun K hK=>?_|refine jK ?_|refine jL ?_|refine jM ?_|refine jN ?_|refine jO ?_|refine jP ?_|refine jQ ?_|(refine jB ?_;clear hK K)|(refine jC ?_;clear hK K)|refine jD ?_|refine jE ?_|refine jG ?_|refine jH ?_|refine jI ?_)|((with_reducible refine jR ?hq ?_);case hq=>rfl)|((first|(with_reducible first|refine jS fun K hK=>?_|refine jT ?_|refine jU ?_)|((with_reducible refine jV ?hy fun K hK=>?_);case hy=>rfl));simp only [go_sem, Nat.reduceEqDiff, Nat.reduceAdd, Nat.reduceMul, Nat.reduceLeDiff, Nat.reduceLT, Int.reduceLT, Int.reduceLE, Int.reduceEq, Int.reduceNeg, Int.reduceToNat, Nat.reducePow, reduceIte, reduceCtorEq, j7, j2, qb])|((with_reducible first|refine jW ?hy ?_|refine jY ?hy ?_);case hy=>rfl)|((with_reducible first|refine jX ?hy ?_|refine jZ ?hy ?_);case hy=>rfl)|((with_reducible refine jF ?hy ?_);case hy=>decide))
    refine push_ok hNb hy' fun H6 hN6 hf6 => ?_
    repeat' (first|(with_reducible first|refine jA ?_|(refine hK _ _ ?_;clear hK K)|refine jJ fun K hK=>?_|refine jK ?_|refine jL ?_|refine jM ?_|refine jN ?_|refine jO ?_|refine jP ?_|refine jQ ?_|(refine jB ?_;clear hK K)|(refine jC ?_;clear hK K)|refine jD ?_|refine jE ?_|refine jG ?_|refine jH ?_|refine jI ?_)|((with_reducible refine jR ?hq ?_);case hq=>rfl)|((first|(with_reducible first|refine jS fun K hK=>?_|refine jT ?_|refine jU ?_)|((with_reducible refine jV ?hy fun K hK=>?_);case hy=>rfl));simp only [go_sem, Nat.reduceEqDiff, Nat.reduceAdd, Nat.reduceMul, Nat.reduceLeDiff, Nat.reduceLT, Int.reduceLT, Int.reduceLE, Int.reduceEq, Int.reduceNeg, Int.reduceToNat, Nat.reducePow, reduceIte, reduceCtorEq])|((with_reducible first|refine jW ?hy ?_|refine jY ?hy ?_);case hy=>rfl)|((with_reducible first|refine jX ?hy ?_|refine jZ ?hy ?_);case hy=>rfl)|((with_reducible refine jF ?hy ?_);case hy=>decide))
    have hl6 : H6[H3.size + 1]? = some (.loop (busy r)) := by rw [hf6.same _ (by have := hfb.size; have := hfi.size; omega) (by omega)]; exact hlb
    refine roundQ_normal hR hl6 (hk _ ⟨?_, ?_⟩)
    ·have := hN6.frame (setIB_fr H6 (H3.size + 1) (.loop r)) (by omega) (by omega)
     rw [List.drop_eq_getElem_cons (by exact (List.getElem?_eq_some_iff.1 hyi).1), (List.getElem?_eq_some_iff.1 hyi).2]
     exact this
    ·have f1 : Fr (fun b => b = g ∨ b = H3.size + 1) H4 (H6.setIfInBounds (H3.size + 1) (.loop r)) :=
      (((hfi.mono fun _ _ h => .inl h).trans (hfb.mono fun _ _ h => .inr h)).trans (hf6.mono fun _ _ h => .inl h)).trans ((setIB_fr _ _ _).mono fun _ _ h => .inr h)
     exact fr_close f1 (by rw [hl, Array.getElem?_setIfInBounds_self_of_lt (by have := hfb.size; have := hfi.size; have := hf6.size; omega)])
  ·rintro H5 ⟨hN5, hf5⟩
   have hl5 : H5[H3.size + 1]? = some (.loop r) := by rw [hf5.same _ (by omega) (by omega)]; exact hl
   refine ⟨hl5, ?_⟩
   have hD5 : H5[H3.size]? = some (.deferred (some [])) := by rw [hf5.same _ (by omega) (by omega)]; exact hD
   have q5 : hcell H5 ⟨H.size, 0, none⟩ = some (.pointer (some ⟨t, 0, none⟩)) := by rw [hf5.cell (hcell_lt q4) (by simp only; omega)]; exact q4
   have f6 := setIB_fr H5 (H3.size + 1) (.loop { r with state := .exhausted })
   have hN6 := hN5.frame f6 (by omega) (by omega)
   have hD6 : (H5.setIfInBounds (H3.size + 1) (.loop { r with state := .exhausted }))[H3.size]? = some (.deferred (some [])) := by rw [f6.same _ (by have := hf5.size; omega) (by omega)]; exact hD5
   have q6 : hcell (H5.setIfInBounds (H3.size + 1) (.loop { r with state := .exhausted })) ⟨H.size, 0, none⟩ = some (.pointer (some ⟨t, 0, none⟩)) := by rw [f6.cell (hcell_lt q5) (by simp only; omega)]; exact q5
   have f46 : Fr (fun b => b = g ∨ b = H3.size + 1) H4 (H5.setIfInBounds (H3.size + 1) (.loop { r with state := .exhausted })) := (hf5.mono fun _ _ h => .inl h).trans (f6.mono fun _ _ h => .inr h)
   generalize H5.setIfInBounds (H3.size + 1) (.loop { r with state := .exhausted }) = H6 at f6 hN6 hD6 q6 f46
   have f06 : Fr (· = g) H H6 := ((f0.trans (hf2.trans (hf3.trans hf4))).mono (S' := (· = g)) fun _ _ h => h.elim).trans' f46 fun b hb hS => by
    rcases hS with h | h
    ·exact h
    ·omega
   have s6 := f46.size
   rw [List.drop_zero] at hN6
   clear hN5 hl5 hD5 q5 f6 hf5 hD hl hR hN4 q4 qs4 hc4
   refine top_of mixed [13] (by kernel_rfl) ?_
   repeat' (first|(with_reducible first|refine jA ?_|(refine hK _ _ ?_;clear hK K)|refine jJ fun K hK=>?_|refine jK ?_|refine jL ?_|refine jM ?_|refine jN ?_|refine jO ?_|refine jP ?_|refine jQ ?_|(refine jB ?_;clear hK K)|(refine jC ?_;clear hK K)|refine jD ?_|refine jE ?_|refine jG ?_|refine jH ?_|refine jI ?_)|((with_reducible refine jR ?hq ?_);case hq=>rfl)|((first|(with_reducible first|refine jS fun K hK=>?_|refine jT ?_|refine jU ?_)|((with_reducible refine jV ?hy fun K hK=>?_);case hy=>rfl));simp only [go_sem, Nat.reduceEqDiff, Nat.reduceAdd, Nat.reduceMul, Nat.reduceLeDiff, Nat.reduceLT, Int.reduceLT, Int.reduceLE, Int.reduceEq, Int.reduceNeg, Int.reduceToNat, Nat.reducePow, reduceIte, reduceCtorEq])|((with_reducible first|refine jW ?hy ?_|refine jY ?hy ?_);case hy=>rfl)|((with_reducible first|refine jX ?hy ?_|refine jZ ?hy ?_);case hy=>rfl)|((with_reducible refine jF ?hy ?_);case hy=>decide))
   refine x_loop (fun m e' H' => ∃ N', NA H' t g c len N' ∧ P m N' ∧ Fr (· = g) H6 H') m0 ⟨_, hN6, h0, .refl _ _⟩ ?_
   rintro m e3 H7 ⟨N7, hN7, hP7, hf7⟩ hoff
   have j1 : e3 1 = .int .i64 (h : Nat) := (hoff 1 rfl).trans i1
   have j2 : e3 2 = .pointer (some ⟨H.size, 0, none⟩) := (hoff 2 rfl).trans i2
   clear hoff
   have hq : ∀ H', Fr (· = g) H6 H' → hcell H' ⟨H.size, 0, none⟩ = some (.pointer (some ⟨t, 0, none⟩)) := fun H' hf => by rw [hf.cell (hcell_lt q6) (by simp only; omega)]; exact q6
   have q7 := hq H7 hf7
   repeat' (first|(with_reducible first|refine jA ?_|(refine hK _ _ ?_;clear hK K)|refine jJ fun K hK=>?_|refine jK ?_|refine jL ?_|refine jM ?_|refine jN ?_|refine jO ?_|refine jP ?_|refine jQ ?_|(refine jB ?_;clear hK K)|(refine jC ?_;clear hK K)|refine jD ?_|refine jE ?_|refine jG ?_|refine jH ?_|refine jI ?_)|((with_reducible refine jR ?hq ?_);case hq=>rfl)|((first|(with_reducible first|refine jS fun K hK=>?_|refine jT ?_|refine jU ?_)|((with_reducible refine jV ?hy fun K hK=>?_);case hy=>rfl));simp only [go_sem, Nat.reduceEqDiff, Nat.reduceAdd, Nat.reduceMul, Nat.reduceLeDiff, Nat.reduceLT, Int.reduceLT, Int.reduceLE, Int.reduceEq, Int.reduceNeg, Int.reduceToNat, Nat.reducePow, reduceIte, reduceCtorEq, j1, j2, q7])|((with_reducible first|refine jW ?hy ?_|refine jY ?hy ?_);case hy=>rfl)|((with_reducible first|refine jX ?hy ?_|refine jZ ?hy ?_);case hy=>rfl)|((with_reducible refine jF ?hy ?_);case hy=>decide))
   refine top_ok hN7 hh ?_
   rcases hP m N7 hP7 with hT | ⟨hT, m', hm, hP8⟩
   ·rw [hT]
    repeat' (first|(with_reducible first|refine jA ?_|(refine hK _ _ ?_;clear hK K)|refine jJ fun K hK=>?_|refine jK ?_|refine jL ?_|refine jM ?_|refine jN ?_|refine jO ?_|refine jP ?_|refine jQ ?_|(refine jB ?_;clear hK K)|(refine jC ?_;clear hK K)|refine jD ?_|refine jE ?_|refine jG ?_|refine jH ?_|refine jI ?_)|((with_reducible refine jR ?hq ?_);case hq=>rfl)|((first|(with_reducible first|refine jS fun K hK=>?_|refine jT ?_|refine jU ?_)|((with_reducible refine jV ?hy fun K hK=>?_);case hy=>rfl));simp only [go_sem, Nat.reduceEqDiff, Nat.reduceAdd, Nat.reduceMul, Nat.reduceLeDiff, Nat.reduceLT, Int.reduceLT, Int.reduceLE, Int.reduceEq, Int.reduceNeg, Int.reduceToNat, Nat.reducePow, reduceIte, reduceCtorEq])|((with_reducible first|refine jW ?hy ?_|refine jY ?hy ?_);case hy=>rfl)|((with_reducible first|refine jX ?hy ?_|refine jZ ?hy ?_);case hy=>rfl)|((with_reducible refine jF ?hy ?_);case hy=>decide))
    intro hx_
    clear hx_
    have hD7 : H7[H3.size]? = some (.deferred (some [])) := by rw [hf7.same _ (by omega) (by omega)]; exact hD6
    refine ⟨⟨hD7, trivial⟩, ?_⟩
    have f8 := setIB_fr H7 H3.size (.deferred none)
    show L (.tuple #[]) _
    refine fin _ N7 m (hN7.frame f8 (by omega) (by omega)) hP7 hT ?_
    exact (f06.trans hf7).trans' f8 fun b hb e => by omega
   ·rw [hT]
    have hu := hN7.cl.up h hh
    have c0 := hN7.cell0 hh
    have hd7 := hN7.hd
    unfold stepN at hP8
    obtain ⟨u, eu⟩ : ∃ u, (N7 h).up = u := ⟨_, rfl⟩
    rw [eu] at hu c0
    rw [eu] at hP8
    repeat' (first|(with_reducible first|refine jA ?_|(refine hK _ _ ?_;clear hK K)|refine jJ fun K hK=>?_|refine jK ?_|refine jL ?_|refine jM ?_|refine jN ?_|refine jO ?_|refine jP ?_|refine jQ ?_|(refine jB ?_;clear hK K)|(refine jC ?_;clear hK K)|refine jD ?_|refine jE ?_|refine jG ?_|refine jH ?_|refine jI ?_)|((with_reducible refine jR ?hq ?_);case hq=>rfl)|((first|(with_reducible first|refine jS fun K hK=>?_|refine jT ?_|refine jU ?_)|((with_reducible refine jV ?hy fun K hK=>?_);case hy=>rfl));simp only [go_sem, Nat.reduceEqDiff, Nat.reduceAdd, Nat.reduceMul, Nat.reduceLeDiff, Nat.reduceLT, Int.reduceLT, Int.reduceLE, Int.reduceEq, Int.reduceNeg, Int.reduceToNat, Nat.reducePow, reduceIte, reduceCtorEq, j1, j2, q7, hd7, c0, hh])|((with_reducible first|refine jW ?hy ?_|refine jY ?hy ?_);case hy=>rfl)|((with_reducible first|refine jX ?hy ?_|refine jZ ?hy ?_);case hy=>rfl)|((with_reducible refine jF ?hy ?_);case hy=>decide))
    refine top_ok hN7 hu ?_
    cases hTu : topB N7 u with
    | true =>
     rw [hTu, if_pos rfl] at hP8
     repeat' (first|(with_reducible first|refine jA ?_|(refine hK _ _ ?_;clear hK K)|refine jJ fun K hK=>?_|refine jK ?_|refine jL ?_|refine jM ?_|refine jN ?_|refine jO ?_|refine jP ?_|refine jQ ?_|(refine jB ?_;clear hK K)|(refine jC ?_;clear hK K)|refine jD ?_|refine jE ?_|refine jG ?_|refine jH ?_|refine jI ?_)|((with_reducible refine jR ?hq ?_);case hq=>rfl)|((first|(with_reducible first|refine jS fun K hK=>?_|refine jT ?_|refine jU ?_)|((with_reducible refine jV ?hy fun K hK=>?_);case hy=>rfl));simp only [go_sem, Nat.reduceEqDiff, Nat.reduceAdd, Nat.reduceMul, Nat.reduceLeDiff, Nat.reduceLT, Int.reduceLT, Int.reduceLE, Int.reduceEq, Int.reduceNeg, Int.reduceToNat, Nat.reducePow, reduceIte, reduceCtorEq, j1, j2, q7])|((with_reducible first|refine jW ?hy ?_|refine jY ?hy ?_);case hy=>rfl)|((with_reducible first|refine jX ?hy ?_|refine jZ ?hy ?_);case hy=>rfl)|((with_reducible refine jF ?hy ?_);case hy=>decide))
     refine rotate_ok hN7 hh fun H8 hN8 hf8 => ?_
     repeat' (first|(with_reducible first|refine jA ?_|(refine hK _ _ ?_;clear hK K)|refine jJ fun K hK=>?_|refine jK ?_|refine jL ?_|refine jM ?_|refine jN ?_|refine jO ?_|refine jP ?_|refine jQ ?_|(refine jB ?_;clear hK K)|(refine jC ?_;clear hK K)|refine jD ?_|refine jE ?_|refine jG ?_|refine jH ?_|refine jI ?_)|((with_reducible refine jR ?hq ?_);case hq=>rfl)|((first|(with_reducible first|refine jS fun K hK=>?_|refine jT ?_|refine jU ?_)|((with_reducible refine jV ?hy fun K hK=>?_);case hy=>rfl));simp only [go_sem, Nat.reduceEqDiff, Nat.reduceAdd, Nat.reduceMul, Nat.reduceLeDiff, Nat.reduceLT, Int.reduceLT, Int.reduceLE, Int.reduceEq, Int.reduceNeg, Int.reduceToNat, Nat.reducePow, reduceIte, reduceCtorEq])|((with_reducible first|refine jW ?hy ?_|refine jY ?hy ?_);case hy=>rfl)|((with_reducible first|refine jX ?hy ?_|refine jZ ?hy ?_);case hy=>rfl)|((with_reducible refine jF ?hy ?_);case hy=>decide))
     exact loop_normal hm ⟨_, hN8, hP8, hf7.trans hf8⟩
    | false =>
     rw [hTu, if_neg (by simp)] at hP8
     have ho := hN7.cl.up u hu
     have u0 := hN7.cell0 hu
     have u1 := hN7.cell (j := 1) hu rfl
     have o1 := hN7.cell (j := 1) ho rfl
     have e1 : (((N7 (N7 u).up).l : Int) == (u : Int)) = decide ((N7 (N7 u).up).l = u) := by rw [Bool.eq_iff_iff]; simp; omega
     have e2 : (((N7 u).l : Int) == (h : Int)) = decide ((N7 u).l = h) := by rw [Bool.eq_iff_iff]; simp; omega
     unfold firstN at hP8
     rw [eu] at hP8
     by_cases hb : (decide ((N7 (N7 u).up).l = u) == decide ((N7 u).l = h)) = true
     ·rw [if_pos hb] at hP8
      repeat' (first|(with_reducible first|refine jA ?_|(refine hK _ _ ?_;clear hK K)|refine jJ fun K hK=>?_|refine jK ?_|refine jL ?_|refine jM ?_|refine jN ?_|refine jO ?_|refine jP ?_|refine jQ ?_|(refine jB ?_;clear hK K)|(refine jC ?_;clear hK K)|refine jD ?_|refine jE ?_|refine jG ?_|refine jH ?_|refine jI ?_)|((with_reducible refine jR ?hq ?_);case hq=>rfl)|((first|(with_reducible first|refine jS fun K hK=>?_|refine jT ?_|refine jU ?_)|((with_reducible refine jV ?hy fun K hK=>?_);case hy=>rfl));simp only [go_sem, Nat.reduceEqDiff, Nat.reduceAdd, Nat.reduceMul, Nat.reduceLeDiff, Nat.reduceLT, Int.reduceLT, Int.reduceLE, Int.reduceEq, Int.reduceNeg, Int.reduceToNat, Nat.reducePow, reduceIte, reduceCtorEq, j1, j2, q7, hd7, u0, u1, o1, hu, ho, e1, e2, hb])|((with_reducible first|refine jW ?hy ?_|refine jY ?hy ?_);case hy=>rfl)|((with_reducible first|refine jX ?hy ?_|refine jZ ?hy ?_);case hy=>rfl)|((with_reducible refine jF ?hy ?_);case hy=>decide))
      refine rotate_ok hN7 hu fun H8 hN8 hf8 => ?_
      have q8 := hq H8 (hf7.trans hf8)
      repeat' (first|(with_reducible first|refine jA ?_|(refine hK _ _ ?_;clear hK K)|refine jJ fun K hK=>?_|refine jK ?_|refine jL ?_|refine jM ?_|refine jN ?_|refine jO ?_|refine jP ?_|refine jQ ?_|(refine jB ?_;clear hK K)|(refine jC ?_;clear hK K)|refine jD ?_|refine jE ?_|refine jG ?_|refine jH ?_|refine jI ?_)|((with_reducible refine jR ?hq ?_);case hq=>rfl)|((first|(with_reducible first|refine jS fun K hK=>?_|refine jT ?_|refine jU ?_)|((with_reducible refine jV ?hy fun K hK=>?_);case hy=>rfl));simp only [go_sem, Nat.reduceEqDiff, Nat.reduceAdd, Nat.reduceMul, Nat.reduceLeDiff, Nat.reduceLT, Int.reduceLT, Int.reduceLE, Int.reduceEq, Int.reduceNeg, Int.reduceToNat, Nat.reducePow, reduceIte, reduceCtorEq, j1, j2, q8])|((with_reducible first|refine jW ?hy ?_|refine jY ?hy ?_);case hy=>rfl)|((with_reducible first|refine jX ?hy ?_|refine jZ ?hy ?_);case hy=>rfl)|((with_reducible refine jF ?hy ?_);case hy=>decide))
      refine rotate_ok hN8 hh fun H9 hN9 hf9 => ?_
      repeat' (first|(with_reducible first|refine jA ?_|(refine hK _ _ ?_;clear hK K)|refine jJ fun K hK=>?_|refine jK ?_|refine jL ?_|refine jM ?_|refine jN ?_|refine jO ?_|refine jP ?_|refine jQ ?_|(refine jB ?_;clear hK K)|(refine jC ?_;clear hK K)|refine jD ?_|refine jE ?_|refine jG ?_|refine jH ?_|refine jI ?_)|((with_reducible refine jR ?hq ?_);case hq=>rfl)|((first|(with_reducible first|refine jS fun K hK=>?_|refine jT ?_|refine jU ?_)|((with_reducible refine jV ?hy fun K hK=>?_);case hy=>rfl));simp only [go_sem, Nat.reduceEqDiff, Nat.reduceAdd, Nat.reduceMul, Nat.reduceLeDiff, Nat.reduceLT, Int.reduceLT, Int.reduceLE, Int.reduceEq, Int.reduceNeg, Int.reduceToNat, Nat.reducePow, reduceIte, reduceCtorEq])|((with_reducible first|refine jW ?hy ?_|refine jY ?hy ?_);case hy=>rfl)|((with_reducible first|refine jX ?hy ?_|refine jZ ?hy ?_);case hy=>rfl)|((with_reducible refine jF ?hy ?_);case hy=>decide))
      exact loop_normal hm ⟨_, hN9, hP8, (hf7.trans hf8).trans hf9⟩
     ·rw [if_neg hb] at hP8
      simp only [Bool.not_eq_true] at hb
      repeat' (first|(with_reducible first|refine jA ?_|(refine hK _ _ ?_;clear hK K)|refine jJ fun K hK=>?_|refine jK ?_|refine jL ?_|refine jM ?_|refine jN ?_|refine jO ?_|refine jP ?_|refine jQ ?_|(refine jB ?_;clear hK K)|(refine jC ?_;clear hK K)|refine jD ?_|refine jE ?_|refine jG ?_|refine jH ?_|refine jI ?_)|((with_reducible refine jR ?hq ?_);case hq=>rfl)|((first|(with_reducible first|refine jS fun K hK=>?_|refine jT ?_|refine jU ?_)|((with_reducible refine jV ?hy fun K hK=>?_);case hy=>rfl));simp only [go_sem, Nat.reduceEqDiff, Nat.reduceAdd, Nat.reduceMul, Nat.reduceLeDiff, Nat.reduceLT, Int.reduceLT, Int.reduceLE, Int.reduceEq, Int.reduceNeg, Int.reduceToNat, Nat.reducePow, reduceIte, reduceCtorEq, j1, j2, q7, hd7, u0, u1, o1, hu, ho, e1, e2, hb])|((with_reducible first|refine jW ?hy ?_|refine jY ?hy ?_);case hy=>rfl)|((with_reducible first|refine jX ?hy ?_|refine jZ ?hy ?_);case hy=>rfl)|((with_reducible refine jF ?hy ?_);case hy=>decide))
      refine rotate_ok hN7 hh fun H8 hN8 hf8 => ?_
      have q8 := hq H8 (hf7.trans hf8)
      repeat' (first|(with_reducible first|refine jA ?_|(refine hK _ _ ?_;clear hK K)|refine jJ fun K hK=>?_|refine jK ?_|refine jL ?_|refine jM ?_|refine jN ?_|refine jO ?_|refine jP ?_|refine jQ ?_|(refine jB ?_;clear hK K)|(refine jC ?_;clear hK K)|refine jD ?_|refine jE ?_|refine jG ?_|refine jH ?_|refine jI ?_)|((with_reducible refine jR ?hq ?_);case hq=>rfl)|((first|(with_reducible first|refine jS fun K hK=>?_|refine jT ?_|refine jU ?_)|((with_reducible refine jV ?hy fun K hK=>?_);case hy=>rfl));simp only [go_sem, Nat.reduceEqDiff, Nat.reduceAdd, Nat.reduceMul, Nat.reduceLeDiff, Nat.reduceLT, Int.reduceLT, Int.reduceLE, Int.reduceEq, Int.reduceNeg, Int.reduceToNat, Nat.reducePow, reduceIte, reduceCtorEq, j1, j2, q8])|((with_reducible first|refine jW ?hy ?_|refine jY ?hy ?_);case hy=>rfl)|((with_reducible first|refine jX ?hy ?_|refine jZ ?hy ?_);case hy=>rfl)|((with_reducible refine jF ?hy ?_);case hy=>decide))
      refine rotate_ok hN8 hh fun H9 hN9 hf9 => ?_
      repeat' (first|(with_reducible first|refine jA ?_|(refine hK _ _ ?_;clear hK K)|refine jJ fun K hK=>?_|refine jK ?_|refine jL ?_|refine jM ?_|refine jN ?_|refine jO ?_|refine jP ?_|refine jQ ?_|(refine jB ?_;clear hK K)|(refine jC ?_;clear hK K)|refine jD ?_|refine jE ?_|refine jG ?_|refine jH ?_|refine jI ?_)|((with_reducible refine jR ?hq ?_);case hq=>rfl)|((first|(with_reducible first|refine jS fun K hK=>?_|refine jT ?_|refine jU ?_)|((with_reducible refine jV ?hy fun K hK=>?_);case hy=>rfl));simp only [go_sem, Nat.reduceEqDiff, Nat.reduceAdd, Nat.reduceMul, Nat.reduceLeDiff, Nat.reduceLT, Int.reduceLT, Int.reduceLE, Int.reduceEq, Int.reduceNeg, Int.reduceToNat, Nat.reducePow, reduceIte, reduceCtorEq])|((with_reducible first|refine jW ?hy ?_|refine jY ?hy ?_);case hy=>rfl)|((with_reducible first|refine jX ?hy ?_|refine jZ ?hy ?_);case hy=>rfl)|((with_reducible refine jF ?hy ?_);case hy=>decide))
      exact loop_normal hm ⟨_, hN9, hP8, (hf7.trans hf8).trans hf9⟩
end
end Go.Proofs.Ytafehbegoanajaa
namespace Go.Li
set_option linter.unusedVariables false
set_option linter.unusedSimpArgs false

abbrev Par := Nat → Nat
inductive Ch (par : Par) : Nat → List Nat → Prop
 | root {h : Nat} : par h = 0 → Ch par h [h]
 | step {h : Nat} {l : List Nat} : par h ≠ 0 → Ch par (par h) l → Ch par h (h :: l)
variable {par : Par}
theorem Ch.uniq {h : Nat} {l l' : List Nat} (a : Ch par h l) (b : Ch par h l') : l = l' := by
 induction a generalizing l' with
 | root h0 =>
  cases b with
  | root _ => rfl
  | step h1 _ => exact absurd h0 h1
 | step h0 _ ih =>
  cases b with
  | root h1 => exact absurd h1 h0
  | step _ k => rw [ih k]
theorem Ch.head {h : Nat} {l : List Nat} (a : Ch par h l) : ∃ r, l = h :: r := by
 cases a
 ·exact ⟨_, rfl⟩
 ·exact ⟨_, rfl⟩
theorem Ch.ne {h : Nat} {l : List Nat} (a : Ch par h l) : l ≠ [] := by obtain ⟨r, rfl⟩ := a.head; simp
theorem Ch.tail {h : Nat} {p q : List Nat} {x : Nat} (a : Ch par h (p ++ x :: q)) : Ch par x (x :: q) := by
 generalize hl : p ++ x :: q = l at a
 induction a generalizing p with
 | @root h h0 =>
  cases p with
  | nil => simp at hl; obtain ⟨rfl, rfl⟩ := hl; exact .root h0
  | cons y p => simp at hl
 | @step h l h0 k ih =>
  cases p with
  | nil => simp at hl; obtain ⟨rfl, rfl⟩ := hl; exact .step h0 k
  | cons y p =>
   simp at hl
   exact ih hl.2
theorem Ch.par_eq {h : Nat} {p q : List Nat} {x y : Nat} (a : Ch par h (p ++ x :: y :: q)) : par x = y ∧ y ≠ 0 := by
 have := a.tail
 cases this with
 | step h0 k =>
  obtain ⟨r, hr⟩ := k.head
  simp at hr
  exact ⟨hr.1.symm, by rw [hr.1]; exact h0⟩
theorem Ch.last_par {h : Nat} {l : List Nat} {r : Nat} (a : Ch par h l) (hl : l.getLast? = some r) : par r = 0 := by
 induction a with
 | root h0 => simp at hl; subst hl; exact h0
 | @step h l h0 k ih =>
  obtain ⟨q, rfl⟩ := k.head
  exact ih (by simpa using hl)
theorem Ch.nodup {h : Nat} {l : List Nat} (a : Ch par h l) : l.Nodup := by
 induction a with
 | root _ => simp
 | @step h l h0 k ih =>
  refine List.nodup_cons.2 ⟨fun hm => ?_, ih⟩
  obtain ⟨p, q, e⟩ := List.append_of_mem hm
  rw [e] at k
  have h1 := k.tail
  have h2 : Ch par h (h :: (p ++ h :: q)) := .step h0 k
  have := congrArg List.length (h1.uniq h2)
  simp at this
  omega
theorem Ch.mem_self {h : Nat} {l : List Nat} (a : Ch par h l) : h ∈ l := by obtain ⟨r, rfl⟩ := a.head; exact .head _
theorem Ch.nz {h : Nat} {l : List Nat} (a : Ch par h l) (h0 : h ≠ 0) : 0 ∉ l := by
 induction a with
 | root _ => simp; omega
 | @step h l h1 k ih =>
  simp only [List.mem_cons, not_or]
  exact ⟨Ne.symm h0, ih h1⟩
theorem Ch.congr {par' : Par} {h : Nat} {l : List Nat} (a : Ch par h l) (hp : ∀ x ∈ l, par' x = par x) : Ch par' h l := by
 induction a with
 | root h0 => exact .root (by rw [hp _ (.head _)]; exact h0)
 | @step h l h0 k ih =>
  have e := hp h (.head _)
  have := ih fun x hx => hp x (.tail _ hx)
  rw [← e] at this
  exact .step (by rw [e]; exact h0) this
def RootOf (par : Par) (h r : Nat) : Prop := ∃ l, Ch par h l ∧ l.getLast? = some r
theorem RootOf.uniq {h r r' : Nat} (a : RootOf par h r) (b : RootOf par h r') : r = r' := by
 obtain ⟨l, h1, h2⟩ := a
 obtain ⟨l', h3, h4⟩ := b
 obtain rfl := h1.uniq h3
 rw [h2] at h4
 exact Option.some.inj h4
theorem RootOf.up {h r : Nat} (h0 : par h ≠ 0) : RootOf par h r ↔ RootOf par (par h) r := by
 constructor
 ·rintro ⟨l, h1, h2⟩
  cases h1 with
  | root h => exact absurd h h0
  | step _ k =>
   obtain ⟨q, rfl⟩ := k.head
   exact ⟨_, k, by simpa using h2⟩
 ·rintro ⟨l, h1, h2⟩
  obtain ⟨q, rfl⟩ := h1.head
  exact ⟨_, .step h0 h1, by simpa using h2⟩
theorem RootOf.self {h : Nat} (h0 : par h = 0) : RootOf par h h := ⟨_, .root h0, rfl⟩
def ev (par : Par) : Nat → List Nat → Nat → Nat
 | _, [], i => par i
 | prev, x :: r, i => if i = x then prev else ev par x r i
theorem ev_not_mem : ∀ {l : List Nat} {prev i : Nat}, i ∉ l → ev par prev l i = par i
 | [], _, _, _ => rfl
 | x :: r, prev, i, h => by
  simp only [List.mem_cons, not_or] at h
  unfold ev
  rw [if_neg h.1]
  exact ev_not_mem h.2
theorem ev_head {prev x : Nat} {r : List Nat} : ev par prev (x :: r) x = prev := if_pos rfl
theorem ev_next : ∀ {p : List Nat} {q : List Nat} {prev x y : Nat}, (p ++ x :: y :: q).Nodup → ev par prev (p ++ x :: y :: q) y = x
 | [], q, prev, x, y, h => by
  simp only [List.nil_append, List.nodup_cons, List.mem_cons, not_or] at h
  show ev par prev (x :: y :: q) y = x
  unfold ev
  rw [if_neg (Ne.symm h.1.1)]
  exact ev_head
 | z :: p, q, prev, x, y, h => by
  simp only [List.cons_append, List.nodup_cons, List.mem_append, List.mem_cons, not_or] at h
  show ev par prev (z :: (p ++ x :: y :: q)) y = x
  unfold ev
  rw [if_neg (Ne.symm h.1.2.2.1)]
  exact ev_next h.2
theorem ev_chain : ∀ {r : List Nat} {x : Nat} {p : List Nat}, (p.reverse ++ x :: r).Nodup → 0 ∉ p → Ch (ev par 0 (p.reverse ++ x :: r)) x (x :: p)
 | r, x, [], h, h0 => .root (by simp [ev_head])
 | r, x, y :: p, h, h0 => by
  have e : (y :: p).reverse ++ x :: r = p.reverse ++ y :: x :: r := by simp
  rw [e] at h ⊢
  have h1 := ev_next (par := par) (prev := 0) (p := p.reverse) (x := y) (y := x) (q := r) h
  simp only [List.mem_cons, not_or] at h0
  refine .step (by rw [h1]; exact Ne.symm h0.1) ?_
  rw [h1]
  exact ev_chain (r := x :: r) h h0.2
theorem ev_acyc {l : List Nat} {h0 : Nat} (hl : Ch par h0 l) (hz : h0 ≠ 0) {x : Nat} {m : List Nat} (hm : Ch par x m) : ∃ m', Ch (ev par 0 l) x m' := by
 have hn := hl.nodup
 have hnz := hl.nz hz
 have onl : ∀ y ∈ l, ∃ m', Ch (ev par 0 l) y m' := fun y hy => by
  obtain ⟨p, q, e⟩ := List.append_of_mem hy
  subst e
  refine ⟨y :: p.reverse, ?_⟩
  have := ev_chain (par := par) (r := q) (x := y) (p := p.reverse) (by rw [List.reverse_reverse]; exact hn) (fun h => hnz (List.mem_append_left _ (List.mem_reverse.1 h)))
  rw [List.reverse_reverse] at this
  exact this
 induction hm with
 | @root h h1 =>
  by_cases hh : h ∈ l
  ·exact onl h hh
  ·exact ⟨_, .root (by rw [ev_not_mem hh]; exact h1)⟩
 | @step h m h1 k ih =>
  by_cases hh : h ∈ l
  ·exact onl h hh
  ·obtain ⟨m', hm'⟩ := ih
   have e := ev_not_mem (par := par) (prev := 0) hh
   exact ⟨_, .step (by rw [e]; exact h1) (by rw [e]; exact hm')⟩
def Adj (par : Par) (x y : Nat) : Prop := (par x = y ∧ y ≠ 0) ∨ (par y = x ∧ x ≠ 0)
theorem Adj.symm {x y : Nat} (h : Adj par x y) : Adj par y x := Or.symm h
theorem ev_adj {l : List Nat} {h0 : Nat} (hl : Ch par h0 l) (hz : h0 ≠ 0) {x y : Nat} : Adj (ev par 0 l) x y ↔ Adj par x y := by
 have hn := hl.nodup
 have hnz := hl.nz hz
 have key : ∀ x y, (ev par 0 l x = y ∧ y ≠ 0) → Adj par x y := fun x y ⟨h1, h2⟩ => by
  by_cases hx : x ∈ l
  ·obtain ⟨p, q, e⟩ := List.append_of_mem hx
   rcases List.eq_nil_or_concat p with rfl | ⟨p', z, rfl⟩
   ·rw [e, List.nil_append, ev_head] at h1
    exact absurd h1.symm h2
   ·have e2 : l = p' ++ z :: x :: q := by rw [e]; simp
    rw [e2] at hn h1 hl
    rw [ev_next hn] at h1
    subst h1
    exact .inr ⟨(hl.par_eq).1, (hl.par_eq).2⟩
  ·rw [ev_not_mem hx] at h1
   exact .inl ⟨h1, h2⟩
 have key2 : ∀ x y, (par x = y ∧ y ≠ 0) → Adj (ev par 0 l) x y := fun x y ⟨h1, h2⟩ => by
  by_cases hx : x ∈ l
  ·obtain ⟨p, q, e⟩ := List.append_of_mem hx
   subst e
   have ht := hl.tail
   cases ht with
   | root h => rw [h] at h1; exact absurd h1.symm h2
   | step h k =>
    obtain ⟨r, hr⟩ := k.head
    rw [h1] at hr
    subst hr
    refine .inr ⟨ev_next hn, ?_⟩
    rintro rfl
    exact hnz (by simp)
  ·exact .inl ⟨by rw [ev_not_mem hx]; exact h1, h2⟩
 constructor
 ·rintro (h | h)
  ·exact key _ _ h
  ·exact (key _ _ h).symm
 ·rintro (h | h)
  ·exact key2 _ _ h
  ·exact (key2 _ _ h).symm
theorem ev_back : ∀ {l : List Nat} {h0 : Nat}, Ch par h0 l → h0 ≠ 0 → ev (ev par 0 l) 0 l.reverse = par := by
 intro l h0 hl hz
 have hn := hl.nodup
 funext i
 by_cases hi : i ∈ l
 ·obtain ⟨p, q, e⟩ := List.append_of_mem hi
  subst e
  have e1 : (p ++ i :: q).reverse = q.reverse ++ i :: p.reverse := by simp
  rw [e1]
  have hn' : (q.reverse ++ i :: p.reverse).Nodup := by rw [← e1]; exact (List.reverse_perm _).nodup_iff.2 hn
  have ht := hl.tail
  cases ht with
  | root h =>
   simp only [List.reverse_nil, List.nil_append]
   rw [ev_head, h]
  | step h k =>
   obtain ⟨r, hr⟩ := k.head
   subst hr
   have e2 : (par i :: r).reverse ++ i :: p.reverse = r.reverse ++ par i :: i :: p.reverse := by simp
   rw [e2] at hn' ⊢
   rw [ev_next hn']
 ·rw [ev_not_mem (by simpa using hi), ev_not_mem hi]
theorem ev_root {l : List Nat} {h0 r0 : Nat} (hl : Ch par h0 l) (hz : h0 ≠ 0) (hr : l.getLast? = some r0) {x r : Nat} (hx : RootOf par x r) : RootOf (ev par 0 l) x (if r = r0 then h0 else r) := by
 have hn := hl.nodup
 have hnz := hl.nz hz
 have onl : ∀ y ∈ l, RootOf (ev par 0 l) y h0 := fun y hy => by
  obtain ⟨p, q, e⟩ := List.append_of_mem hy
  have he := hl.head
  subst e
  have := ev_chain (par := par) (r := q) (x := y) (p := p.reverse) (by rw [List.reverse_reverse]; exact hn) (fun h => hnz (List.mem_append_left _ (List.mem_reverse.1 h)))
  rw [List.reverse_reverse] at this
  refine ⟨_, this, ?_⟩
  obtain ⟨s, hs⟩ := he
  cases p with
  | nil => simp at hs ⊢; exact hs.1
  | cons z p =>
   simp at hs ⊢
   rw [hs.1, ← List.cons_append, List.getLast?_append]
   simp
 have rl : ∀ y ∈ l, RootOf par y r0 := fun y hy => by
  obtain ⟨p, q, e⟩ := List.append_of_mem hy
  subst e
  exact ⟨_, hl.tail, by simpa using hr⟩
 obtain ⟨m, hm, hl'⟩ := hx
 induction hm with
 | @root h h1 =>
  simp at hl'
  subst hl'
  by_cases hh : h ∈ l
  ·have := (rl h hh).uniq (RootOf.self h1)
   rw [if_pos this.symm]
   exact onl h hh
  ·rw [if_neg]
   ·exact RootOf.self (by rw [ev_not_mem hh]; exact h1)
   ·rintro rfl
    exact hh (List.mem_of_getLast? hr)
 | @step h m h1 k ih =>
  have hr1 : RootOf par h r := ⟨_, .step h1 k, hl'⟩
  by_cases hh : h ∈ l
  ·have := (rl h hh).uniq hr1
   rw [if_pos this.symm]
   exact onl h hh
  ·obtain ⟨q, rfl⟩ := k.head
   have := ih (by simpa using hl')
   have e := ev_not_mem (par := par) (prev := 0) hh
   rw [RootOf.up (by rw [e]; exact h1), e]
   exact this
def setP (par : Par) (a p : Nat) : Par := fun i => if i = a then p else par i
theorem setP_same (par : Par) (a p : Nat) : setP par a p a = p := if_pos rfl
theorem setP_ne (par : Par) {a p i : Nat} (h : i ≠ a) : setP par a p i = par i := if_neg h
theorem cut_chain {a : Nat} {x : Nat} {m : List Nat} (hm : Ch par x m) : ∃ m', Ch (setP par a 0) x m' ∧ m' <+: m ∧ (a ∉ m → m' = m) ∧ (a ∈ m → m'.getLast? = some a) := by
 induction hm with
 | @root h h1 =>
  refine ⟨[h], .root ?_, List.prefix_refl _, fun _ => rfl, fun ha => by simp at ha; simp [ha]⟩
  unfold setP; split; rfl; exact h1
 | @step h m h1 k ih =>
  by_cases e : h = a
  ·subst e
   refine ⟨[h], .root (setP_same _ _ _), ⟨m, rfl⟩, fun hn => absurd (.head _) hn, fun _ => rfl⟩
  ·obtain ⟨m', i1, i2, i3, i4⟩ := ih
   have e1 := setP_ne par (p := 0) e
   obtain ⟨q, hq⟩ := i1.head
   refine ⟨h :: m', .step (by rw [e1]; exact h1) (by rw [e1]; exact i1), (List.cons_prefix_cons).2 ⟨rfl, i2⟩, fun hn => ?_, fun hm => ?_⟩
   ·rw [i3 fun hm => hn (.tail _ hm)]
   ·have := i4 ((List.mem_cons.1 hm).resolve_left (Ne.symm e))
    subst hq
    simpa using this
theorem hang_chain {a p : Nat} {lp : List Nat} (hp : p ≠ 0) (hlp : Ch par p lp) (hap : a ∉ lp) {x : Nat} {m : List Nat} (hm : Ch par x m) (ha : par a = 0) :
  ∃ m', Ch (setP par a p) x m' ∧ (a ∉ m → m' = m) ∧ (a ∈ m → m' = m ++ lp) := by
 have hlp' : Ch (setP par a p) p lp := hlp.congr fun y hy => setP_ne par fun e => hap (e ▸ hy)
 induction hm with
 | @root h h1 =>
  by_cases e : h = a
  ·subst e
   exact ⟨h :: lp, .step (by rw [setP_same]; exact hp) (by rw [setP_same]; exact hlp'), fun hn => absurd (.head _) hn, fun _ => rfl⟩
  ·exact ⟨[h], .root (by rw [setP_ne _ e]; exact h1), fun _ => rfl, fun h => by simp at h; exact absurd h.symm e⟩
 | @step h m h1 k ih =>
  have e : h ≠ a := fun e => h1 (e ▸ ha)
  obtain ⟨m', i1, i2, i3⟩ := ih
  have e1 := setP_ne par (p := p) e
  refine ⟨h :: m', .step (by rw [e1]; exact h1) (by rw [e1]; exact i1), fun hn => ?_, fun hm => ?_⟩
  ·rw [i2 fun hm => hn (.tail _ hm)]
  ·rw [i3 ((List.mem_cons.1 hm).resolve_left (Ne.symm e))]; rfl
end Go.Li
namespace Go.Li
open Go Go.Hp
set_option linter.unusedVariables false
set_option linter.unusedSimpArgs false

def Lk (par : Par) : List Nat → Prop
 | x :: y :: r => par y = x ∧ x ≠ 0 ∧ Lk par (y :: r)
 | _ => True
theorem Lk.tail {par : Par} {x : Nat} {r : List Nat} (h : Lk par (x :: r)) : Lk par r := by
 cases r with
 | nil => trivial
 | cons y r => exact h.2.2
theorem Lk.right {par : Par} : ∀ {p q : List Nat}, Lk par (p ++ q) → Lk par q
 | [], _, h => h
 | x :: p, q, h => Lk.right (p := p) h.tail
theorem Lk.left {par : Par} : ∀ {p q : List Nat}, Lk par (p ++ q) → Lk par p
 | [], _, _ => trivial
 | [x], _, _ => trivial
 | x :: y :: p, q, h => ⟨h.1, h.2.1, Lk.left (p := y :: p) h.2.2⟩
theorem Lk.mid {par : Par} : ∀ {p q : List Nat} {x y : Nat}, Lk par (p ++ x :: y :: q) → par y = x
 | [], _, _, _, h => h.1
 | _ :: p, q, x, y, h => Lk.mid (p := p) (q := q) h.tail
theorem Lk.join {par : Par} : ∀ {p q : List Nat} {x y : Nat}, Lk par (p ++ [x]) → Lk par (y :: q) → par y = x → x ≠ 0 → Lk par (p ++ x :: y :: q)
 | [], _, _, _, _, h, e, h0 => ⟨e, h0, h⟩
 | [z], _, _, _, k, h, e, h0 => ⟨k.1, k.2.1, e, h0, h⟩
 | z :: w :: p, q, x, y, k, h, e, h0 => ⟨k.1, k.2.1, Lk.join (p := w :: p) (q := q) k.2.2 h e h0⟩
theorem Lk.congr {par par' : Par} : ∀ {l : List Nat}, Lk par l → (∀ x ∈ l, par' x = par x) → Lk par' l
 | [], _, _ => trivial
 | [x], _, _ => trivial
 | x :: y :: r, h, hp => ⟨by rw [hp y (by simp)]; exact h.1, h.2.1, h.2.2.congr fun z hz => hp z (.tail _ hz)⟩
theorem Lk.chain {par : Par} : ∀ {r : List Nat} {x : Nat} {l : List Nat}, Lk par (x :: r) → Ch par x l → ∀ y ∈ x :: r, ∃ m, Ch par y m ∧ l.length ≤ m.length
 | [], x, l, _, hl, y, hy => by
  obtain rfl : y = x := by simpa using hy
  exact ⟨l, hl, Nat.le_refl _⟩
 | z :: r, x, l, h, hl, y, hy => by
  rcases List.mem_cons.1 hy with rfl | hy
  ·exact ⟨l, hl, Nat.le_refl _⟩
  ·have h1 : Ch par z (z :: l) := .step (by rw [h.1]; exact h.2.1) (by rw [h.1]; exact hl)
   obtain ⟨m, h2, h3⟩ := Lk.chain h.2.2 h1 y hy
   exact ⟨m, h2, by simp at h3; omega⟩
theorem Lk.ch {par : Par} : ∀ {l : List Nat} {h : Nat}, Lk par (l.reverse ++ [h]) → par ((l.reverse ++ [h]).headD 0) = 0 → Ch par h (h :: l)
 | [], h, _, h0 => .root h0
 | x :: l, h, hk, h0 => by
  have e : (x :: l).reverse ++ [h] = l.reverse ++ x :: h :: [] := by simp
  rw [e] at hk h0
  have h1 := hk.mid
  have hx : x ≠ 0 := by
   have := hk.right
   exact this.2.1
  refine .step (by rw [h1]; exact hx) ?_
  rw [h1]
  have e2 : l.reverse ++ x :: h :: [] = (l.reverse ++ [x]) ++ [h] := by simp
  rw [e2] at hk h0
  refine Lk.ch hk.left ?_
  cases hl : l.reverse with
  | nil => rw [hl] at h0; exact h0
  | cons a b => rw [hl] at h0; exact h0
theorem TrAt.kids {N : Nodes} {E : Es} : ∀ {t : Tr} {rev : Bool} {up x : Nat}, TrAt N E rev up t → x ∈ t.list → ∀ s, (N x).kid s = 0 ∨ (N x).kid s ∈ t.list
 | .nil, _, _, _, _, hx, _ => by simp [Tr.list] at hx
 | .node l h r, rev, up, x, ⟨a, b, c, d, e, f, g⟩, hx, s => by
  simp only [Tr.list, List.mem_append, List.mem_cons] at hx ⊢
  have rm : ∀ t : Tr, t.root = 0 ∨ t.root ∈ t.list := fun t => by
   by_cases h0 : t.root = 0
   ·exact .inl h0
   ·exact .inr (Tr.root_mem h0)
  rcases hx with hx | rfl | hx
  ·exact (f.kids hx s).imp id .inl
  ·by_cases hs : s = rev
   ·subst hs
    rw [c]
    exact (rm l).imp id .inl
   ·have : s = !rev := by cases s <;> cases rev <;> simp_all
    rw [this, d]
    exact (rm r).imp id fun h => .inr (.inr h)
  ·exact (g.kids hx s).imp id fun h => .inr (.inr h)
theorem Tr.nil_of {t : Tr} (h : t.list = []) : t = .nil := by
 cases t with
 | nil => rfl
 | node l x r => simp [Tr.list] at h
def opt (l : List Nat) : List (List Nat) := if l = [] then [] else [l]
theorem opt_flat (l : List Nat) : (opt l).flatten = l := by
 unfold opt; split
 ·rename_i h; rw [h]; rfl
 ·simp
theorem mem_opt {l xs : List Nat} : xs ∈ opt l ↔ xs = l ∧ l ≠ [] := by
 unfold opt; split
 ·rename_i h; simp [h]
 ·rename_i h; simp [h]
structure LC (N : Nodes) (E : Es) (par : Par) (rows : List (List Nat)) (V : Nat → Prop) : Prop where
 eok : EOk N E
 z : (N 0).best = 0
 v0 : ¬ V 0
 trees : ∀ xs ∈ rows, ∃ T, TrAt N E false (par (xs.headD 0)) T ∧ T.list = xs
 link : ∀ xs ∈ rows, Lk par xs
 ne : ∀ xs ∈ rows, xs ≠ []
 nd : rows.flatten.Nodup
 use : ∀ h, h ∈ rows.flatten ↔ V h
 cl : ∀ h, V h → par h = 0 ∨ V (par h)
 ac : ∀ h, V h → ∃ l, Ch par h l
section
variable {N N' : Nodes} {E : Es} {par : Par} {rows rows' R : List (List Nat)} {V : Nat → Prop} {xs : List Nat}
theorem flat_perm {r r' : List (List Nat)} (h : r.Perm r') : r.flatten.Perm r'.flatten := h.flatten
theorem LC.perm (h : LC N E par rows V) (hp : rows.Perm rows') : LC N E par rows' V :=
 ⟨h.eok, h.z, h.v0, fun xs hx => h.trees xs (hp.mem_iff.2 hx), fun xs hx => h.link xs (hp.mem_iff.2 hx), fun xs hx => h.ne xs (hp.mem_iff.2 hx), (flat_perm hp).nodup_iff.1 h.nd, fun k => by rw [← (flat_perm hp).mem_iff]; exact h.use k, h.cl, h.ac⟩
theorem LC.find (h : LC N E par rows V) {k : Nat} (hk : V k) : ∃ xs R, rows.Perm (xs :: R) ∧ k ∈ xs := by
 obtain ⟨xs, hx, hkx⟩ := List.mem_flatten.1 ((h.use k).2 hk)
 obtain ⟨p, q, e⟩ := List.append_of_mem hx
 exact ⟨xs, p ++ q, by rw [e]; exact List.perm_middle, hkx⟩
theorem LC.apart (h : LC N E par (xs :: R) V) {i : Nat} (hi : i ∈ xs) : i ∉ R.flatten := fun hR => by
 have := h.nd
 rw [List.flatten_cons, List.nodup_append] at this
 exact this.2.2 i hi i hR rfl
theorem LC.live (h : LC N E par (xs :: R) V) {i : Nat} (hi : i ∈ xs) : V i := (h.use i).1 (by rw [List.flatten_cons]; exact List.mem_append_left _ hi)
theorem LC.head_ch (h : LC N E par (xs :: R) V) : ∃ a r l, xs = a :: r ∧ Ch par a l := by
 cases hx : xs with
 | nil => exact absurd hx (h.ne xs (.head _))
 | cons a r =>
  obtain ⟨l, hl⟩ := h.ac a (h.live (by rw [hx]; exact .head _))
  exact ⟨a, r, l, rfl, hl⟩
theorem LC.row (h : LC N E par (xs :: R) V) : Row N E (par (xs.headD 0)) xs := by
 have hnd : xs.Nodup := by
  have := h.nd
  rw [List.flatten_cons, List.nodup_append] at this
  exact this.1
 obtain ⟨a, r, l, rfl, hl⟩ := h.head_ch
 have hup : par a ∉ a :: r := fun hm => by
  obtain ⟨m, hm1, hm2⟩ := (h.link _ (.head _)).chain hl _ hm
  cases hl with
  | root h0 => rw [h0] at hm; exact h.v0 (h.live hm)
  | step h0 k =>
   have := hm1.uniq k
   subst this
   simp at hm2
   omega
 refine ⟨hnd, h.z, hup, ?_⟩
 show par a = 0 ∨ _
 rcases h.cl a (h.live (.head _)) with h0 | hV
 ·exact .inl h0
 ·refine .inr fun i hi => ?_
  obtain ⟨ys, hy, hpy⟩ := List.mem_flatten.1 ((h.use _).2 hV)
  have hyR : ys ∈ R := by
   rcases List.mem_cons.1 hy with rfl | hy
   ·exact absurd hpy hup
   ·exact hy
  obtain ⟨T, hT, eT⟩ := h.trees ys hy
  have kk := fun s => hT.kids (x := par a) (by rw [eT]; exact hpy) s
  have hi0 : i ≠ 0 := fun e => h.v0 (e ▸ h.live hi)
  have no : ∀ s, (N (par a)).kid s ≠ i := fun s e => by
   rcases kk s with h1 | h1
   ·rw [e] at h1; exact hi0 h1
   ·rw [e, eT] at h1
    exact h.apart hi (List.mem_flatten.2 ⟨ys, hyR, h1⟩)
  unfold hasK
  have n1 := no false
  have n2 := no true
  have n1' : (N (par a)).l ≠ i := n1
  have n2' : (N (par a)).r ≠ i := n2
  simp [n1', n2']
theorem LC.off (h : LC N E par (xs :: R) V) {T : Tr} (hT : TrAt N' E false (par (xs.headD 0)) T) (hl : T.list = xs) (ho : ∀ i, i ∉ xs → N' i = N i) (hE : EOk N' E) : LC N' E par (xs :: R) V where
 eok := hE
 z := by rw [ho 0 fun h0 => h.v0 (h.live h0)]; exact h.z
 v0 := h.v0
 trees := fun ys hy => by
  rcases List.mem_cons.1 hy with rfl | hy
  ·exact ⟨T, hT, hl⟩
  ·obtain ⟨T2, h2, e2⟩ := h.trees ys (.tail _ hy)
   refine ⟨T2, h2.congr fun i hi => ho i fun hx => h.apart hx (List.mem_flatten.2 ⟨ys, hy, by rw [← e2]; exact hi⟩), e2⟩
 link := h.link
 ne := h.ne
 nd := h.nd
 use := h.use
 cl := h.cl
 ac := h.ac
theorem LC.cut {a b T : Tr} {x : Nat} {R' : List (List Nat)} (h : LC N E par (xs :: (opt T.list ++ R')) V) (hT : TrAt N E false (par (xs.headD 0)) (.node a x b)) (hl : a.list ++ x :: b.list = xs) (ht : (N x).turned = false)
  (hT2 : TrAt N E false x T) (hp : T ≠ .nil → par (T.list.headD 0) = x) :
  LC (pullN (upd N x { N x with r := T.root }) x) E par ((a.list ++ x :: T.list) :: (opt b.list ++ R')) V ∧ TrAt (pullN (upd N x { N x with r := T.root }) x) E false (par (xs.headD 0)) (.node a x T) ∧
   (∀ i, i ≠ x → pullN (upd N x { N x with r := T.root }) x i = N i) := by
 subst hl
 have hr := h.row
 obtain ⟨x0, xu, xl, xr, xb, ha, hb⟩ := hT
 rw [ht] at ha hb
 have hxl : (N x).l = a.root := xl
 have hapx := fun i hi => h.apart (i := i) hi
 have hnd := hr.nd
 rw [List.nodup_append, List.nodup_cons] at hnd
 obtain ⟨na, ⟨xb', nb⟩, nab⟩ := hnd
 have hTx : ∀ i ∈ T.list, i ∉ a.list ++ x :: b.list := fun i hi hx => hapx i hx (by rw [List.flatten_append, opt_flat]; exact List.mem_append_left _ hi)
 have hxT : x ∉ T.list := fun hm => hTx x hm (by simp)
 have hxa : x ∉ a.list := fun hm => nab x hm x (.head _) rfl
 have nT : T.list.Nodup := by
  have := h.nd
  rw [List.flatten_cons, List.flatten_append, opt_flat, List.nodup_append] at this
  have := this.2.1
  rw [List.nodup_append] at this
  exact this.1
 obtain ⟨M, hM⟩ : ∃ M, upd N x { N x with r := T.root } = M := ⟨_, rfl⟩
 have Mx : M x = { N x with r := T.root } := by rw [← hM, upd_same]
 have Mn : ∀ i, i ≠ x → M i = N i := fun i hi => by rw [← hM, upd_ne _ _ hi]
 have hE : EOk M E := h.eok.congr fun i => by
  by_cases e : i = x
  ·subst e; rw [Mx]; exact ⟨rfl, rfl⟩
  ·rw [Mn i e]; exact ⟨rfl, rfl⟩
 have hzM : (M 0).best = 0 := by rw [Mn 0 (Ne.symm x0)]; exact h.z
 have haM : TrAt M E false x a := ha.congr fun i hi => Mn i fun e => hxa (e ▸ hi)
 have hTM : TrAt M E false x T := hT2.congr fun i hi => Mn i fun e => hxT (e ▸ hi)
 have nd2 : (a.list ++ x :: T.list).Nodup := by
  rw [List.nodup_append, List.nodup_cons]
  refine ⟨na, ⟨hxT, nT⟩, fun i hi j hj => ?_⟩
  rcases List.mem_cons.1 hj with rfl | hj
  ·exact nab i hi j (.head _)
  ·rintro rfl; exact hTx i hj (List.mem_append_left _ hi)
 have z2 : 0 ∉ a.list ++ x :: T.list := by
  simp only [List.mem_append, List.mem_cons, not_or]
  exact ⟨ha.ne_zero, Ne.symm x0, hT2.ne_zero⟩
 obtain ⟨B, p1, b1⟩ := pull_best (N := M) (h := x) (xs := a.list) (ys := T.list) hE (by rw [Mx]; show Best E (M (N x).l).best _; rw [hxl]; exact haM.best hzM) (by rw [Mx]; exact hTM.best hzM) nd2 z2
 rw [hM, p1]
 have Px : upd M x { M x with best := B } x = { N x with r := T.root, best := B } := by rw [upd_same, Mx]
 have Pn : ∀ i, i ≠ x → upd M x { M x with best := B } i = N i := fun i hi => by rw [upd_ne _ _ hi, Mn i hi]
 have hT' : TrAt (upd M x { M x with best := B }) E false (par ((a.list ++ x :: b.list).headD 0)) (.node a x T) := by
  refine ⟨x0, by rw [Px]; exact xu, by rw [Px]; exact xl, by rw [Px]; rfl, by rw [Px]; exact b1, ?_, ?_⟩
  ·rw [Px]
   show TrAt _ E (false != (N x).turned) x a
   rw [ht]
   exact ha.congr fun i hi => Pn i fun e => hxa (e ▸ hi)
  ·rw [Px]
   show TrAt _ E (false != (N x).turned) x T
   rw [ht]
   exact hT2.congr fun i hi => Pn i fun e => hxT (e ▸ hi)
 have ehead : (a.list ++ x :: T.list).headD 0 = (a.list ++ x :: b.list).headD 0 := by cases a.list <;> rfl
 have hlk := h.link _ (.head _)
 refine ⟨⟨?_, ?_, h.v0, ?_, ?_, ?_, ?_, ?_, h.cl, h.ac⟩, hT', Pn⟩
 ·exact hE.congr fun i => (upd_other (N := M) (h := x) (r := { M x with best := B }) rfl rfl rfl i).2
 ·rw [Pn 0 (Ne.symm x0)]; exact h.z
 ·intro ys hy
  rcases List.mem_cons.1 hy with rfl | hy
  ·exact ⟨_, by rw [ehead]; exact hT', rfl⟩
  ·rcases List.mem_append.1 hy with hy | hy
   ·obtain ⟨rfl, hne⟩ := mem_opt.1 hy
    refine ⟨b, ?_, rfl⟩
    have hph : par (b.list.headD 0) = x := by
     cases hb' : b.list with
     | nil => exact absurd hb' hne
     | cons y q => rw [hb'] at hlk; exact hlk.mid
    rw [hph]
    exact hb.congr fun i hi => Pn i fun e => xb' (e ▸ hi)
   ·obtain ⟨T2, h2, e2⟩ := h.trees ys (.tail _ (List.mem_append_right _ hy))
    refine ⟨T2, h2.congr fun i hi => Pn i fun e => ?_, e2⟩
    have hxi : x ∈ ys := by rw [← e2, ← e]; exact hi
    exact hapx x (by simp) (by rw [List.flatten_append]; exact List.mem_append_right _ (List.mem_flatten.2 ⟨ys, hy, hxi⟩))
 ·intro ys hy
  rcases List.mem_cons.1 hy with rfl | hy
  ·have e1 : a.list ++ x :: b.list = (a.list ++ [x]) ++ b.list := by simp
   rw [e1] at hlk
   have h1 := hlk.left
   cases hT3 : T.list with
   | nil => exact h1
   | cons y q =>
    have hne : T ≠ .nil := fun e => by rw [e] at hT3; simp [Tr.list] at hT3
    have h2 := h.link T.list (.tail _ (List.mem_append_left _ (mem_opt.2 ⟨rfl, by rw [hT3]; simp⟩)))
    have h3 := hp hne
    rw [hT3] at h2 h3
    exact Lk.join h1 h2 h3 x0
  ·rcases List.mem_append.1 hy with hy | hy
   ·obtain ⟨rfl, hne⟩ := mem_opt.1 hy
    exact (hlk.right).tail
   ·exact h.link ys (.tail _ (List.mem_append_right _ hy))
 ·intro ys hy
  rcases List.mem_cons.1 hy with rfl | hy
  ·simp
  ·rcases List.mem_append.1 hy with hy | hy
   ·obtain ⟨rfl, hne⟩ := mem_opt.1 hy
    exact hne
   ·exact h.ne ys (.tail _ (List.mem_append_right _ hy))
 ·refine (List.Perm.nodup_iff ?_).1 h.nd
  simp only [List.flatten_cons, List.flatten_append, opt_flat, List.append_assoc, List.cons_append]
  refine List.Perm.append_left _ (List.Perm.cons _ ?_)
  rw [← List.append_assoc, ← List.append_assoc]
  exact List.perm_append_comm.append_right _
 ·intro k
  rw [← h.use k]
  simp only [List.flatten_cons, List.flatten_append, opt_flat, List.mem_append, List.mem_cons]
  constructor
  ·rintro ((h | h | h) | h | h) <;> simp [h]
  ·rintro ((h | h | h) | h | h) <;> simp [h]
end
end Go.Li
namespace Go.Li
open Go Go.Hp
set_option linter.unusedVariables false
set_option linter.unusedSimpArgs false

structure Acc (N : Nodes) (E : Es) (par : Par) (rows : List (List Nat)) (V : Nat → Prop) (h : Nat) (a : Tr) (R : List (List Nat)) : Prop where
 lc : LC N E par ((a.list ++ [h]) :: R) V
 perm : rows.Perm ((a.list ++ [h]) :: R)
 tree : TrAt N E false 0 (.node a h .nil)
 flag : (N h).turned = false
 top : par ((a.list ++ [h]).headD 0) = 0
section
variable {N N' : Nodes} {E : Es} {par : Par} {rows R : List (List Nat)} {V : Nat → Prop} {h : Nat} {a : Tr}
theorem Acc.ch (k : Acc N E par rows V h a R) : Ch par h (h :: a.list.reverse) := by
 have h1 := k.lc.link _ (.head _)
 have h2 := k.top
 have e : a.list = a.list.reverse.reverse := by simp
 rw [e] at h1 h2
 exact h1.ch h2
theorem ev_lk : ∀ {l p : List Nat} {prev : Nat}, (p ++ l).Nodup → 0 ∉ l → Lk (ev par prev (p ++ l)) l
 | [], _, _, _, _ => trivial
 | [x], _, _, _, _ => trivial
 | x :: y :: r, p, prev, hd, h0 => by
  simp only [List.mem_cons, not_or] at h0
  refine ⟨ev_next hd, Ne.symm h0.1, ?_⟩
  have := ev_lk (l := y :: r) (p := p ++ [x]) (prev := prev) (by simpa using hd) (by simp only [List.mem_cons, not_or]; exact h0.2)
  simpa using this
theorem ev_mem : ∀ {l : List Nat} {prev i : Nat}, ev par prev l i = prev ∨ ev par prev l i ∈ l ∨ (i ∉ l ∧ ev par prev l i = par i)
 | [], _, _ => .inr (.inr ⟨by simp, rfl⟩)
 | x :: r, prev, i => by
  unfold ev
  by_cases e : i = x
  ·rw [if_pos e]; exact .inl rfl
  ·rw [if_neg e]
   rcases ev_mem (l := r) (prev := x) (i := i) with h | h | ⟨h1, h2⟩
   ·exact .inr (.inl (by rw [h]; exact .head _))
   ·exact .inr (.inl (.tail _ h))
   ·exact .inr (.inr ⟨by simp only [List.mem_cons, not_or]; exact ⟨e, h1⟩, h2⟩)
theorem Acc.evert (k : Acc N E par rows V h a R) : LC (pushN (upd N h (N h).flip) h) E (ev par 0 (h :: a.list.reverse)) ((h :: a.list.reverse) :: R) V := by
 have hr := k.lc.row
 have hch := k.ch
 have h0 : h ≠ 0 := k.tree.1
 have hnz := hch.nz h0
 have hnd := hch.nodup
 have hnT : (Tr.node a h .nil).list.Nodup := hr.nd
 have h1 : TrAt (upd N h (N h).flip) E true 0 (.node a h .nil) := k.tree.flip hnT (fun _ => upd_same _ _ _) (fun i _ hi => upd_ne _ _ hi)
 have h2 : TrAt (upd N h (N h).flip) E false 0 (.node .nil h a.mir) := h1.mir
 have el : (Tr.node .nil h a.mir).list = h :: a.list.reverse := by simp [Tr.list, Tr.mir_list]
 obtain ⟨p1, p2, p3⟩ := push_tr h2 (by rw [el]; exact hnd)
 rw [el] at p3
 have off : ∀ i, i ∉ h :: a.list.reverse → pushN (upd N h (N h).flip) h i = N i := fun i hi => by
  rw [p3 i hi]
  exact upd_ne _ _ fun e => hi (e ▸ .head _)
 have hap : ∀ i, i ∈ R.flatten → i ∉ h :: a.list.reverse := fun i hR hi => k.lc.apart (i := i) (by simp at hi ⊢; rcases hi with h | h <;> simp [h]) hR
 have live : ∀ i ∈ h :: a.list.reverse, V i := fun i hi => k.lc.live (by simp at hi ⊢; rcases hi with h | h <;> simp [h])
 refine ⟨?_, ?_, k.lc.v0, ?_, ?_, ?_, ?_, ?_, ?_, ?_⟩
 ·refine k.lc.eok.congr fun i => ?_
  obtain ⟨a1, a2, a3, a4⟩ := pushN_up (N := upd N h (N h).flip) (h := h) i
  obtain ⟨b1, b2⟩ : (upd N h (N h).flip i).isEdge = (N i).isEdge ∧ (upd N h (N h).flip i).e = (N i).e := by
   by_cases e : i = h
   ·subst e; rw [upd_same]; exact ⟨rfl, rfl⟩
   ·rw [upd_ne _ _ e]; exact ⟨rfl, rfl⟩
  exact ⟨a2.trans b1, a3.trans b2⟩
 ·rw [off 0 hnz]; exact k.lc.z
 ·intro ys hy
  rcases List.mem_cons.1 hy with rfl | hy
  ·refine ⟨_, ?_, el⟩
   show TrAt _ E false (ev par 0 (h :: a.list.reverse) h) _
   rw [ev_head]
   exact p1
  ·obtain ⟨T, hT, eT⟩ := k.lc.trees ys (.tail _ hy)
   have hne := k.lc.ne ys (.tail _ hy)
   have hh : ys.headD 0 ∈ R.flatten := by
    cases ys with
    | nil => exact absurd rfl hne
    | cons y r => exact List.mem_flatten.2 ⟨_, hy, .head _⟩
   refine ⟨T, ?_, eT⟩
   rw [ev_not_mem (hap _ hh)]
   exact hT.congr fun i hi => off i (hap i (List.mem_flatten.2 ⟨ys, hy, by rw [← eT]; exact hi⟩))
 ·intro ys hy
  rcases List.mem_cons.1 hy with rfl | hy
  ·exact ev_lk (p := []) hnd hnz
  ·exact (k.lc.link ys (.tail _ hy)).congr fun i hi => ev_not_mem (hap i (List.mem_flatten.2 ⟨ys, hy, hi⟩))
 ·intro ys hy
  rcases List.mem_cons.1 hy with rfl | hy
  ·simp
  ·exact k.lc.ne ys (.tail _ hy)
 ·refine (List.Perm.nodup_iff ?_).1 k.lc.nd
  rw [List.flatten_cons, List.flatten_cons]
  refine List.Perm.append_right _ ?_
  have : (h :: a.list.reverse) = (a.list ++ [h]).reverse := by simp
  rw [this]
  exact (List.reverse_perm _).symm
 ·intro i
  rw [← k.lc.use i]
  simp only [List.flatten_cons, List.mem_append, List.mem_cons, List.mem_reverse, List.not_mem_nil, or_false]
  constructor
  ·rintro ((h | h) | h) <;> simp [h]
  ·rintro ((h | h) | h) <;> simp [h]
 ·intro i hi
  rcases ev_mem (par := par) (l := h :: a.list.reverse) (prev := 0) (i := i) with e | e | ⟨_, e⟩
  ·exact .inl e
  ·exact .inr (live _ e)
  ·rw [e]; exact k.lc.cl i hi
 ·intro i hi
  obtain ⟨m, hm⟩ := k.lc.ac i hi
  exact ev_acyc hch h0 hm
theorem Acc.evert_tree (k : Acc N E par rows V h a R) : TrAt (pushN (upd N h (N h).flip) h) E false 0 (.node .nil h a.mir) ∧ (Tr.node .nil h a.mir).list = h :: a.list.reverse := by
 have hr := k.lc.row
 have hnT : (Tr.node a h .nil).list.Nodup := hr.nd
 have h1 : TrAt (upd N h (N h).flip) E true 0 (.node a h .nil) := k.tree.flip hnT (fun _ => upd_same _ _ _) (fun i _ hi => upd_ne _ _ hi)
 have h2 : TrAt (upd N h (N h).flip) E false 0 (.node .nil h a.mir) := h1.mir
 have el : (Tr.node .nil h a.mir).list = h :: a.list.reverse := by simp [Tr.list, Tr.mir_list]
 obtain ⟨p1, p2, p3⟩ := push_tr h2 (by rw [el]; exact k.ch.nodup)
 exact ⟨p1, el⟩
theorem Acc.part (k : Acc N E par rows V h a R) (ha : a.root ≠ 0) :
  LC (pullN (upd (upd N a.root { N a.root with up := 0 }) h { upd N a.root { N a.root with up := 0 } h with l := 0 }) h) E (setP par h 0) (a.list :: [h] :: R) V := by
 have hr := k.lc.row
 have hnd := hr.nd
 have h0 : h ≠ 0 := k.tree.1
 have hha : h ∉ a.list := by
  rw [List.nodup_append] at hnd
  exact fun hm => hnd.2.2 h hm h (.head _) rfl
 have nda : a.list.Nodup := by
  rw [List.nodup_append] at hnd
  exact hnd.1
 obtain ⟨_, ku, kl, kr, kb, kta, _⟩ := k.tree
 rw [k.flag] at kta
 have hra : a.root ∈ a.list := Tr.root_mem ha
 have hne : a.root ≠ h := fun e => hha (e ▸ hra)
 obtain ⟨M1, hM1⟩ : ∃ M1, upd N a.root { N a.root with up := 0 } = M1 := ⟨_, rfl⟩
 obtain ⟨M2, hM2⟩ : ∃ M2, upd M1 h { M1 h with l := 0 } = M2 := ⟨_, rfl⟩
 rw [hM1, hM2]
 have M1h : M1 h = N h := by rw [← hM1, upd_ne _ _ (Ne.symm hne)]
 have M2h : M2 h = { N h with l := 0 } := by rw [← hM2, upd_same, M1h]
 have M2r : M2 a.root = { N a.root with up := 0 } := by rw [← hM2, upd_ne _ _ hne, ← hM1, upd_same]
 have M2n : ∀ i, i ≠ h → i ≠ a.root → M2 i = N i := fun i h1 h2 => by rw [← hM2, upd_ne _ _ h1, ← hM1, upd_ne _ _ h2]
 have hE : EOk M2 E := k.lc.eok.congr fun i => by
  by_cases e : i = h
  ·subst e; rw [M2h]; exact ⟨rfl, rfl⟩
  ·by_cases e2 : i = a.root
   ·subst e2; rw [M2r]; exact ⟨rfl, rfl⟩
   ·rw [M2n i e e2]; exact ⟨rfl, rfl⟩
 have hzM : (M2 0).best = 0 := by rw [M2n 0 (Ne.symm h0) (Ne.symm ha)]; exact k.lc.z
 have kr' : (N h).r = 0 := kr
 obtain ⟨B, p1, b1⟩ := pull_best (N := M2) (h := h) (xs := []) (ys := []) hE (by rw [M2h]; show Best E (M2 0).best []; rw [hzM]; exact Best.nil E) (by rw [M2h]; show Best E (M2 (N h).r).best []; rw [kr', hzM]; exact Best.nil E) (by simp) (by simp; exact Ne.symm h0)
 rw [p1]
 have Ph : upd M2 h { M2 h with best := B } h = { N h with l := 0, best := B } := by rw [upd_same, M2h]
 have Pn : ∀ i, i ≠ h → upd M2 h { M2 h with best := B } i = M2 i := fun i hi => upd_ne _ _ hi
 have haM : TrAt M2 E false 0 a := kta.hung nda (fun _ => M2r) (fun i hi h2 => M2n i (fun e => hha (e ▸ hi)) h2)
 have hap : ∀ i, i ∈ R.flatten → i ≠ h ∧ i ≠ a.root := fun i hR => ⟨fun e => k.lc.apart (i := i) (by simp [e]) hR, fun e => k.lc.apart (i := i) (by rw [e]; exact List.mem_append_left _ hra) hR⟩
 have hda : par (a.list.headD 0) = 0 ∧ a.list.headD 0 ≠ h ∧ a.list ≠ [] := by
  have := k.top
  cases hl : a.list with
  | nil => rw [hl] at hra; cases hra
  | cons y r =>
   rw [hl] at this
   exact ⟨this, fun e => hha (by rw [hl, ← e]; exact .head _), by simp⟩
 have sp : ∀ i, i ≠ h → setP par h 0 i = par i := fun i hi => setP_ne _ hi
 refine ⟨?_, ?_, k.lc.v0, ?_, ?_, ?_, ?_, ?_, ?_, ?_⟩
 ·exact hE.congr fun i => (upd_other (N := M2) (h := h) (r := { M2 h with best := B }) rfl rfl rfl i).2
 ·rw [Pn 0 (Ne.symm h0)]; exact hzM
 ·intro ys hy
  rcases List.mem_cons.1 hy with rfl | hy
  ·refine ⟨a, ?_, rfl⟩
   rw [sp _ hda.2.1, hda.1]
   exact haM.congr fun i hi => Pn i fun e => hha (e ▸ hi)
  ·rcases List.mem_cons.1 hy with rfl | hy
   ·refine ⟨.node .nil h .nil, ?_, rfl⟩
    show TrAt _ E false (setP par h 0 h) _
    rw [setP_same]
    exact ⟨h0, by rw [Ph]; exact ku, by rw [Ph]; rfl, by rw [Ph]; exact kr, by rw [Ph]; exact b1, trivial, trivial⟩
   ·obtain ⟨T, hT, eT⟩ := k.lc.trees ys (.tail _ hy)
    have hne := k.lc.ne ys (.tail _ hy)
    have hh : ys.headD 0 ∈ R.flatten := by
     cases ys with
     | nil => exact absurd rfl hne
     | cons y r => exact List.mem_flatten.2 ⟨_, hy, .head _⟩
    refine ⟨T, ?_, eT⟩
    rw [sp _ (hap _ hh).1]
    refine hT.congr fun i hi => ?_
    have := hap i (List.mem_flatten.2 ⟨ys, hy, by rw [← eT]; exact hi⟩)
    rw [Pn i this.1, M2n i this.1 this.2]
 ·intro ys hy
  rcases List.mem_cons.1 hy with rfl | hy
  ·exact ((k.lc.link _ (.head _)).left).congr fun i hi => sp i fun e => hha (e ▸ hi)
  ·rcases List.mem_cons.1 hy with rfl | hy
   ·trivial
   ·exact (k.lc.link ys (.tail _ hy)).congr fun i hi => sp i (hap i (List.mem_flatten.2 ⟨ys, hy, hi⟩)).1
 ·intro ys hy
  rcases List.mem_cons.1 hy with rfl | hy
  ·exact hda.2.2
  ·rcases List.mem_cons.1 hy with rfl | hy
   ·simp
   ·exact k.lc.ne ys (.tail _ hy)
 ·have := k.lc.nd
  simpa using this
 ·intro i
  rw [← k.lc.use i]
  simp only [List.flatten_cons, List.mem_append, List.mem_cons, List.not_mem_nil, or_false, or_assoc]
 ·intro i hi
  by_cases e : i = h
  ·exact .inl (by rw [e, setP_same])
  ·rw [sp i e]; exact k.lc.cl i hi
 ·intro i hi
  obtain ⟨m, hm⟩ := k.lc.ac i hi
  obtain ⟨m', h1, _⟩ := cut_chain (a := h) hm
  exact ⟨m', h1⟩
theorem plug_left : ∀ (ps : List Fm) (t : Tr), (∀ f ∈ ps, f.side = false) → ∃ q, (plug t ps).list = t.list ++ q
 | [], t, _ => ⟨[], by simp [plug]⟩
 | f :: ps, t, h => by
  obtain ⟨q, e⟩ := plug_left ps (sn f.side t f.h f.sib) fun g hg => h g (.tail _ hg)
  refine ⟨f.h :: f.sib.list ++ q, ?_⟩
  show (plug (sn f.side t f.h f.sib) ps).list = _
  rw [e, sn_list, h f (.head _)]
  simp [sl]
theorem push_plug {up0 x : Nat} {a b : Tr} {ps : List Fm} (hT : TrAt N E false up0 (plug (.node a x b) ps)) (hf : ∀ f ∈ ps, (N f.h).turned = false) (hd : (plug (.node a x b) ps).list.Nodup) :
  TrAt (pushN N x) E false up0 (plug (.node a x b) ps) ∧ (pushN N x x).turned = false ∧ (∀ f ∈ ps, (pushN N x f.h).turned = false) ∧ (∀ i, i ∉ (plug (.node a x b) ps).list → pushN N x i = N i) := by
 have hp := plug_perm ps (.node a x b)
 have hd1 := hp.nodup_iff.1 hd
 rw [List.nodup_append] at hd1
 obtain ⟨hK, hP⟩ := (trAt_plug _ _).1 ⟨hT, hf⟩
 obtain ⟨p1, p2, p3⟩ := push_tr hK hd1.1
 have hc : ∀ i ∈ ctx ps, pushN N x i = N i := fun i hi => p3 i fun hm => hd1.2.2 i hm i hi rfl
 have hfc : ∀ f ∈ ps, f.h ∈ ctx ps := by
  intro f
  clear hT hf hd hp hd1 hK hP p1 p2 p3 hc
  induction ps with
  | nil => intro h; cases h
  | cons g ps ih =>
   intro h
   rcases List.mem_cons.1 h with rfl | h
   ·simp [ctx]
   ·simp [ctx, ih h]
 obtain ⟨h1, h2⟩ := (trAt_plug (N := pushN N x) (E := E) (up0 := up0) ps (.node a x b)).2 ⟨p1, hP.congr hc⟩
 refine ⟨h1, p2, h2, fun i hi => p3 i fun hm => hi (hp.mem_iff.2 (List.mem_append_left _ hm))⟩
theorem root_nil {t : Tr} {rev : Bool} {up : Nat} (hT : TrAt N E rev up t) (h0 : t.root = 0) : t = .nil := by
 cases t with
 | nil => rfl
 | node l k r => exact absurd h0 hT.1
end
end Go.Li
namespace Go.Proofs.Ytafehbegoanajaa
open Go Go.Hp Go.Li
set_option linter.all false
set_option maxRecDepth 100000
set_option maxHeartbeats 1600000
section
variable {H H' : Heap} {t g c len : Nat} {N : Nodes} {E : Es} {par : Par} {rows R : List (List Nat)} {V : Nat → Prop} {xs : List Nat} {K : Value → Heap → Prop}
theorem len_bound {l : List Nat} {n : Nat} (hd : l.Nodup) (hl : ∀ x ∈ l, x < n) : l.length ≤ n := by
 have h := hd.length_le_of_subset (l₂ := List.range n) (fun x hx => List.mem_range.2 (hl x hx))
 rwa [List.length_range] at h
theorem splay_row {k : Nat} (hN : NA H t g c len N) (hL : LC N E par rows V) (hV : ∀ h, V h → h < len) (hp : rows.Perm (xs :: R)) (hk : k ∈ xs)
  (fin : ∀ H' N' a b, NA H' t g c len N' → LC N' E par (xs :: R) V → TrAt N' E false (par (xs.headD 0)) (.node a k b) → a.list ++ k :: b.list = xs → (N' k).turned = false → (∀ i, i ∉ xs → N' i = N i) → Fr (· = g) H H' → K (.tuple #[]) H') :
  CallsH Try.prog 71 #[.pointer (some ⟨t, 0, none⟩), .int .i64 (k : Nat)] H K := by
 have hL1 := hL.perm hp
 have hr := hL1.row
 obtain ⟨T, hT, eT⟩ := hL1.trees xs (.head _)
 obtain ⟨s1, s2, m, s3⟩ := splay_start hL1.eok hr hT eT hk
 have hlt : ∀ x ∈ xs, x < len := fun x hx => hV x (hL1.live hx)
 have hl := len_bound hr.nd hlt
 have hwl := wayT_len T k
 rw [eT] at hwl
 refine splay_ok (P := Below E N (par (xs.headD 0)) k xs) hN (hlt k hk) s1 (fun x hx => hlt x (s2 x hx)) (by have := hN.z.2; omega) s3 (below_step hr) ?_
 intro H' N' m' hN' hB ht hf
 obtain ⟨a, b, e1, e2, e3, e4, e5⟩ := splay_end hB ht
 exact fin H' N' a b hN' (hL1.off e1 e2 e4 e5) e1 e2 e3 e4 hf
theorem access_ok {h : Nat} (hN : NA H t g c len N) (hL : LC N E par rows V) (hV : ∀ h, V h → h < len) (hh : V h)
  (fin : ∀ H' N' a R, NA H' t g c len N' → Acc N' E par ((a.list ++ [h]) :: R) V h a R → Fr (· = g) H H' → K (.tuple #[]) H') :
  CallsH Try.prog 63 #[.pointer (some ⟨t, 0, none⟩), .int .i64 (h : Nat)] H K := by
 have h0 : h ≠ 0 := fun e => hL.v0 (e ▸ hh)
 obtain ⟨l0, hl0⟩ := hL.ac h hh
 refine call63 (by simp) ?_
 simp only [Try.f63, Option.getD_some]
 repeat' (first|(with_reducible first|refine jA ?_|(refine hK _ _ ?_;clear hK K)|refine jJ fun K hK=>?_|refine jK ?_|refine jL ?_|refine jM ?_|refine jN ?_|refine jO ?_|refine jP ?_|refine jQ ?_|(refine jB ?_;clear hK K)|(refine jC ?_;clear hK K)|refine jD ?_|refine jE ?_|refine jG ?_|refine jH ?_|refine jI ?_)|((with_reducible refine jR ?hq ?_);case hq=>rfl)|((first|(with_reducible first|refine jS fun K hK=>?_|refine jT ?_|refine jU ?_)|((with_reducible refine jV ?hy fun K hK=>?_);case hy=>rfl));simp only [go_sem, Nat.reduceEqDiff, Nat.reduceAdd, Nat.reduceMul, Nat.reduceLeDiff, Nat.reduceLT, Int.reduceLT, Int.reduceLE, Int.reduceEq, Int.reduceNeg, Int.reduceToNat, Nat.reducePow, reduceIte, reduceCtorEq])|((with_reducible first|refine jW ?hy ?_|refine jY ?hy ?_);case hy=>rfl)|((with_reducible first|refine jX ?hy ?_|refine jZ ?hy ?_);case hy=>rfl)|((with_reducible refine jF ?hy ?_);case hy=>decide))
 refine x_loop (fun m e' H' => ∃ N1 T x R1, NA H' t g c len N1 ∧ LC N1 E par (opt T.list ++ R1) V ∧ Fr (· = g) H H' ∧ e' 5 = .int .i64 (x : Nat) ∧ e' 4 = .int .i64 (T.root : Nat) ∧ TrAt N1 E false x T ∧
   (T = .nil → x = h) ∧ (T ≠ .nil → T.list.getLast? = some h ∧ par (T.list.headD 0) = x) ∧ ((x = 0 ∧ m = 0) ∨ (V x ∧ ∃ l, Ch par x l ∧ l.length = m))) l0.length
  ⟨N, Tr.nil, h, rows, hN, by simpa [opt, Tr.list] using hL, .refl _ _, rfl, rfl, trivial, fun _ => rfl, fun e => absurd rfl e, .inr ⟨hh, l0, hl0, rfl⟩⟩ ?_
 rintro m e1 H1 ⟨N1, T, x, R1, hN1, hL1, hf1, i5, i4, hT, hT0, hT1, hx⟩ hoff
 have i0 : e1 0 = .pointer (some ⟨t, 0, none⟩) := (hoff 0 rfl).trans rfl
 have i1 : e1 1 = .int .i64 (h : Nat) := (hoff 1 rfl).trans rfl
 clear hoff
 rcases hx with ⟨rfl, rfl⟩ | ⟨hVx, l, hl, rfl⟩
 ·have hTn : T ≠ .nil := fun e => h0 (hT0 e).symm
  obtain ⟨hlast, hhead⟩ := hT1 hTn
  have eo : opt T.list = [T.list] := by
   unfold opt
   rw [if_neg]
   intro e
   rw [e] at hlast; cases hlast
  rw [eo] at hL1
  repeat' (first|(with_reducible first|refine jA ?_|(refine hK _ _ ?_;clear hK K)|refine jJ fun K hK=>?_|refine jK ?_|refine jL ?_|refine jM ?_|refine jN ?_|refine jO ?_|refine jP ?_|refine jQ ?_|(refine jB ?_;clear hK K)|(refine jC ?_;clear hK K)|refine jD ?_|refine jE ?_|refine jG ?_|refine jH ?_|refine jI ?_)|((with_reducible refine jR ?hq ?_);case hq=>rfl)|((first|(with_reducible first|refine jS fun K hK=>?_|refine jT ?_|refine jU ?_)|((with_reducible refine jV ?hy fun K hK=>?_);case hy=>rfl));simp only [go_sem, Nat.reduceEqDiff, Nat.reduceAdd, Nat.reduceMul, Nat.reduceLeDiff, Nat.reduceLT, Int.reduceLT, Int.reduceLE, Int.reduceEq, Int.reduceNeg, Int.reduceToNat, Nat.reducePow, reduceIte, reduceCtorEq, i0, i1, i5])|((with_reducible first|refine jW ?hy ?_|refine jY ?hy ?_);case hy=>rfl)|((with_reducible first|refine jX ?hy ?_|refine jZ ?hy ?_);case hy=>rfl)|((with_reducible refine jF ?hy ?_);case hy=>decide))
  refine splay_row hN1 hL1 hV (List.Perm.refl _) (List.mem_of_getLast? hlast) ?_
  intro H2 N2 a b hN2 hL2 hT2 e2 hfl _ hf2
  have hb : b.list = [] := by
   have hnd := hL2.row.nd
   rw [← e2] at hlast hnd
   rcases List.eq_nil_or_concat b.list with hb | ⟨b', z, hb⟩
   ·exact hb
   ·rw [hb] at hlast hnd
    have : (a.list ++ h :: b'.concat z).getLast? = some z := by
     rw [show a.list ++ h :: b'.concat z = (a.list ++ h :: b') ++ [z] from by simp, List.getLast?_append]; rfl
    rw [this] at hlast
    obtain rfl := Option.some.inj hlast
    simp only [List.nodup_append, List.nodup_cons] at hnd
    exact absurd (by simp) hnd.2.1.1
  obtain rfl := Tr.nil_of hb
  have e3 : a.list ++ [h] = T.list := e2
  repeat' (first|(with_reducible first|refine jA ?_|(refine hK _ _ ?_;clear hK K)|refine jJ fun K hK=>?_|refine jK ?_|refine jL ?_|refine jM ?_|refine jN ?_|refine jO ?_|refine jP ?_|refine jQ ?_|(refine jB ?_;clear hK K)|(refine jC ?_;clear hK K)|refine jD ?_|refine jE ?_|refine jG ?_|refine jH ?_|refine jI ?_)|((with_reducible refine jR ?hq ?_);case hq=>rfl)|((first|(with_reducible first|refine jS fun K hK=>?_|refine jT ?_|refine jU ?_)|((with_reducible refine jV ?hy fun K hK=>?_);case hy=>rfl));simp only [go_sem, Nat.reduceEqDiff, Nat.reduceAdd, Nat.reduceMul, Nat.reduceLeDiff, Nat.reduceLT, Int.reduceLT, Int.reduceLE, Int.reduceEq, Int.reduceNeg, Int.reduceToNat, Nat.reducePow, reduceIte, reduceCtorEq])|((with_reducible first|refine jW ?hy ?_|refine jY ?hy ?_);case hy=>rfl)|((with_reducible first|refine jX ?hy ?_|refine jZ ?hy ?_);case hy=>rfl)|((with_reducible refine jF ?hy ?_);case hy=>decide))
  refine fin _ N2 a R1 hN2 ⟨by rw [e3]; exact hL2, List.Perm.refl _, ?_, hfl, by rw [e3]; exact hhead⟩ (hf1.trans hf2)
  rw [hhead] at hT2
  exact hT2
 ·have hx0 : x ≠ 0 := fun e => hL.v0 (e ▸ hVx)
  have hxl := hV x hVx
  have t1 : ((x : Int) != 0) = true := by simp [hx0]
  have hxT : x ∉ T.list := fun hm => by
   have hTn : T ≠ .nil := by rintro rfl; simp [Tr.list] at hm
   obtain ⟨_, hhead⟩ := hT1 hTn
   have eo : opt T.list = [T.list] := by
    unfold opt
    rw [if_neg]
    intro e
    rw [e] at hm; cases hm
   rw [eo] at hL1
   have := hL1.row.up
   rw [hhead] at this
   exact this hm
  obtain ⟨xs, R2, hp, hxs⟩ : ∃ xs R2, R1.Perm (xs :: R2) ∧ x ∈ xs := by
   have := (hL1.use x).2 hVx
   rw [List.flatten_append, opt_flat, List.mem_append] at this
   obtain ⟨xs, hx1, hx2⟩ := List.mem_flatten.1 (this.resolve_left hxT)
   obtain ⟨p, q, e⟩ := List.append_of_mem hx1
   exact ⟨xs, p ++ q, by rw [e]; exact List.perm_middle, hx2⟩
  have hp2 : (opt T.list ++ R1).Perm (xs :: (opt T.list ++ R2)) := (hp.append_left _).trans List.perm_middle
  repeat' (first|(with_reducible first|refine jA ?_|(refine hK _ _ ?_;clear hK K)|refine jJ fun K hK=>?_|refine jK ?_|refine jL ?_|refine jM ?_|refine jN ?_|refine jO ?_|refine jP ?_|refine jQ ?_|(refine jB ?_;clear hK K)|(refine jC ?_;clear hK K)|refine jD ?_|refine jE ?_|refine jG ?_|refine jH ?_|refine jI ?_)|((with_reducible refine jR ?hq ?_);case hq=>rfl)|((first|(with_reducible first|refine jS fun K hK=>?_|refine jT ?_|refine jU ?_)|((with_reducible refine jV ?hy fun K hK=>?_);case hy=>rfl));simp only [go_sem, Nat.reduceEqDiff, Nat.reduceAdd, Nat.reduceMul, Nat.reduceLeDiff, Nat.reduceLT, Int.reduceLT, Int.reduceLE, Int.reduceEq, Int.reduceNeg, Int.reduceToNat, Nat.reducePow, reduceIte, reduceCtorEq, i0, i5, t1])|((with_reducible first|refine jW ?hy ?_|refine jY ?hy ?_);case hy=>rfl)|((with_reducible first|refine jX ?hy ?_|refine jZ ?hy ?_);case hy=>rfl)|((with_reducible refine jF ?hy ?_);case hy=>decide))
  refine splay_row hN1 hL1 hV hp2 hxs ?_
  intro H2 N2 a b hN2 hL2 hT2 e2 hfl hoff2 hf2
  have hTN2 : TrAt N2 E false x T := hT.congr fun i hi => hoff2 i fun hx => hL2.apart hx (by rw [List.flatten_append, opt_flat]; exact List.mem_append_left _ hi)
  have hd2 := hN2.hd
  have w2 := hN2.okw hxl 2 (by omega)
  have hTl : T.root < len := by
   by_cases hz : T.root = 0
   ·rw [hz]; exact hN.z.1
   ·refine hV _ ((hL1.use _).1 ?_)
    rw [List.flatten_append, opt_flat]
    exact List.mem_append_left _ (Tr.root_mem hz)
  have hN3 := setR hN2 hxl hTl
  obtain ⟨c1, c2, c3⟩ := hL2.cut hT2 e2 hfl hTN2 (fun hne => (hT1 hne).2)
  have hf3 := hset_fr H2 g (x * 10 + 2) (.int .i64 (T.root : Nat))
  repeat' (first|(with_reducible first|refine jA ?_|(refine hK _ _ ?_;clear hK K)|refine jJ fun K hK=>?_|refine jK ?_|refine jL ?_|refine jM ?_|refine jN ?_|refine jO ?_|refine jP ?_|refine jQ ?_|(refine jB ?_;clear hK K)|(refine jC ?_;clear hK K)|refine jD ?_|refine jE ?_|refine jG ?_|refine jH ?_|refine jI ?_)|((with_reducible refine jR ?hq ?_);case hq=>rfl)|((first|(with_reducible first|refine jS fun K hK=>?_|refine jT ?_|refine jU ?_)|((with_reducible refine jV ?hy fun K hK=>?_);case hy=>rfl));simp only [go_sem, Nat.reduceEqDiff, Nat.reduceAdd, Nat.reduceMul, Nat.reduceLeDiff, Nat.reduceLT, Int.reduceLT, Int.reduceLE, Int.reduceEq, Int.reduceNeg, Int.reduceToNat, Nat.reducePow, reduceIte, reduceCtorEq, i0, i5, i4, hd2, hxl, w2])|((with_reducible first|refine jW ?hy ?_|refine jY ?hy ?_);case hy=>rfl)|((with_reducible first|refine jX ?hy ?_|refine jZ ?hy ?_);case hy=>rfl)|((with_reducible refine jF ?hy ?_);case hy=>decide))
  refine pull_ok hN3 hxl fun H4 hN4 hf4 => ?_
  have hd4 := hN4.hd
  have u4 := hN4.cell0 hxl
  have eu := c2.2.1
  rw [eu] at u4
  repeat' (first|(with_reducible first|refine jA ?_|(refine hK _ _ ?_;clear hK K)|refine jJ fun K hK=>?_|refine jK ?_|refine jL ?_|refine jM ?_|refine jN ?_|refine jO ?_|refine jP ?_|refine jQ ?_|(refine jB ?_;clear hK K)|(refine jC ?_;clear hK K)|refine jD ?_|refine jE ?_|refine jG ?_|refine jH ?_|refine jI ?_)|((with_reducible refine jR ?hq ?_);case hq=>rfl)|((first|(with_reducible first|refine jS fun K hK=>?_|refine jT ?_|refine jU ?_)|((with_reducible refine jV ?hy fun K hK=>?_);case hy=>rfl));simp only [go_sem, Nat.reduceEqDiff, Nat.reduceAdd, Nat.reduceMul, Nat.reduceLeDiff, Nat.reduceLT, Int.reduceLT, Int.reduceLE, Int.reduceEq, Int.reduceNeg, Int.reduceToNat, Nat.reducePow, reduceIte, reduceCtorEq, i0, i5, hd4, hxl, u4])|((with_reducible first|refine jW ?hy ?_|refine jY ?hy ?_);case hy=>rfl)|((with_reducible first|refine jX ?hy ?_|refine jZ ?hy ?_);case hy=>rfl)|((with_reducible refine jF ?hy ?_);case hy=>decide))
  have ehead : (a.list ++ x :: T.list).headD 0 = xs.headD 0 := by rw [← e2]; cases a.list <;> rfl
  have elast : (a.list ++ x :: T.list).getLast? = some h := by
   by_cases hTn : T = .nil
   ·rw [hTn]; rw [hT0 hTn]; simp [Tr.list]
   ·have := (hT1 hTn).1
    rw [List.getLast?_append, List.getLast?_cons, this]
    simp
  have hm : ∃ m', m' < l.length ∧ ((par (xs.headD 0) = 0 ∧ m' = 0) ∨ (V (par (xs.headD 0)) ∧ ∃ l', Ch par (par (xs.headD 0)) l' ∧ l'.length = m')) := by
   obtain ⟨y, r, ly, ey, hy⟩ := hL2.head_ch
   subst ey
   obtain ⟨m1, h1, h2⟩ := (hL2.link _ (.head _)).chain hy x hxs
   obtain rfl := h1.uniq hl
   show ∃ m', m' < m1.length ∧ ((par y = 0 ∧ m' = 0) ∨ (V (par y) ∧ _))
   cases hy with
   | root h => exact ⟨0, by simp at h2; omega, .inl ⟨h, rfl⟩⟩
   | @step _ l' h k => exact ⟨l'.length, by simp at h2; omega, .inr ⟨(hL2.cl y (hL2.live (.head _))).resolve_left h, l', k, rfl⟩⟩
  obtain ⟨m', hm1, hm2⟩ := hm
  refine loop_normal hm1 ⟨_, .node a x T, par (xs.headD 0), opt b.list ++ R2, hN4, ?_, ((hf1.trans hf2).trans hf3).trans hf4, rfl, rfl, c2, fun e => (by cases e), fun _ => ⟨elast, by rw [show (Tr.node a x T).list = a.list ++ x :: T.list from rfl, ehead]⟩, hm2⟩
  have eo : opt (Tr.node a x T).list = [a.list ++ x :: T.list] := by
   unfold opt
   rw [if_neg (by simp [Tr.list])]
   rfl
  rw [eo]
  exact c1
end
section
variable {H H' : Heap} {t g c len : Nat} {N : Nodes} {E : Es} {par : Par} {rows R : List (List Nat)} {V : Nat → Prop} {xs : List Nat} {K : Value → Heap → Prop}
theorem evert_ok {h : Nat} {l : List Nat} (hN : NA H t g c len N) (hL : LC N E par rows V) (hV : ∀ h, V h → h < len) (hh : V h) (hl : Ch par h l)
  (fin : ∀ H' N' R b, NA H' t g c len N' → LC N' E (ev par 0 l) (l :: R) V → TrAt N' E false 0 (.node .nil h b) → (Tr.node .nil h b).list = l → Fr (· = g) H H' → K (.tuple #[]) H') :
  CallsH Try.prog 62 #[.pointer (some ⟨t, 0, none⟩), .int .i64 (h : Nat)] H K := by
 have hlt := hV h hh
 refine call62 (by simp) ?_
 simp only [Try.f62, Option.getD_some]
 repeat' (first|(with_reducible first|refine jA ?_|(refine hK _ _ ?_;clear hK K)|refine jJ fun K hK=>?_|refine jK ?_|refine jL ?_|refine jM ?_|refine jN ?_|refine jO ?_|refine jP ?_|refine jQ ?_|(refine jB ?_;clear hK K)|(refine jC ?_;clear hK K)|refine jD ?_|refine jE ?_|refine jG ?_|refine jH ?_|refine jI ?_)|((with_reducible refine jR ?hq ?_);case hq=>rfl)|((first|(with_reducible first|refine jS fun K hK=>?_|refine jT ?_|refine jU ?_)|((with_reducible refine jV ?hy fun K hK=>?_);case hy=>rfl));simp only [go_sem, Nat.reduceEqDiff, Nat.reduceAdd, Nat.reduceMul, Nat.reduceLeDiff, Nat.reduceLT, Int.reduceLT, Int.reduceLE, Int.reduceEq, Int.reduceNeg, Int.reduceToNat, Nat.reducePow, reduceIte, reduceCtorEq])|((with_reducible first|refine jW ?hy ?_|refine jY ?hy ?_);case hy=>rfl)|((with_reducible first|refine jX ?hy ?_|refine jZ ?hy ?_);case hy=>rfl)|((with_reducible refine jF ?hy ?_);case hy=>decide))
 refine access_ok hN hL hV hh fun H1 N1 a R hN1 hA hf1 => ?_
 have hd1 := hN1.hd
 obtain rfl := hl.uniq hA.ch
 repeat' (first|(with_reducible first|refine jA ?_|(refine hK _ _ ?_;clear hK K)|refine jJ fun K hK=>?_|refine jK ?_|refine jL ?_|refine jM ?_|refine jN ?_|refine jO ?_|refine jP ?_|refine jQ ?_|(refine jB ?_;clear hK K)|(refine jC ?_;clear hK K)|refine jD ?_|refine jE ?_|refine jG ?_|refine jH ?_|refine jI ?_)|((with_reducible refine jR ?hq ?_);case hq=>rfl)|((first|(with_reducible first|refine jS fun K hK=>?_|refine jT ?_|refine jU ?_)|((with_reducible refine jV ?hy fun K hK=>?_);case hy=>rfl));simp only [go_sem, Nat.reduceEqDiff, Nat.reduceAdd, Nat.reduceMul, Nat.reduceLeDiff, Nat.reduceLT, Int.reduceLT, Int.reduceLE, Int.reduceEq, Int.reduceNeg, Int.reduceToNat, Nat.reducePow, reduceIte, reduceCtorEq, hd1, hlt])|((with_reducible first|refine jW ?hy ?_|refine jY ?hy ?_);case hy=>rfl)|((with_reducible first|refine jX ?hy ?_|refine jZ ?hy ?_);case hy=>rfl)|((with_reducible refine jF ?hy ?_);case hy=>decide))
 refine turn_link hN1 hlt fun H2 hN2 hf2 => ?_
 repeat' (first|(with_reducible first|refine jA ?_|(refine hK _ _ ?_;clear hK K)|refine jJ fun K hK=>?_|refine jK ?_|refine jL ?_|refine jM ?_|refine jN ?_|refine jO ?_|refine jP ?_|refine jQ ?_|(refine jB ?_;clear hK K)|(refine jC ?_;clear hK K)|refine jD ?_|refine jE ?_|refine jG ?_|refine jH ?_|refine jI ?_)|((with_reducible refine jR ?hq ?_);case hq=>rfl)|((first|(with_reducible first|refine jS fun K hK=>?_|refine jT ?_|refine jU ?_)|((with_reducible refine jV ?hy fun K hK=>?_);case hy=>rfl));simp only [go_sem, Nat.reduceEqDiff, Nat.reduceAdd, Nat.reduceMul, Nat.reduceLeDiff, Nat.reduceLT, Int.reduceLT, Int.reduceLE, Int.reduceEq, Int.reduceNeg, Int.reduceToNat, Nat.reducePow, reduceIte, reduceCtorEq])|((with_reducible first|refine jW ?hy ?_|refine jY ?hy ?_);case hy=>rfl)|((with_reducible first|refine jX ?hy ?_|refine jZ ?hy ?_);case hy=>rfl)|((with_reducible refine jF ?hy ?_);case hy=>decide))
 refine push_ok hN2 hlt fun H3 hN3 hf3 => ?_
 repeat' (first|(with_reducible first|refine jA ?_|(refine hK _ _ ?_;clear hK K)|refine jJ fun K hK=>?_|refine jK ?_|refine jL ?_|refine jM ?_|refine jN ?_|refine jO ?_|refine jP ?_|refine jQ ?_|(refine jB ?_;clear hK K)|(refine jC ?_;clear hK K)|refine jD ?_|refine jE ?_|refine jG ?_|refine jH ?_|refine jI ?_)|((with_reducible refine jR ?hq ?_);case hq=>rfl)|((first|(with_reducible first|refine jS fun K hK=>?_|refine jT ?_|refine jU ?_)|((with_reducible refine jV ?hy fun K hK=>?_);case hy=>rfl));simp only [go_sem, Nat.reduceEqDiff, Nat.reduceAdd, Nat.reduceMul, Nat.reduceLeDiff, Nat.reduceLT, Int.reduceLT, Int.reduceLE, Int.reduceEq, Int.reduceNeg, Int.reduceToNat, Nat.reducePow, reduceIte, reduceCtorEq])|((with_reducible first|refine jW ?hy ?_|refine jY ?hy ?_);case hy=>rfl)|((with_reducible first|refine jX ?hy ?_|refine jZ ?hy ?_);case hy=>rfl)|((with_reducible refine jF ?hy ?_);case hy=>decide))
 exact fin _ _ _ _ hN3 hA.evert hA.evert_tree.1 hA.evert_tree.2 ((hf1.trans hf2).trans hf3)
theorem root_ok {h r : Nat} (hN : NA H t g c len N) (hL : LC N E par rows V) (hV : ∀ h, V h → h < len) (hh : V h) (hr : RootOf par h r)
  (fin : ∀ H' N' rows', NA H' t g c len N' → LC N' E par rows' V → Fr (· = g) H H' → K (.int .i64 (r : Nat)) H') :
  CallsH Try.prog 61 #[.pointer (some ⟨t, 0, none⟩), .int .i64 (h : Nat)] H K := by
 refine call61 (by simp) ?_
 simp only [Try.f61, Option.getD_some]
 repeat' (first|(with_reducible first|refine jA ?_|(refine hK _ _ ?_;clear hK K)|refine jJ fun K hK=>?_|refine jK ?_|refine jL ?_|refine jM ?_|refine jN ?_|refine jO ?_|refine jP ?_|refine jQ ?_|(refine jB ?_;clear hK K)|(refine jC ?_;clear hK K)|refine jD ?_|refine jE ?_|refine jG ?_|refine jH ?_|refine jI ?_)|((with_reducible refine jR ?hq ?_);case hq=>rfl)|((first|(with_reducible first|refine jS fun K hK=>?_|refine jT ?_|refine jU ?_)|((with_reducible refine jV ?hy fun K hK=>?_);case hy=>rfl));simp only [go_sem, Nat.reduceEqDiff, Nat.reduceAdd, Nat.reduceMul, Nat.reduceLeDiff, Nat.reduceLT, Int.reduceLT, Int.reduceLE, Int.reduceEq, Int.reduceNeg, Int.reduceToNat, Nat.reducePow, reduceIte, reduceCtorEq])|((with_reducible first|refine jW ?hy ?_|refine jY ?hy ?_);case hy=>rfl)|((with_reducible first|refine jX ?hy ?_|refine jZ ?hy ?_);case hy=>rfl)|((with_reducible refine jF ?hy ?_);case hy=>decide))
 refine access_ok hN hL hV hh fun H1 N1 a0 R hN1 hA hf1 => ?_
 have hrow := hA.lc.row
 have hhead : (a0.list ++ [h]).headD 0 = r := by
  refine RootOf.uniq ?_ hr
  refine ⟨_, hA.ch, ?_⟩
  cases hl : a0.list with
  | nil => simp
  | cons y q =>
   show (h :: (y :: q).reverse).getLast? = some y
   rw [List.reverse_cons, ← List.cons_append, List.getLast?_append]
   rfl
 repeat' (first|(with_reducible first|refine jA ?_|(refine hK _ _ ?_;clear hK K)|refine jJ fun K hK=>?_|refine jK ?_|refine jL ?_|refine jM ?_|refine jN ?_|refine jO ?_|refine jP ?_|refine jQ ?_|(refine jB ?_;clear hK K)|(refine jC ?_;clear hK K)|refine jD ?_|refine jE ?_|refine jG ?_|refine jH ?_|refine jI ?_)|((with_reducible refine jR ?hq ?_);case hq=>rfl)|((first|(with_reducible first|refine jS fun K hK=>?_|refine jT ?_|refine jU ?_)|((with_reducible refine jV ?hy fun K hK=>?_);case hy=>rfl));simp only [go_sem, Nat.reduceEqDiff, Nat.reduceAdd, Nat.reduceMul, Nat.reduceLeDiff, Nat.reduceLT, Int.reduceLT, Int.reduceLE, Int.reduceEq, Int.reduceNeg, Int.reduceToNat, Nat.reducePow, reduceIte, reduceCtorEq])|((with_reducible first|refine jW ?hy ?_|refine jY ?hy ?_);case hy=>rfl)|((with_reducible first|refine jX ?hy ?_|refine jZ ?hy ?_);case hy=>rfl)|((with_reducible refine jF ?hy ?_);case hy=>decide))
 refine x_loop (fun m e' H' => ∃ N2 a x b ps, NA H' t g c len N2 ∧ LC N2 E par ((a0.list ++ [h]) :: R) V ∧ Fr (· = g) H H' ∧ e' 1 = .int .i64 (x : Nat) ∧ TrAt N2 E false 0 (plug (.node a x b) ps) ∧ (plug (.node a x b) ps).list = a0.list ++ [h] ∧
   (∀ f ∈ ps, (N2 f.h).turned = false) ∧ (∀ f ∈ ps, f.side = false) ∧ m = a.list.length) a0.list.length ⟨N1, a0, h, Tr.nil, [], hN1, hA.lc, hf1, rfl, hA.tree, rfl, by simp, by simp, rfl⟩ ?_
 rintro m e1 H2 ⟨N2, a, x, b, ps, hN2, hL2, hf2, i1, hT, hl, hfl, hsd, rfl⟩ hoff
 have i0 : e1 0 = .pointer (some ⟨t, 0, none⟩) := (hoff 0 rfl).trans rfl
 clear hoff
 have hxm : x ∈ a0.list ++ [h] := by rw [← hl]; exact (plug_perm ps _).mem_iff.2 (by simp [Tr.list])
 have hx := hV x (hL2.live hxm)
 obtain ⟨p1, p2, p3, p4⟩ := push_plug hT hfl (by rw [hl]; exact hrow.nd)
 have hL3 : LC (pushN N2 x) E par ((a0.list ++ [h]) :: R) V := by
  refine hL2.off (T := plug (.node a x b) ps) (by rw [hA.top]; exact p1) hl (fun i hi => p4 i (by rw [hl]; exact hi)) (hL2.eok.congr fun i => ⟨(pushN_up i).2.1, (pushN_up i).2.2.1⟩)
 repeat' (first|(with_reducible first|refine jA ?_|(refine hK _ _ ?_;clear hK K)|refine jJ fun K hK=>?_|refine jK ?_|refine jL ?_|refine jM ?_|refine jN ?_|refine jO ?_|refine jP ?_|refine jQ ?_|(refine jB ?_;clear hK K)|(refine jC ?_;clear hK K)|refine jD ?_|refine jE ?_|refine jG ?_|refine jH ?_|refine jI ?_)|((with_reducible refine jR ?hq ?_);case hq=>rfl)|((first|(with_reducible first|refine jS fun K hK=>?_|refine jT ?_|refine jU ?_)|((with_reducible refine jV ?hy fun K hK=>?_);case hy=>rfl));simp only [go_sem, Nat.reduceEqDiff, Nat.reduceAdd, Nat.reduceMul, Nat.reduceLeDiff, Nat.reduceLT, Int.reduceLT, Int.reduceLE, Int.reduceEq, Int.reduceNeg, Int.reduceToNat, Nat.reducePow, reduceIte, reduceCtorEq, i0, i1])|((with_reducible first|refine jW ?hy ?_|refine jY ?hy ?_);case hy=>rfl)|((with_reducible first|refine jX ?hy ?_|refine jZ ?hy ?_);case hy=>rfl)|((with_reducible refine jF ?hy ?_);case hy=>decide))
 refine push_ok hN2 hx fun H3 hN3 hf3 => ?_
 have hd3 := hN3.hd
 have c1 := hN3.cell (j := 1) hx rfl
 obtain ⟨⟨x0, xu, xl, xr, xb, xta, xtb⟩, _⟩ := (trAt_plug _ _).1 ⟨p1, p3⟩
 have xl' : (pushN N2 x x).l = a.root := xl
 rw [xl'] at c1
 by_cases ha : a.root = 0
 ·have t1 : ((a.root : Int) == 0) = true := by simp [ha]
  obtain rfl := root_nil xta ha
  obtain ⟨q, eq⟩ := plug_left ps (.node .nil x b) hsd
  rw [hl] at eq
  have hxr : x = r := by
   rw [← hhead, eq]; rfl
  repeat' (first|(with_reducible first|refine jA ?_|(refine hK _ _ ?_;clear hK K)|refine jJ fun K hK=>?_|refine jK ?_|refine jL ?_|refine jM ?_|refine jN ?_|refine jO ?_|refine jP ?_|refine jQ ?_|(refine jB ?_;clear hK K)|(refine jC ?_;clear hK K)|refine jD ?_|refine jE ?_|refine jG ?_|refine jH ?_|refine jI ?_)|((with_reducible refine jR ?hq ?_);case hq=>rfl)|((first|(with_reducible first|refine jS fun K hK=>?_|refine jT ?_|refine jU ?_)|((with_reducible refine jV ?hy fun K hK=>?_);case hy=>rfl));simp only [go_sem, Nat.reduceEqDiff, Nat.reduceAdd, Nat.reduceMul, Nat.reduceLeDiff, Nat.reduceLT, Int.reduceLT, Int.reduceLE, Int.reduceEq, Int.reduceNeg, Int.reduceToNat, Nat.reducePow, reduceIte, reduceCtorEq, i0, i1, hd3, hx, c1, t1])|((with_reducible first|refine jW ?hy ?_|refine jY ?hy ?_);case hy=>rfl)|((with_reducible first|refine jX ?hy ?_|refine jZ ?hy ?_);case hy=>rfl)|((with_reducible refine jF ?hy ?_);case hy=>decide))
  refine splay_row hN3 hL3 hV (List.Perm.refl _) hxm ?_
  intro H4 N4 a4 b4 hN4 hL4 _ _ _ _ hf4
  repeat' (first|(with_reducible first|refine jA ?_|(refine hK _ _ ?_;clear hK K)|refine jJ fun K hK=>?_|refine jK ?_|refine jL ?_|refine jM ?_|refine jN ?_|refine jO ?_|refine jP ?_|refine jQ ?_|(refine jB ?_;clear hK K)|(refine jC ?_;clear hK K)|refine jD ?_|refine jE ?_|refine jG ?_|refine jH ?_|refine jI ?_)|((with_reducible refine jR ?hq ?_);case hq=>rfl)|((first|(with_reducible first|refine jS fun K hK=>?_|refine jT ?_|refine jU ?_)|((with_reducible refine jV ?hy fun K hK=>?_);case hy=>rfl));simp only [go_sem, Nat.reduceEqDiff, Nat.reduceAdd, Nat.reduceMul, Nat.reduceLeDiff, Nat.reduceLT, Int.reduceLT, Int.reduceLE, Int.reduceEq, Int.reduceNeg, Int.reduceToNat, Nat.reducePow, reduceIte, reduceCtorEq, i1])|((with_reducible first|refine jW ?hy ?_|refine jY ?hy ?_);case hy=>rfl)|((with_reducible first|refine jX ?hy ?_|refine jZ ?hy ?_);case hy=>rfl)|((with_reducible refine jF ?hy ?_);case hy=>decide))
  rw [hxr]
  exact fin _ _ _ hN4 hL4 ((hf2.trans hf3).trans hf4)
 ·have t1 : ((a.root : Int) == 0) = false := by simp [ha]
  cases a with
  | nil => exact absurd rfl ha
  | node a' k b' =>
   repeat' (first|(with_reducible first|refine jA ?_|(refine hK _ _ ?_;clear hK K)|refine jJ fun K hK=>?_|refine jK ?_|refine jL ?_|refine jM ?_|refine jN ?_|refine jO ?_|refine jP ?_|refine jQ ?_|(refine jB ?_;clear hK K)|(refine jC ?_;clear hK K)|refine jD ?_|refine jE ?_|refine jG ?_|refine jH ?_|refine jI ?_)|((with_reducible refine jR ?hq ?_);case hq=>rfl)|((first|(with_reducible first|refine jS fun K hK=>?_|refine jT ?_|refine jU ?_)|((with_reducible refine jV ?hy fun K hK=>?_);case hy=>rfl));simp only [go_sem, Nat.reduceEqDiff, Nat.reduceAdd, Nat.reduceMul, Nat.reduceLeDiff, Nat.reduceLT, Int.reduceLT, Int.reduceLE, Int.reduceEq, Int.reduceNeg, Int.reduceToNat, Nat.reducePow, reduceIte, reduceCtorEq, i0, i1, hd3, hx, c1, t1])|((with_reducible first|refine jW ?hy ?_|refine jY ?hy ?_);case hy=>rfl)|((with_reducible first|refine jX ?hy ?_|refine jZ ?hy ?_);case hy=>rfl)|((with_reducible refine jF ?hy ?_);case hy=>decide))
   refine loop_normal (m' := a'.list.length) (by simp [Tr.list]) ⟨_, a', k, b', ⟨false, x, b⟩ :: ps, hN3, hL3, hf2.trans hf3, rfl, p1, hl, fun f hf => ?_, fun f hf => ?_, rfl⟩
   ·rcases List.mem_cons.1 hf with rfl | hf
    ·exact p2
    ·exact p3 f hf
   ·rcases List.mem_cons.1 hf with rfl | hf
    ·rfl
    ·exact hsd f hf
theorem same_ok {a b ra rb : Nat} (hN : NA H t g c len N) (hL : LC N E par rows V) (hV : ∀ h, V h → h < len) (ha : V a) (hb : V b) (hra : RootOf par a ra) (hrb : RootOf par b rb)
  (fin : ∀ H' N' rows', NA H' t g c len N' → LC N' E par rows' V → Fr (· = g) H H' → K (.bool (decide (ra = rb))) H') :
  CallsH Try.prog 44 #[.pointer (some ⟨t, 0, none⟩), .int .i64 (a : Nat), .int .i64 (b : Nat)] H K := by
 refine call44 (by simp) ?_
 simp only [Try.f44, Option.getD_some]
 by_cases e : a = b
 ·have t1 : ((a : Int) == (b : Int)) = true := by simp [e]
  subst e
  obtain rfl := hra.uniq hrb
  simp only [decide_true] at fin
  repeat' (first|(with_reducible first|refine jA ?_|(refine hK _ _ ?_;clear hK K)|refine jJ fun K hK=>?_|refine jK ?_|refine jL ?_|refine jM ?_|refine jN ?_|refine jO ?_|refine jP ?_|refine jQ ?_|(refine jB ?_;clear hK K)|(refine jC ?_;clear hK K)|refine jD ?_|refine jE ?_|refine jG ?_|refine jH ?_|refine jI ?_)|((with_reducible refine jR ?hq ?_);case hq=>rfl)|((first|(with_reducible first|refine jS fun K hK=>?_|refine jT ?_|refine jU ?_)|((with_reducible refine jV ?hy fun K hK=>?_);case hy=>rfl));simp only [go_sem, Nat.reduceEqDiff, Nat.reduceAdd, Nat.reduceMul, Nat.reduceLeDiff, Nat.reduceLT, Int.reduceLT, Int.reduceLE, Int.reduceEq, Int.reduceNeg, Int.reduceToNat, Nat.reducePow, reduceIte, reduceCtorEq, t1])|((with_reducible first|refine jW ?hy ?_|refine jY ?hy ?_);case hy=>rfl)|((with_reducible first|refine jX ?hy ?_|refine jZ ?hy ?_);case hy=>rfl)|((with_reducible refine jF ?hy ?_);case hy=>decide))
  exact fin _ _ _ hN hL (.refl _ _)
 ·have t1 : ((a : Int) == (b : Int)) = false := by simp; omega
  repeat' (first|(with_reducible first|refine jA ?_|(refine hK _ _ ?_;clear hK K)|refine jJ fun K hK=>?_|refine jK ?_|refine jL ?_|refine jM ?_|refine jN ?_|refine jO ?_|refine jP ?_|refine jQ ?_|(refine jB ?_;clear hK K)|(refine jC ?_;clear hK K)|refine jD ?_|refine jE ?_|refine jG ?_|refine jH ?_|refine jI ?_)|((with_reducible refine jR ?hq ?_);case hq=>rfl)|((first|(with_reducible first|refine jS fun K hK=>?_|refine jT ?_|refine jU ?_)|((with_reducible refine jV ?hy fun K hK=>?_);case hy=>rfl));simp only [go_sem, Nat.reduceEqDiff, Nat.reduceAdd, Nat.reduceMul, Nat.reduceLeDiff, Nat.reduceLT, Int.reduceLT, Int.reduceLE, Int.reduceEq, Int.reduceNeg, Int.reduceToNat, Nat.reducePow, reduceIte, reduceCtorEq, t1])|((with_reducible first|refine jW ?hy ?_|refine jY ?hy ?_);case hy=>rfl)|((with_reducible first|refine jX ?hy ?_|refine jZ ?hy ?_);case hy=>rfl)|((with_reducible refine jF ?hy ?_);case hy=>decide))
  refine root_ok hN hL hV ha hra fun H1 N1 rows1 hN1 hL1 hf1 => ?_
  repeat' (first|(with_reducible first|refine jA ?_|(refine hK _ _ ?_;clear hK K)|refine jJ fun K hK=>?_|refine jK ?_|refine jL ?_|refine jM ?_|refine jN ?_|refine jO ?_|refine jP ?_|refine jQ ?_|(refine jB ?_;clear hK K)|(refine jC ?_;clear hK K)|refine jD ?_|refine jE ?_|refine jG ?_|refine jH ?_|refine jI ?_)|((with_reducible refine jR ?hq ?_);case hq=>rfl)|((first|(with_reducible first|refine jS fun K hK=>?_|refine jT ?_|refine jU ?_)|((with_reducible refine jV ?hy fun K hK=>?_);case hy=>rfl));simp only [go_sem, Nat.reduceEqDiff, Nat.reduceAdd, Nat.reduceMul, Nat.reduceLeDiff, Nat.reduceLT, Int.reduceLT, Int.reduceLE, Int.reduceEq, Int.reduceNeg, Int.reduceToNat, Nat.reducePow, reduceIte, reduceCtorEq])|((with_reducible first|refine jW ?hy ?_|refine jY ?hy ?_);case hy=>rfl)|((with_reducible first|refine jX ?hy ?_|refine jZ ?hy ?_);case hy=>rfl)|((with_reducible refine jF ?hy ?_);case hy=>decide))
  refine root_ok hN1 hL1 hV hb hrb fun H2 N2 rows2 hN2 hL2 hf2 => ?_
  have t2 : ((ra : Int) == (rb : Int)) = decide (ra = rb) := by rw [Bool.eq_iff_iff]; simp; omega
  repeat' (first|(with_reducible first|refine jA ?_|(refine hK _ _ ?_;clear hK K)|refine jJ fun K hK=>?_|refine jK ?_|refine jL ?_|refine jM ?_|refine jN ?_|refine jO ?_|refine jP ?_|refine jQ ?_|(refine jB ?_;clear hK K)|(refine jC ?_;clear hK K)|refine jD ?_|refine jE ?_|refine jG ?_|refine jH ?_|refine jI ?_)|((with_reducible refine jR ?hq ?_);case hq=>rfl)|((first|(with_reducible first|refine jS fun K hK=>?_|refine jT ?_|refine jU ?_)|((with_reducible refine jV ?hy fun K hK=>?_);case hy=>rfl));simp only [go_sem, Nat.reduceEqDiff, Nat.reduceAdd, Nat.reduceMul, Nat.reduceLeDiff, Nat.reduceLT, Int.reduceLT, Int.reduceLE, Int.reduceEq, Int.reduceNeg, Int.reduceToNat, Nat.reducePow, reduceIte, reduceCtorEq, t2])|((with_reducible first|refine jW ?hy ?_|refine jY ?hy ?_);case hy=>rfl)|((with_reducible first|refine jX ?hy ?_|refine jZ ?hy ?_);case hy=>rfl)|((with_reducible refine jF ?hy ?_);case hy=>decide))
  exact fin _ _ _ hN2 hL2 (hf1.trans hf2)
theorem apart_ok {h : Nat} (hN : NA H t g c len N) (hL : LC N E par rows V) (hV : ∀ h, V h → h < len) (hh : V h)
  (fin : ∀ H' N' rows', NA H' t g c len N' → LC N' E (setP par h 0) rows' V → Fr (· = g) H H' → K (.tuple #[]) H') :
  CallsH Try.prog 64 #[.pointer (some ⟨t, 0, none⟩), .int .i64 (h : Nat)] H K := by
 have hlt := hV h hh
 refine call64 (by simp) ?_
 simp only [Try.f64, Option.getD_some]
 repeat' (first|(with_reducible first|refine jA ?_|(refine hK _ _ ?_;clear hK K)|refine jJ fun K hK=>?_|refine jK ?_|refine jL ?_|refine jM ?_|refine jN ?_|refine jO ?_|refine jP ?_|refine jQ ?_|(refine jB ?_;clear hK K)|(refine jC ?_;clear hK K)|refine jD ?_|refine jE ?_|refine jG ?_|refine jH ?_|refine jI ?_)|((with_reducible refine jR ?hq ?_);case hq=>rfl)|((first|(with_reducible first|refine jS fun K hK=>?_|refine jT ?_|refine jU ?_)|((with_reducible refine jV ?hy fun K hK=>?_);case hy=>rfl));simp only [go_sem, Nat.reduceEqDiff, Nat.reduceAdd, Nat.reduceMul, Nat.reduceLeDiff, Nat.reduceLT, Int.reduceLT, Int.reduceLE, Int.reduceEq, Int.reduceNeg, Int.reduceToNat, Nat.reducePow, reduceIte, reduceCtorEq])|((with_reducible first|refine jW ?hy ?_|refine jY ?hy ?_);case hy=>rfl)|((with_reducible first|refine jX ?hy ?_|refine jZ ?hy ?_);case hy=>rfl)|((with_reducible refine jF ?hy ?_);case hy=>decide))
 refine access_ok hN hL hV hh fun H1 N1 a R hN1 hA hf1 => ?_
 have hd1 := hN1.hd
 have c1 := hN1.cell (j := 1) hlt rfl
 have xl : (N1 h).l = a.root := hA.tree.2.2.1
 rw [xl] at c1
 by_cases ha : a.root = 0
 ·have t1 : ((a.root : Int) != 0) = false := by simp [ha]
  have e : setP par h 0 = par := by
   funext i
   unfold setP
   split
   ·rename_i hi
    have h1 := hA.top
    have : a = .nil := root_nil hA.tree.2.2.2.2.2.1 ha
    rw [this] at h1
    rw [hi]
    exact h1.symm
   ·rfl
  rw [e] at fin
  repeat' (first|(with_reducible first|refine jA ?_|(refine hK _ _ ?_;clear hK K)|refine jJ fun K hK=>?_|refine jK ?_|refine jL ?_|refine jM ?_|refine jN ?_|refine jO ?_|refine jP ?_|refine jQ ?_|(refine jB ?_;clear hK K)|(refine jC ?_;clear hK K)|refine jD ?_|refine jE ?_|refine jG ?_|refine jH ?_|refine jI ?_)|((with_reducible refine jR ?hq ?_);case hq=>rfl)|((first|(with_reducible first|refine jS fun K hK=>?_|refine jT ?_|refine jU ?_)|((with_reducible refine jV ?hy fun K hK=>?_);case hy=>rfl));simp only [go_sem, Nat.reduceEqDiff, Nat.reduceAdd, Nat.reduceMul, Nat.reduceLeDiff, Nat.reduceLT, Int.reduceLT, Int.reduceLE, Int.reduceEq, Int.reduceNeg, Int.reduceToNat, Nat.reducePow, reduceIte, reduceCtorEq, hd1, hlt, c1, t1])|((with_reducible first|refine jW ?hy ?_|refine jY ?hy ?_);case hy=>rfl)|((with_reducible first|refine jX ?hy ?_|refine jZ ?hy ?_);case hy=>rfl)|((with_reducible refine jF ?hy ?_);case hy=>decide))
  exact fin _ _ _ hN1 hA.lc hf1
 ·have t1 : ((a.root : Int) != 0) = true := by simp [ha]
  have hrm : a.root ∈ a.list ++ [h] := List.mem_append_left _ (Tr.root_mem ha)
  have hrl := hV _ (hA.lc.live hrm)
  have w0 := hN1.okw0 hrl
  have hN2 := setUpA hN1 hrl hN1.z.1
  have hd2 := hN2.hd
  have w1 := hN2.okw hlt 1 (by omega)
  have hN3 := setL hN2 hlt hN1.z.1
  have hf3 := (hset_fr H1 g (a.root * 10) (.int .i64 ((0 : Nat) : Int))).trans (hset_fr _ g (h * 10 + 1) (.int .i64 ((0 : Nat) : Int)))
  simp only [Int.cast_ofNat_Int] at hd2 w1 hN2 hN3 hf3
  repeat' (first|(with_reducible first|refine jA ?_|(refine hK _ _ ?_;clear hK K)|refine jJ fun K hK=>?_|refine jK ?_|refine jL ?_|refine jM ?_|refine jN ?_|refine jO ?_|refine jP ?_|refine jQ ?_|(refine jB ?_;clear hK K)|(refine jC ?_;clear hK K)|refine jD ?_|refine jE ?_|refine jG ?_|refine jH ?_|refine jI ?_)|((with_reducible refine jR ?hq ?_);case hq=>rfl)|((first|(with_reducible first|refine jS fun K hK=>?_|refine jT ?_|refine jU ?_)|((with_reducible refine jV ?hy fun K hK=>?_);case hy=>rfl));simp only [go_sem, Nat.reduceEqDiff, Nat.reduceAdd, Nat.reduceMul, Nat.reduceLeDiff, Nat.reduceLT, Int.reduceLT, Int.reduceLE, Int.reduceEq, Int.reduceNeg, Int.reduceToNat, Nat.reducePow, reduceIte, reduceCtorEq, hd1, hlt, c1, t1, hrl, w0, hd2, w1])|((with_reducible first|refine jW ?hy ?_|refine jY ?hy ?_);case hy=>rfl)|((with_reducible first|refine jX ?hy ?_|refine jZ ?hy ?_);case hy=>rfl)|((with_reducible refine jF ?hy ?_);case hy=>decide))
  refine pull_ok hN3 hlt fun H4 hN4 hf4 => ?_
  repeat' (first|(with_reducible first|refine jA ?_|(refine hK _ _ ?_;clear hK K)|refine jJ fun K hK=>?_|refine jK ?_|refine jL ?_|refine jM ?_|refine jN ?_|refine jO ?_|refine jP ?_|refine jQ ?_|(refine jB ?_;clear hK K)|(refine jC ?_;clear hK K)|refine jD ?_|refine jE ?_|refine jG ?_|refine jH ?_|refine jI ?_)|((with_reducible refine jR ?hq ?_);case hq=>rfl)|((first|(with_reducible first|refine jS fun K hK=>?_|refine jT ?_|refine jU ?_)|((with_reducible refine jV ?hy fun K hK=>?_);case hy=>rfl));simp only [go_sem, Nat.reduceEqDiff, Nat.reduceAdd, Nat.reduceMul, Nat.reduceLeDiff, Nat.reduceLT, Int.reduceLT, Int.reduceLE, Int.reduceEq, Int.reduceNeg, Int.reduceToNat, Nat.reducePow, reduceIte, reduceCtorEq])|((with_reducible first|refine jW ?hy ?_|refine jY ?hy ?_);case hy=>rfl)|((with_reducible first|refine jX ?hy ?_|refine jZ ?hy ?_);case hy=>rfl)|((with_reducible refine jF ?hy ?_);case hy=>decide))
  exact fin _ _ _ hN4 (hA.part ha) ((hf1.trans hf3).trans hf4)
end
end Go.Proofs.Ytafehbegoanajaa
namespace Go.Li
open Go Go.Hp
set_option linter.unusedVariables false
set_option linter.unusedSimpArgs false

def setE (E : Es) (h : Nat) (e : Option Ed) : Es := fun i => if i = h then e else E i
theorem setE_same (E : Es) (h : Nat) (e : Option Ed) : setE E h e h = e := if_pos rfl
theorem setE_ne (E : Es) {h i : Nat} (e : Option Ed) (hi : i ≠ h) : setE E h e i = E i := if_neg hi
theorem Best.congrE {E E' : Es} {b : Nat} {xs : List Nat} (h : Best E b xs) (he : ∀ x ∈ xs, E' x = E x) : Best E' b xs := by
 rcases h with ⟨h1, h2⟩ | ⟨h1, e, h2, h3⟩
 ·exact .inl ⟨h1, fun x hx => by rw [he x hx]; exact h2 x hx⟩
 ·exact .inr ⟨h1, e, by rw [he b h1]; exact h2, fun x hx e' hx' => h3 x hx e' (by rw [← he x hx]; exact hx')⟩
theorem TrAt.congrE {N : Nodes} {E E' : Es} : ∀ {t : Tr} {rev : Bool} {up : Nat}, TrAt N E rev up t → (∀ x ∈ t.list, E' x = E x) → TrAt N E' rev up t
 | .nil, _, _, _, _ => trivial
 | .node l h r, rev, up, ⟨a, b, c, d, e, f, g⟩, hN => by
  simp only [Tr.list, List.mem_append, List.mem_cons] at hN
  exact ⟨a, b, c, d, e.congrE fun x hx => hN x (by simpa using hx), f.congrE fun k hk => hN k (.inl hk), g.congrE fun k hk => hN k (.inr (.inr hk))⟩
def newNd (h : Nat) (e : Ed) : Nd := { Nd.zero with isEdge := true, e := e, best := h }
section
variable {N N' : Nodes} {E : Es} {par : Par} {rows R : List (List Nat)} {V : Nat → Prop} {h : Nat}
theorem LC.add {e : Ed} (k : LC N E par rows V) (h0 : h ≠ 0) (hV : ¬ V h) (hE : E h = none) (hp : par h = 0) (hid : ∀ x e', E x = some e' → e'.id ≠ e.id) :
  LC (upd N h (newNd h e)) (setE E h (some e)) par ([h] :: rows) (fun i => V i ∨ i = h) := by
 have hr : ∀ i ∈ rows.flatten, i ≠ h := fun i hi e => hV (e ▸ (k.use i).1 hi)
 refine ⟨⟨fun i => ?_, fun i x hx => ?_, fun x y a b ha hb hab => ?_⟩, ?_, fun hz => ?_, fun ys hy => ?_, fun ys hy => ?_, fun ys hy => ?_, ?_, fun i => ?_, fun i hi => ?_, fun i hi => ?_⟩
 ·by_cases ei : i = h
  ·subst ei; rw [upd_same, setE_same]; rfl
  ·rw [upd_ne _ _ ei, setE_ne _ _ ei]; exact k.eok.is i
 ·by_cases ei : i = h
  ·subst ei
   rw [setE_same] at hx
   rw [upd_same]
   exact Option.some.inj hx
  ·rw [setE_ne _ _ ei] at hx
   rw [upd_ne _ _ ei]
   exact k.eok.e i x hx
 ·by_cases ex : x = h
  ·by_cases ey : y = h
   ·rw [ex, ey]
   ·rw [ex, setE_same] at ha
    rw [setE_ne _ _ ey] at hb
    obtain rfl := Option.some.inj ha
    exact absurd hab.symm (hid y b hb)
  ·rw [setE_ne _ _ ex] at ha
   by_cases ey : y = h
   ·rw [ey, setE_same] at hb
    obtain rfl := Option.some.inj hb
    exact absurd hab (hid x a ha)
   ·rw [setE_ne _ _ ey] at hb
    exact k.eok.uq x y a b ha hb hab
 ·rw [upd_ne _ _ (Ne.symm h0)]; exact k.z
 ·rcases hz with hz | hz
  ·exact k.v0 hz
  ·exact h0 hz.symm
 ·rcases List.mem_cons.1 hy with rfl | hy
  ·refine ⟨.node .nil h .nil, ⟨h0, ?_, ?_, ?_, ?_, trivial, trivial⟩, rfl⟩
   ·rw [upd_same]; exact hp.symm
   ·rw [upd_same]; rfl
   ·rw [upd_same]; rfl
   ·rw [upd_same]
    exact .inr ⟨by simp [newNd, Tr.list], e, setE_same _ _ _, fun x hx e' he => .inl (by simpa [Tr.list, newNd] using hx)⟩
  ·obtain ⟨T, hT, eT⟩ := k.trees ys hy
   have hne : ∀ i ∈ T.list, i ≠ h := fun i hi => hr i (List.mem_flatten.2 ⟨ys, hy, by rw [← eT]; exact hi⟩)
   exact ⟨T, (hT.congr fun i hi => upd_ne _ _ (hne i hi)).congrE fun i hi => setE_ne _ _ (hne i hi), eT⟩
 ·rcases List.mem_cons.1 hy with rfl | hy
  ·trivial
  ·exact k.link ys hy
 ·rcases List.mem_cons.1 hy with rfl | hy
  ·simp
  ·exact k.ne ys hy
 ·rw [List.flatten_cons]
  exact List.nodup_cons.2 ⟨fun hm => hr h hm rfl, k.nd⟩
 ·simp only [List.flatten_cons, List.mem_append, List.mem_singleton, k.use i]
  exact Or.comm
 ·rcases hi with hi | rfl
  ·exact (k.cl i hi).imp id .inl
  ·exact .inl hp
 ·rcases hi with hi | rfl
  ·exact k.ac i hi
  ·exact ⟨_, .root hp⟩
theorem LC.alone (k : LC N E par rows V) (hV : V h) (hp : par h = 0) (hc : ∀ y, par y ≠ h) : ∃ R, rows.Perm ([h] :: R) := by
 obtain ⟨xs, R, hperm, hm⟩ := k.find hV
 have k1 := k.perm hperm
 have hl := k1.link xs (.head _)
 obtain ⟨p, q, e⟩ := List.append_of_mem hm
 subst e
 have hq : q = [] := by
  cases q with
  | nil => rfl
  | cons y q => exact absurd hl.mid (hc y)
 subst hq
 have hpn : p = [] := by
  rcases List.eq_nil_or_concat p with rfl | ⟨p', z, rfl⟩
  ·rfl
  ·have e : p'.concat z ++ [h] = p' ++ z :: h :: [] := by simp
   rw [e] at hl
   have h1 := hl.mid
   have h2 := hl.right
   rw [hp] at h1
   exact absurd h1.symm h2.2.1
 subst hpn
 exact ⟨R, hperm⟩
theorem LC.hang {a p : Nat} {r : List Nat} {T : Tr} (k : LC N E par ((a :: r) :: R) V) (hT : TrAt N E false 0 T) (hl : T.list = a :: r) (ha : par a = 0) (hp : V p) {lp : List Nat} (hlp : Ch par p lp) (hap : a ∉ lp) :
  LC (upd N T.root { N T.root with up := p }) E (setP par a p) ((a :: r) :: R) V := by
 have hp0 : p ≠ 0 := fun e => k.v0 (e ▸ hp)
 have hr0 : T.root ≠ 0 := by
  cases T with
  | nil => simp [Tr.list] at hl
  | node _ _ _ => exact hT.1
 have hrm : T.root ∈ a :: r := by rw [← hl]; exact Tr.root_mem hr0
 have hnd := k.row.nd
 have hE : EOk (upd N T.root { N T.root with up := p }) E := k.eok.congr fun i => (upd_other (N := N) (h := T.root) (r := { N T.root with up := p }) rfl rfl rfl i).2
 have hapR : ∀ i ∈ R.flatten, i ≠ a ∧ i ≠ T.root := fun i hi => ⟨fun e => k.apart (i := i) (by rw [e]; exact .head _) hi, fun e => k.apart (i := i) (by rw [e]; exact hrm) hi⟩
 refine ⟨hE, ?_, k.v0, fun ys hy => ?_, fun ys hy => ?_, k.ne, k.nd, k.use, fun i hi => ?_, fun i hi => ?_⟩
 ·rw [upd_ne _ _ (Ne.symm hr0)]; exact k.z
 ·rcases List.mem_cons.1 hy with rfl | hy
  ·refine ⟨T, ?_, hl⟩
   show TrAt _ E false (setP par a p a) T
   rw [setP_same]
   exact hT.hung (by rw [hl]; exact hnd) (fun _ => upd_same _ _ _) fun i hi hne => upd_ne _ _ hne
  ·obtain ⟨T2, h2, e2⟩ := k.trees ys (.tail _ hy)
   have hne := k.ne ys (.tail _ hy)
   have hh : ys.headD 0 ∈ R.flatten := by
    cases ys with
    | nil => exact absurd rfl hne
    | cons y q => exact List.mem_flatten.2 ⟨_, hy, .head _⟩
   refine ⟨T2, ?_, e2⟩
   rw [setP_ne _ (hapR _ hh).1]
   exact h2.congr fun i hi => upd_ne _ _ (hapR i (List.mem_flatten.2 ⟨ys, hy, by rw [← e2]; exact hi⟩)).2
 ·rcases List.mem_cons.1 hy with rfl | hy
  ·have := k.link _ (.head _)
   cases r with
   | nil => trivial
   | cons y q =>
    rw [List.nodup_cons] at hnd
    refine ⟨by rw [setP_ne _ fun e => hnd.1 (by rw [← e]; exact .head _)]; exact this.1, this.2.1, this.2.2.congr fun i hi => setP_ne _ fun e => hnd.1 (e ▸ hi)⟩
  ·exact (k.link ys (.tail _ hy)).congr fun i hi => setP_ne _ (hapR i (List.mem_flatten.2 ⟨ys, hy, hi⟩)).1
 ·by_cases e : i = a
  ·rw [e, setP_same]; exact .inr hp
  ·rw [setP_ne _ e]; exact k.cl i hi
 ·obtain ⟨m, hm⟩ := k.ac i hi
  obtain ⟨m', h1, _⟩ := hang_chain hp0 hlp hap hm ha
  exact ⟨m', h1⟩
theorem LC.drop (k : LC N E par ([h] :: R) V) (hc : ∀ y, par y ≠ h) : LC (upd N h Nd.zero) (setE E h none) par R (fun i => V i ∧ i ≠ h) := by
 have hr : ∀ i ∈ R.flatten, i ≠ h := fun i hi e => k.apart (i := i) (by simp [e]) hi
 have hV := k.live (i := h) (by simp)
 have h0 : h ≠ 0 := fun e => k.v0 (e ▸ hV)
 refine ⟨⟨fun i => ?_, fun i x hx => ?_, fun x y a b ha hb hab => ?_⟩, ?_, fun hz => k.v0 hz.1, fun ys hy => ?_, fun ys hy => k.link ys (.tail _ hy), fun ys hy => k.ne ys (.tail _ hy), ?_, fun i => ?_, fun i hi => ?_, fun i hi => k.ac i hi.1⟩
 ·by_cases ei : i = h
  ·subst ei; rw [upd_same, setE_same]; rfl
  ·rw [upd_ne _ _ ei, setE_ne _ _ ei]; exact k.eok.is i
 ·by_cases ei : i = h
  ·subst ei; rw [setE_same] at hx; cases hx
  ·rw [setE_ne _ _ ei] at hx
   rw [upd_ne _ _ ei]
   exact k.eok.e i x hx
 ·by_cases ex : x = h
  ·rw [ex, setE_same] at ha; cases ha
  ·by_cases ey : y = h
   ·rw [ey, setE_same] at hb; cases hb
   ·rw [setE_ne _ _ ex] at ha
    rw [setE_ne _ _ ey] at hb
    exact k.eok.uq x y a b ha hb hab
 ·rw [upd_ne _ _ (Ne.symm h0)]; exact k.z
 ·obtain ⟨T, hT, eT⟩ := k.trees ys (.tail _ hy)
  have hne : ∀ i ∈ T.list, i ≠ h := fun i hi => hr i (List.mem_flatten.2 ⟨ys, hy, by rw [← eT]; exact hi⟩)
  exact ⟨T, (hT.congr fun i hi => upd_ne _ _ (hne i hi)).congrE fun i hi => setE_ne _ _ (hne i hi), eT⟩
 ·have := k.nd
  rw [List.flatten_cons, List.nodup_append] at this
  exact this.2.1
 ·have := k.use i
  simp only [List.flatten_cons, List.mem_append, List.mem_singleton] at this
  constructor
  ·exact fun hi => ⟨this.1 (.inr hi), hr i hi⟩
  ·rintro ⟨h1, h2⟩
   exact (this.2 h1).resolve_left h2
 ·rcases k.cl i hi.1 with h1 | h1
  ·exact .inl h1
  ·exact .inr ⟨h1, hc i⟩
end
def Wk (par : Par) : List Nat → Prop
 | x :: y :: r => Adj par x y ∧ Wk par (y :: r)
 | _ => True
theorem Wk.tail {par : Par} {x : Nat} {r : List Nat} (h : Wk par (x :: r)) : Wk par r := by
 cases r with
 | nil => trivial
 | cons y r => exact h.2
theorem Wk.right {par : Par} : ∀ {p q : List Nat}, Wk par (p ++ q) → Wk par q
 | [], _, h => h
 | x :: p, q, h => Wk.right (p := p) h.tail
theorem Wk.left {par : Par} : ∀ {p q : List Nat}, Wk par (p ++ q) → Wk par p
 | [], _, _ => trivial
 | [x], _, _ => trivial
 | x :: y :: p, q, h => ⟨h.1, Wk.left (p := y :: p) h.2⟩
theorem Wk.snoc {par : Par} : ∀ {p : List Nat} {x y : Nat}, Wk par (p ++ [x]) → Adj par x y → Wk par (p ++ [x, y])
 | [], x, y, _, h => ⟨h, trivial⟩
 | [z], x, y, k, h => ⟨k.1, h, trivial⟩
 | z :: w :: p, x, y, k, h => ⟨k.1, Wk.snoc (p := w :: p) k.2 h⟩
theorem Wk.reverse {par : Par} : ∀ {l : List Nat}, Wk par l → Wk par l.reverse
 | [], _ => trivial
 | [x], _ => trivial
 | x :: y :: r, h => by
  have := Wk.reverse h.2
  rw [List.reverse_cons] at this ⊢
  rw [List.reverse_cons, List.append_assoc]
  exact this.snoc h.1.symm
theorem Wk.congr {par par' : Par} (hp : ∀ x y, Adj par' x y ↔ Adj par x y) : ∀ {l : List Nat}, Wk par l → Wk par' l
 | [], _ => trivial
 | [x], _ => trivial
 | x :: y :: r, h => ⟨(hp x y).2 h.1, Wk.congr hp h.2⟩
structure SP (par : Par) (a b : Nat) (l : List Nat) : Prop where
 head : l.head? = some a
 last : l.getLast? = some b
 nd : l.Nodup
 wk : Wk par l
theorem SP.rev {par : Par} {a b : Nat} {l : List Nat} (h : SP par a b l) : SP par b a l.reverse :=
 ⟨by rw [List.head?_reverse]; exact h.last, by rw [List.getLast?_reverse]; exact h.head, (List.reverse_perm _).nodup_iff.2 h.nd, h.wk.reverse⟩
theorem SP.congr {par par' : Par} {a b : Nat} {l : List Nat} (hp : ∀ x y, Adj par' x y ↔ Adj par x y) (h : SP par a b l) : SP par' a b l := ⟨h.head, h.last, h.nd, h.wk.congr hp⟩
theorem Ch.wk {par : Par} {h : Nat} {l : List Nat} (k : Ch par h l) : Wk par l := by
 induction k with
 | root _ => trivial
 | @step h l h0 k ih =>
  obtain ⟨r, rfl⟩ := k.head
  exact ⟨.inl ⟨rfl, h0⟩, ih⟩
theorem Wk.down {par : Par} : ∀ {l : List Nat} {x p : Nat}, Wk par (x :: l) → (x :: l).Nodup → par x = p → p ∉ l → (∀ y ∈ x :: l, y ≠ 0) → Lk par (x :: l)
 | [], _, _, _, _, _, _, _ => trivial
 | y :: r, x, p, hw, hd, hp, hn, hz => by
  have hxy : par y = x := by
   rcases hw.1 with ⟨h1, h2⟩ | ⟨h1, h2⟩
   ·rw [hp] at h1
    exact absurd (by rw [h1]; exact .head _) hn
   ·exact h1
  refine ⟨hxy, hz x (.head _), ?_⟩
  rw [List.nodup_cons] at hd
  exact Wk.down hw.2 hd.2 hxy (fun h => hd.1 (.tail _ h)) fun z hz' => hz z (.tail _ hz')
theorem SP.chain {par : Par} {a b : Nat} {l : List Nat} (h : SP par a b l) (ha : par a = 0) (hz : 0 ∉ l) : Ch par b l.reverse := by
 obtain ⟨h1, h2, h3, h4⟩ := h
 cases l with
 | nil => cases h1
 | cons x r =>
  have e1 : x = a := by simpa using h1
  subst e1
  have hl := h4.down h3 ha (fun hm => hz (.tail _ hm)) fun y hy e => hz (e ▸ hy)
  rcases List.eq_nil_or_concat (x :: r) with e | ⟨q, z, e⟩
  ·cases e
  ·rw [List.concat_eq_append] at e
   rw [e] at h2 hl ⊢
   have e2 : z = b := by simpa using h2
   subst e2
   have e3 : q = q.reverse.reverse := by simp
   rw [List.reverse_append]
   show Ch par z (z :: q.reverse)
   rw [e3] at hl
   refine hl.ch ?_
   rw [← e3]
   have : (q ++ [z]).headD 0 = x := by rw [← e]; rfl
   rw [this, ha]
theorem SP.uniq {par : Par} {a b : Nat} {l l' m : List Nat} (hm : Ch par a m) (ha : a ≠ 0) (h : SP par a b l) (h' : SP par a b l') (hz : 0 ∉ l) (hz' : 0 ∉ l') : l = l' := by
 have hp := fun x y => ev_adj hm ha (x := x) (y := y)
 have he : ev par 0 m a = 0 := by obtain ⟨r, rfl⟩ := hm.head; exact ev_head
 have h1 := (h.congr hp).chain he hz
 have h2 := (h'.congr hp).chain he hz'
 have := h1.uniq h2
 have := congrArg List.reverse this
 simpa using this
theorem SP.exists {par : Par} {a b r : Nat} (ha : a ≠ 0) (hra : RootOf par a r) (hrb : RootOf par b r) : ∃ l, SP par a b l ∧ (∃ m, Ch par a m ∧ Ch (ev par 0 m) b l.reverse) := by
 obtain ⟨m, hm, hmr⟩ := hra
 have h1 := ev_root hm ha hmr hrb
 rw [if_pos rfl] at h1
 obtain ⟨l, hl, hlast⟩ := h1
 have hp := fun x y => (ev_adj hm ha (x := x) (y := y)).symm
 refine ⟨l.reverse, SP.congr hp ⟨?_, ?_, (List.reverse_perm _).nodup_iff.2 hl.nodup, hl.wk.reverse⟩, m, hm, by rw [List.reverse_reverse]; exact hl⟩
 ·rw [List.head?_reverse]; exact hlast
 ·rw [List.getLast?_reverse]
  obtain ⟨q, rfl⟩ := hl.head
  rfl
theorem Wk.root {par : Par} : ∀ {l : List Nat} {a b r : Nat}, Wk par l → l.head? = some a → l.getLast? = some b → RootOf par b r → RootOf par a r
 | [], _, _, _, _, h, _, _ => by cases h
 | [x], a, b, r, _, h1, h2, hr => by
  simp at h1 h2
  rw [← h1, h2]; exact hr
 | x :: y :: q, a, b, r, hw, h1, h2, hr => by
  have e : x = a := by simpa using h1
  subst e
  have ih := Wk.root (l := y :: q) (a := y) hw.2 rfl (by simpa using h2) hr
  rcases hw.1 with ⟨h3, h4⟩ | ⟨h3, h4⟩
  ·exact (RootOf.up (by rw [h3]; exact h4)).2 (by rw [h3]; exact ih)
  ·have := (RootOf.up (par := par) (h := y) (r := r) (by rw [h3]; exact h4)).1 ih
   rwa [h3] at this
end Go.Li
