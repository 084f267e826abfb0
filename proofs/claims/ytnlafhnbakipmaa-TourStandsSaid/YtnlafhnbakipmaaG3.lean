/-
  Splay forests as sequences: Set, At, Flagged.
  Splay forests as sequences: Flagged, All.
  Splay forests as sequences: All.
  Splay forests for whoever uses them: what each public call answers and does.
-/
import Derived.Test.YtnlafhnbakipmaaG2
namespace Go.Proofs.Ytnlafhnbakipmaa
open Go Go.Hp Go.Sp
set_option linter.all false
set_option maxRecDepth 100000
set_option maxHeartbeats 1600000

section
variable {H H' : Heap} {f p g : Nat} {A : Ar} {nb : Nat → Nat} {N : Nodes} {S : Fo} {xs ys : List Nat} {k j : Nat} {R : List (List Nat)}
theorem set_none {K : Value → Heap → Prop} {i : Int} {x : Sp.Item} (hF : FoAt H f p g A nb N S) (hi : ¬ ∃ k : Nat, i = (k : Int) ∧ k ∈ S.rows.flatten) (fin : ∀ H', Fr (fun _ => False) H H' → K (.int .i64 31) H') :
  CallsH Try.prog 77 #[.pointer (some ⟨f, 0, none⟩), .int .i64 i, x.val] H K := by
 refine call77 (by simp) ?_
 simp only [Try.f77, Option.getD_some]
 repeat' (first|(with_reducible first|refine jA ?_|(refine hK _ _ ?_;clear hK K)|refine jJ fun K hK=>?_|refine jK ?_|refine jL ?_|refine jM ?_|refine jN ?_|refine jO ?_|refine jP ?_|refine jQ ?_|(refine jB ?_;clear hK K)|(refine jC ?_;clear hK K)|refine jD ?_|refine jE ?_|refine jG ?_|refine jH ?_|refine jI ?_)|((with_reducible refine jR ?hq ?_);case hq=>rfl)|((first|(with_reducible first|refine jS fun K hK=>?_|refine jT ?_|refine jU ?_)|((with_reducible refine jV ?hy fun K hK=>?_);case hy=>rfl));simp only [go_sem, Nat.reduceEqDiff, Nat.reduceAdd, Nat.reduceMul, Nat.reduceLeDiff, Nat.reduceLT, Int.reduceLT, Int.reduceLE, Int.reduceEq, Int.reduceNeg, Int.reduceToNat, Nat.reducePow, reduceIte, reduceCtorEq, Sp.Item.val, hcell_push, hcell_top, okW_push, okW_top, hcell_hset_ne, hcell_hset_off, hcell_hset_eq, okW_hset, hset_size, Array.size_push, Nat.lt_add_one, ne_add_one, add_one_ne, Nat.add_assoc, add_same, add_lt_same, Nat.reduceEqDiff, lt_add_k, add_k_ne, ne_add_k])|((with_reducible first|refine jW ?hy ?_|refine jY ?hy ?_);case hy=>rfl)|((with_reducible first|refine jX ?hy ?_|refine jZ ?hy ?_);case hy=>rfl)|((with_reducible refine jF ?hy ?_);case hy=>decide))
 refine node_no (hF.grow ((Fr.refl _ _).push _)).mem (hF.none hi) ?_
 repeat' (first|(with_reducible first|refine jA ?_|(refine hK _ _ ?_;clear hK K)|refine jJ fun K hK=>?_|refine jK ?_|refine jL ?_|refine jM ?_|refine jN ?_|refine jO ?_|refine jP ?_|refine jQ ?_|(refine jB ?_;clear hK K)|(refine jC ?_;clear hK K)|refine jD ?_|refine jE ?_|refine jG ?_|refine jH ?_|refine jI ?_)|((with_reducible refine jR ?hq ?_);case hq=>rfl)|((first|(with_reducible first|refine jS fun K hK=>?_|refine jT ?_|refine jU ?_)|((with_reducible refine jV ?hy fun K hK=>?_);case hy=>rfl));simp only [go_sem, Nat.reduceEqDiff, Nat.reduceAdd, Nat.reduceMul, Nat.reduceLeDiff, Nat.reduceLT, Int.reduceLT, Int.reduceLE, Int.reduceEq, Int.reduceNeg, Int.reduceToNat, Nat.reducePow, reduceIte, reduceCtorEq])|((with_reducible first|refine jW ?hy ?_|refine jY ?hy ?_);case hy=>rfl)|((with_reducible first|refine jX ?hy ?_|refine jZ ?hy ?_);case hy=>rfl)|((with_reducible refine jF ?hy ?_);case hy=>decide))
 exact fin _ (by ((repeat (first | refine Fr.set ?_ (by simp) _ | refine Fr.push ?_ _)); exact Fr.refl _ _))
theorem set_bad {K : Value → Heap → Prop} {x : Sp.Item} (hF : FoAt H f p g A nb N S) (hk : k ∈ S.rows.flatten) (hx : Fits x) (hx2 : ¬ May x) (fin : ∀ H', Fr (fun _ => False) H H' → K (.int .i64 1) H') :
  CallsH Try.prog 77 #[.pointer (some ⟨f, 0, none⟩), .int .i64 k, x.val] H K := by
 have hb : mayB x = false := by
  rw [← Bool.not_eq_true, mayB_iff]; exact hx2
 refine call77 (by simp) ?_
 simp only [Try.f77, Option.getD_some]
 repeat' (first|(with_reducible first|refine jA ?_|(refine hK _ _ ?_;clear hK K)|refine jJ fun K hK=>?_|refine jK ?_|refine jL ?_|refine jM ?_|refine jN ?_|refine jO ?_|refine jP ?_|refine jQ ?_|(refine jB ?_;clear hK K)|(refine jC ?_;clear hK K)|refine jD ?_|refine jE ?_|refine jG ?_|refine jH ?_|refine jI ?_)|((with_reducible refine jR ?hq ?_);case hq=>rfl)|((first|(with_reducible first|refine jS fun K hK=>?_|refine jT ?_|refine jU ?_)|((with_reducible refine jV ?hy fun K hK=>?_);case hy=>rfl));simp only [go_sem, Nat.reduceEqDiff, Nat.reduceAdd, Nat.reduceMul, Nat.reduceLeDiff, Nat.reduceLT, Int.reduceLT, Int.reduceLE, Int.reduceEq, Int.reduceNeg, Int.reduceToNat, Nat.reducePow, reduceIte, reduceCtorEq, Sp.Item.val, hcell_push, hcell_top, okW_push, okW_top, hcell_hset_ne, hcell_hset_off, hcell_hset_eq, okW_hset, hset_size, Array.size_push, Nat.lt_add_one, ne_add_one, add_one_ne, Nat.add_assoc, add_same, add_lt_same, Nat.reduceEqDiff, lt_add_k, add_k_ne, ne_add_k])|((with_reducible first|refine jW ?hy ?_|refine jY ?hy ?_);case hy=>rfl)|((with_reducible first|refine jX ?hy ?_|refine jZ ?hy ?_);case hy=>rfl)|((with_reducible refine jF ?hy ?_);case hy=>decide))
 refine node_ok (hF.grow ((Fr.refl _ _).push _)).mem ((hF.use k).1 hk) ?_
 repeat' (first|(with_reducible first|refine jA ?_|(refine hK _ _ ?_;clear hK K)|refine jJ fun K hK=>?_|refine jK ?_|refine jL ?_|refine jM ?_|refine jN ?_|refine jO ?_|refine jP ?_|refine jQ ?_|(refine jB ?_;clear hK K)|(refine jC ?_;clear hK K)|refine jD ?_|refine jE ?_|refine jG ?_|refine jH ?_|refine jI ?_)|((with_reducible refine jR ?hq ?_);case hq=>rfl)|((first|(with_reducible first|refine jS fun K hK=>?_|refine jT ?_|refine jU ?_)|((with_reducible refine jV ?hy fun K hK=>?_);case hy=>rfl));simp only [go_sem, Nat.reduceEqDiff, Nat.reduceAdd, Nat.reduceMul, Nat.reduceLeDiff, Nat.reduceLT, Int.reduceLT, Int.reduceLE, Int.reduceEq, Int.reduceNeg, Int.reduceToNat, Nat.reducePow, reduceIte, reduceCtorEq, Sp.Item.val, hcell_push, hcell_top, okW_push, okW_top, hcell_hset_ne, hcell_hset_off, hcell_hset_eq, okW_hset, hset_size, Array.size_push, Nat.lt_add_one, ne_add_one, add_one_ne, Nat.add_assoc, add_same, add_lt_same, Nat.reduceEqDiff, lt_add_k, add_k_ne, ne_add_k])|((with_reducible first|refine jW ?hy ?_|refine jY ?hy ?_);case hy=>rfl)|((with_reducible first|refine jX ?hy ?_|refine jZ ?hy ?_);case hy=>rfl)|((with_reducible refine jF ?hy ?_);case hy=>decide))
 refine may_ok hx ?_
 intro H1 hf1
 rw [hb]
 repeat' (first|(with_reducible first|refine jA ?_|(refine hK _ _ ?_;clear hK K)|refine jJ fun K hK=>?_|refine jK ?_|refine jL ?_|refine jM ?_|refine jN ?_|refine jO ?_|refine jP ?_|refine jQ ?_|(refine jB ?_;clear hK K)|(refine jC ?_;clear hK K)|refine jD ?_|refine jE ?_|refine jG ?_|refine jH ?_|refine jI ?_)|((with_reducible refine jR ?hq ?_);case hq=>rfl)|((first|(with_reducible first|refine jS fun K hK=>?_|refine jT ?_|refine jU ?_)|((with_reducible refine jV ?hy fun K hK=>?_);case hy=>rfl));simp only [go_sem, Nat.reduceEqDiff, Nat.reduceAdd, Nat.reduceMul, Nat.reduceLeDiff, Nat.reduceLT, Int.reduceLT, Int.reduceLE, Int.reduceEq, Int.reduceNeg, Int.reduceToNat, Nat.reducePow, reduceIte, reduceCtorEq])|((with_reducible first|refine jW ?hy ?_|refine jY ?hy ?_);case hy=>rfl)|((with_reducible first|refine jX ?hy ?_|refine jZ ?hy ?_);case hy=>rfl)|((with_reducible refine jF ?hy ?_);case hy=>decide))
 exact fin _ (Fr.trans ((Fr.refl _ _).push _) hf1)
theorem set_ok {K : Value → Heap → Prop} {x : Sp.Item} (hF : FoAt H f p g A nb N S) (hx : xs ∈ S.rows) (hk : k ∈ xs) (hx1 : Fits x) (hx2 : May x)
  (fin : ∀ H' N', FoAt H' f p g A nb N' ⟨fun i => if i = k then x else S.it i, S.rows⟩ → Fr (NB A nb) H H' → K (.int .i64 0) H') :
  CallsH Try.prog 77 #[.pointer (some ⟨f, 0, none⟩), .int .i64 k, x.val] H K := by
 have hb : mayB x = true := mayB_iff.2 hx2
 have hU := hF.u hx hk
 have row := hF.row hx
 have hF0 := hF.grow (H' := H.push (.cells #[.int .i64 x.value, .bool x.counts, .int .i64 x.flags] 79)) ((Fr.refl _ _).push _)
 have hblk := Blk.new H [.int .i64 x.value, .bool x.counts, .int .i64 x.flags] 79
 refine call77 (by simp) ?_
 simp only [Try.f77, Option.getD_some]
 repeat' (first|(with_reducible first|refine jA ?_|(refine hK _ _ ?_;clear hK K)|refine jJ fun K hK=>?_|refine jK ?_|refine jL ?_|refine jM ?_|refine jN ?_|refine jO ?_|refine jP ?_|refine jQ ?_|(refine jB ?_;clear hK K)|(refine jC ?_;clear hK K)|refine jD ?_|refine jE ?_|refine jG ?_|refine jH ?_|refine jI ?_)|((with_reducible refine jR ?hq ?_);case hq=>rfl)|((first|(with_reducible first|refine jS fun K hK=>?_|refine jT ?_|refine jU ?_)|((with_reducible refine jV ?hy fun K hK=>?_);case hy=>rfl));simp only [go_sem, Nat.reduceEqDiff, Nat.reduceAdd, Nat.reduceMul, Nat.reduceLeDiff, Nat.reduceLT, Int.reduceLT, Int.reduceLE, Int.reduceEq, Int.reduceNeg, Int.reduceToNat, Nat.reducePow, reduceIte, reduceCtorEq, Sp.Item.val, hcell_push, hcell_top, okW_push, okW_top, hcell_hset_ne, hcell_hset_off, hcell_hset_eq, okW_hset, hset_size, Array.size_push, Nat.lt_add_one, ne_add_one, add_one_ne, Nat.add_assoc, add_same, add_lt_same, Nat.reduceEqDiff, lt_add_k, add_k_ne, ne_add_k])|((with_reducible first|refine jW ?hy ?_|refine jY ?hy ?_);case hy=>rfl)|((with_reducible first|refine jX ?hy ?_|refine jZ ?hy ?_);case hy=>rfl)|((with_reducible refine jF ?hy ?_);case hy=>decide))
 refine node_ok hF0.mem hU ?_
 repeat' (first|(with_reducible first|refine jA ?_|(refine hK _ _ ?_;clear hK K)|refine jJ fun K hK=>?_|refine jK ?_|refine jL ?_|refine jM ?_|refine jN ?_|refine jO ?_|refine jP ?_|refine jQ ?_|(refine jB ?_;clear hK K)|(refine jC ?_;clear hK K)|refine jD ?_|refine jE ?_|refine jG ?_|refine jH ?_|refine jI ?_)|((with_reducible refine jR ?hq ?_);case hq=>rfl)|((first|(with_reducible first|refine jS fun K hK=>?_|refine jT ?_|refine jU ?_)|((with_reducible refine jV ?hy fun K hK=>?_);case hy=>rfl));simp only [go_sem, Nat.reduceEqDiff, Nat.reduceAdd, Nat.reduceMul, Nat.reduceLeDiff, Nat.reduceLT, Int.reduceLT, Int.reduceLE, Int.reduceEq, Int.reduceNeg, Int.reduceToNat, Nat.reducePow, reduceIte, reduceCtorEq, Sp.Item.val, hcell_push, hcell_top, okW_push, okW_top, hcell_hset_ne, hcell_hset_off, hcell_hset_eq, okW_hset, hset_size, Array.size_push, Nat.lt_add_one, ne_add_one, add_one_ne, Nat.add_assoc, add_same, add_lt_same, Nat.reduceEqDiff, lt_add_k, add_k_ne, ne_add_k])|((with_reducible first|refine jW ?hy ?_|refine jY ?hy ?_);case hy=>rfl)|((with_reducible first|refine jX ?hy ?_|refine jZ ?hy ?_);case hy=>rfl)|((with_reducible refine jF ?hy ?_);case hy=>decide))
 refine may_ok hx1 ?_
 intro H1 hf1
 rw [hb]
 have hF1 := hF0.grow hf1
 have hb1 := hblk.frame hf1 (fun h => h)
 repeat' (first|(with_reducible first|refine jA ?_|(refine hK _ _ ?_;clear hK K)|refine jJ fun K hK=>?_|refine jK ?_|refine jL ?_|refine jM ?_|refine jN ?_|refine jO ?_|refine jP ?_|refine jQ ?_|(refine jB ?_;clear hK K)|(refine jC ?_;clear hK K)|refine jD ?_|refine jE ?_|refine jG ?_|refine jH ?_|refine jI ?_)|((with_reducible refine jR ?hq ?_);case hq=>rfl)|((first|(with_reducible first|refine jS fun K hK=>?_|refine jT ?_|refine jU ?_)|((with_reducible refine jV ?hy fun K hK=>?_);case hy=>rfl));simp only [go_sem, Nat.reduceEqDiff, Nat.reduceAdd, Nat.reduceMul, Nat.reduceLeDiff, Nat.reduceLT, Int.reduceLT, Int.reduceLE, Int.reduceEq, Int.reduceNeg, Int.reduceToNat, Nat.reducePow, reduceIte, reduceCtorEq])|((with_reducible first|refine jW ?hy ?_|refine jY ?hy ?_);case hy=>rfl)|((with_reducible first|refine jX ?hy ?_|refine jZ ?hy ?_);case hy=>rfl)|((with_reducible refine jF ?hy ?_);case hy=>decide))
 refine splay_row hF1 hx hk (hF1.apart hx) ?_
 intro H2 N2 a b hF2 ht e hf2 hoff
 have hlt := (hF.mem.nd k hU).lt
 have hnb : ¬ NB A nb H.size := by
  rintro ⟨i, hi, ei⟩
  have := (hF.mem.nd i hi).lt
  omega
 have hb2 := hb1.frame hf2 hnb
 have q0 := hb2.cellOf (i := 0) rfl
 have q1 := hb2.cellOf (i := 1) rfl
 have q2 := hb2.cellOf (i := 2) rfl
 obtain ⟨wj, hF3, hf3⟩ := hF2.mem.item (x := x) hU
 have w0 := wj 0 (by omega)
 have w1 := wj 1 (by omega)
 have w2 := wj 2 (by omega)
 repeat' (first|(with_reducible first|refine jA ?_|(refine hK _ _ ?_;clear hK K)|refine jJ fun K hK=>?_|refine jK ?_|refine jL ?_|refine jM ?_|refine jN ?_|refine jO ?_|refine jP ?_|refine jQ ?_|(refine jB ?_;clear hK K)|(refine jC ?_;clear hK K)|refine jD ?_|refine jE ?_|refine jG ?_|refine jH ?_|refine jI ?_)|((with_reducible refine jR ?hq ?_);case hq=>rfl)|((first|(with_reducible first|refine jS fun K hK=>?_|refine jT ?_|refine jU ?_)|((with_reducible refine jV ?hy fun K hK=>?_);case hy=>rfl));simp only [go_sem, Nat.reduceEqDiff, Nat.reduceAdd, Nat.reduceMul, Nat.reduceLeDiff, Nat.reduceLT, Int.reduceLT, Int.reduceLE, Int.reduceEq, Int.reduceNeg, Int.reduceToNat, Nat.reducePow, reduceIte, reduceCtorEq, Sp.Item.val, q0, q1, q2, w0, w1, w2, okW_hset])|((with_reducible first|refine jW ?hy ?_|refine jY ?hy ?_);case hy=>rfl)|((with_reducible first|refine jX ?hy ?_|refine jZ ?hy ?_);case hy=>rfl)|((with_reducible refine jF ?hy ?_);case hy=>decide))
 refine pull_ok hF3 hU ?_
 intro H4 hF4 hf4
 repeat' (first|(with_reducible first|refine jA ?_|(refine hK _ _ ?_;clear hK K)|refine jJ fun K hK=>?_|refine jK ?_|refine jL ?_|refine jM ?_|refine jN ?_|refine jO ?_|refine jP ?_|refine jQ ?_|(refine jB ?_;clear hK K)|(refine jC ?_;clear hK K)|refine jD ?_|refine jE ?_|refine jG ?_|refine jH ?_|refine jI ?_)|((with_reducible refine jR ?hq ?_);case hq=>rfl)|((first|(with_reducible first|refine jS fun K hK=>?_|refine jT ?_|refine jU ?_)|((with_reducible refine jV ?hy fun K hK=>?_);case hy=>rfl));simp only [go_sem, Nat.reduceEqDiff, Nat.reduceAdd, Nat.reduceMul, Nat.reduceLeDiff, Nat.reduceLT, Int.reduceLT, Int.reduceLE, Int.reduceEq, Int.reduceNeg, Int.reduceToNat, Nat.reducePow, reduceIte, reduceCtorEq])|((with_reducible first|refine jW ?hy ?_|refine jY ?hy ?_);case hy=>rfl)|((with_reducible first|refine jX ?hy ?_|refine jZ ?hy ?_);case hy=>rfl)|((with_reducible refine jF ?hy ?_);case hy=>decide))
 have st := set_tree (x := x) ht (by rw [e]; exact row.nd) hx2 (fun i hi => row.may i (by rw [e] at hi; exact hi)) (by rw [e]; exact row.len)
 refine fin _ _ ⟨hF4, fun ys hy => ?_, hF.nodup, hF.use, fun i hi => ?_⟩ (((((Fr.refl (NB A nb) H).push _).trans (hf1.mono fun _ _ h => h.elim)).trans hf2).trans (hf3.trans hf4))
 ·rcases hF.apart hx ys hy with rfl | hd
  ·exact ⟨_, st.1, e⟩
  ·obtain ⟨t, h1, h2⟩ := hF2.trees ys hy
   have hni : ∀ i ∈ t.list, i ≠ k := fun i hi ei => hd i (by rw [← h2]; exact hi) (ei ▸ hk)
   exact ⟨t, (h1.congr fun i hi => st.2 i (hni i hi)).items fun i hi => if_neg (hni i hi), h2⟩
 ·by_cases ei : i = k
  ·simp only [ei, if_true]; exact hx2
  ·simp only [ei, if_false]; exact hF.may i hi
theorem at_none {K : Value → Heap → Prop} {i n : Int} (hF : FoAt H f p g A nb N S) (hi : ¬ ∃ k : Nat, i = (k : Int) ∧ k ∈ S.rows.flatten) (fin : K (.tuple #[.int .i64 0, .int .i64 31]) H) :
  CallsH Try.prog 69 #[.pointer (some ⟨f, 0, none⟩), .int .i64 i, .int .i64 n] H K := by
 refine call69 (by simp) ?_
 simp only [Try.f69, Option.getD_some]
 repeat' (first|(with_reducible first|refine jA ?_|(refine hK _ _ ?_;clear hK K)|refine jJ fun K hK=>?_|refine jK ?_|refine jL ?_|refine jM ?_|refine jN ?_|refine jO ?_|refine jP ?_|refine jQ ?_|(refine jB ?_;clear hK K)|(refine jC ?_;clear hK K)|refine jD ?_|refine jE ?_|refine jG ?_|refine jH ?_|refine jI ?_)|((with_reducible refine jR ?hq ?_);case hq=>rfl)|((first|(with_reducible first|refine jS fun K hK=>?_|refine jT ?_|refine jU ?_)|((with_reducible refine jV ?hy fun K hK=>?_);case hy=>rfl));simp only [go_sem, Nat.reduceEqDiff, Nat.reduceAdd, Nat.reduceMul, Nat.reduceLeDiff, Nat.reduceLT, Int.reduceLT, Int.reduceLE, Int.reduceEq, Int.reduceNeg, Int.reduceToNat, Nat.reducePow, reduceIte, reduceCtorEq])|((with_reducible first|refine jW ?hy ?_|refine jY ?hy ?_);case hy=>rfl)|((with_reducible first|refine jX ?hy ?_|refine jZ ?hy ?_);case hy=>rfl)|((with_reducible refine jF ?hy ?_);case hy=>decide))
 refine node_no hF.mem (hF.none hi) ?_
 repeat' (first|(with_reducible first|refine jA ?_|(refine hK _ _ ?_;clear hK K)|refine jJ fun K hK=>?_|refine jK ?_|refine jL ?_|refine jM ?_|refine jN ?_|refine jO ?_|refine jP ?_|refine jQ ?_|(refine jB ?_;clear hK K)|(refine jC ?_;clear hK K)|refine jD ?_|refine jE ?_|refine jG ?_|refine jH ?_|refine jI ?_)|((with_reducible refine jR ?hq ?_);case hq=>rfl)|((first|(with_reducible first|refine jS fun K hK=>?_|refine jT ?_|refine jU ?_)|((with_reducible refine jV ?hy fun K hK=>?_);case hy=>rfl));simp only [go_sem, Nat.reduceEqDiff, Nat.reduceAdd, Nat.reduceMul, Nat.reduceLeDiff, Nat.reduceLT, Int.reduceLT, Int.reduceLE, Int.reduceEq, Int.reduceNeg, Int.reduceToNat, Nat.reducePow, reduceIte, reduceCtorEq])|((with_reducible first|refine jW ?hy ?_|refine jY ?hy ?_);case hy=>rfl)|((with_reducible first|refine jX ?hy ?_|refine jZ ?hy ?_);case hy=>rfl)|((with_reducible refine jF ?hy ?_);case hy=>decide))
 exact fin
theorem at_bad {K : Value → Heap → Prop} {n : Int} (hF : FoAt H f p g A nb N S) (hx : xs ∈ S.rows) (hk : k ∈ xs) (hn : n < 0 ∨ (xs.length : Int) ≤ n) (fin : ∀ H' N', FoAt H' f p g A nb N' S → Fr (NB A nb) H H' → K (.tuple #[.int .i64 0, .int .i64 34]) H') :
  CallsH Try.prog 69 #[.pointer (some ⟨f, 0, none⟩), .int .i64 k, .int .i64 n] H K := by
 have hU := hF.u hx hk
 refine call69 (by simp) ?_
 simp only [Try.f69, Option.getD_some]
 repeat' (first|(with_reducible first|refine jA ?_|(refine hK _ _ ?_;clear hK K)|refine jJ fun K hK=>?_|refine jK ?_|refine jL ?_|refine jM ?_|refine jN ?_|refine jO ?_|refine jP ?_|refine jQ ?_|(refine jB ?_;clear hK K)|(refine jC ?_;clear hK K)|refine jD ?_|refine jE ?_|refine jG ?_|refine jH ?_|refine jI ?_)|((with_reducible refine jR ?hq ?_);case hq=>rfl)|((first|(with_reducible first|refine jS fun K hK=>?_|refine jT ?_|refine jU ?_)|((with_reducible refine jV ?hy fun K hK=>?_);case hy=>rfl));simp only [go_sem, Nat.reduceEqDiff, Nat.reduceAdd, Nat.reduceMul, Nat.reduceLeDiff, Nat.reduceLT, Int.reduceLT, Int.reduceLE, Int.reduceEq, Int.reduceNeg, Int.reduceToNat, Nat.reducePow, reduceIte, reduceCtorEq])|((with_reducible first|refine jW ?hy ?_|refine jY ?hy ?_);case hy=>rfl)|((with_reducible first|refine jX ?hy ?_|refine jZ ?hy ?_);case hy=>rfl)|((with_reducible refine jF ?hy ?_);case hy=>decide))
 refine node_ok hF.mem hU ?_
 repeat' (first|(with_reducible first|refine jA ?_|(refine hK _ _ ?_;clear hK K)|refine jJ fun K hK=>?_|refine jK ?_|refine jL ?_|refine jM ?_|refine jN ?_|refine jO ?_|refine jP ?_|refine jQ ?_|(refine jB ?_;clear hK K)|(refine jC ?_;clear hK K)|refine jD ?_|refine jE ?_|refine jG ?_|refine jH ?_|refine jI ?_)|((with_reducible refine jR ?hq ?_);case hq=>rfl)|((first|(with_reducible first|refine jS fun K hK=>?_|refine jT ?_|refine jU ?_)|((with_reducible refine jV ?hy fun K hK=>?_);case hy=>rfl));simp only [go_sem, Nat.reduceEqDiff, Nat.reduceAdd, Nat.reduceMul, Nat.reduceLeDiff, Nat.reduceLT, Int.reduceLT, Int.reduceLE, Int.reduceEq, Int.reduceNeg, Int.reduceToNat, Nat.reducePow, reduceIte, reduceCtorEq])|((with_reducible first|refine jW ?hy ?_|refine jY ?hy ?_);case hy=>rfl)|((with_reducible first|refine jX ?hy ?_|refine jZ ?hy ?_);case hy=>rfl)|((with_reducible refine jF ?hy ?_);case hy=>decide))
 refine splay_row hF hx hk (hF.apart hx) ?_
 intro H2 N2 a b hF2 ht e hf hoff
 have c6 := (hF2.mem.nd k hU).cellOf (i := 6) rfl
 have em : (N2 k).many = (xs.length : Int) := by
  obtain ⟨_, ek, _⟩ := ht
  rw [ek, ← e]; rfl
 rw [em] at c6
 by_cases h0 : n < 0
 ·have t1 : (n < 0) = True := by simp [h0]
  repeat' (first|(with_reducible first|refine jA ?_|(refine hK _ _ ?_;clear hK K)|refine jJ fun K hK=>?_|refine jK ?_|refine jL ?_|refine jM ?_|refine jN ?_|refine jO ?_|refine jP ?_|refine jQ ?_|(refine jB ?_;clear hK K)|(refine jC ?_;clear hK K)|refine jD ?_|refine jE ?_|refine jG ?_|refine jH ?_|refine jI ?_)|((with_reducible refine jR ?hq ?_);case hq=>rfl)|((first|(with_reducible first|refine jS fun K hK=>?_|refine jT ?_|refine jU ?_)|((with_reducible refine jV ?hy fun K hK=>?_);case hy=>rfl));simp only [go_sem, Nat.reduceEqDiff, Nat.reduceAdd, Nat.reduceMul, Nat.reduceLeDiff, Nat.reduceLT, Int.reduceLT, Int.reduceLE, Int.reduceEq, Int.reduceNeg, Int.reduceToNat, Nat.reducePow, reduceIte, reduceCtorEq, t1])|((with_reducible first|refine jW ?hy ?_|refine jY ?hy ?_);case hy=>rfl)|((with_reducible first|refine jX ?hy ?_|refine jZ ?hy ?_);case hy=>rfl)|((with_reducible refine jF ?hy ?_);case hy=>decide))
  exact fin _ _ hF2 hf
 ·have t1 : (n < 0) = False := by simp [h0]
  have t2 : ((xs.length : Int) ≤ n) = True := by simp; omega
  repeat' (first|(with_reducible first|refine jA ?_|(refine hK _ _ ?_;clear hK K)|refine jJ fun K hK=>?_|refine jK ?_|refine jL ?_|refine jM ?_|refine jN ?_|refine jO ?_|refine jP ?_|refine jQ ?_|(refine jB ?_;clear hK K)|(refine jC ?_;clear hK K)|refine jD ?_|refine jE ?_|refine jG ?_|refine jH ?_|refine jI ?_)|((with_reducible refine jR ?hq ?_);case hq=>rfl)|((first|(with_reducible first|refine jS fun K hK=>?_|refine jT ?_|refine jU ?_)|((with_reducible refine jV ?hy fun K hK=>?_);case hy=>rfl));simp only [go_sem, Nat.reduceEqDiff, Nat.reduceAdd, Nat.reduceMul, Nat.reduceLeDiff, Nat.reduceLT, Int.reduceLT, Int.reduceLE, Int.reduceEq, Int.reduceNeg, Int.reduceToNat, Nat.reducePow, reduceIte, reduceCtorEq, t1])|((with_reducible first|refine jW ?hy ?_|refine jY ?hy ?_);case hy=>rfl)|((with_reducible first|refine jX ?hy ?_|refine jZ ?hy ?_);case hy=>rfl)|((with_reducible refine jF ?hy ?_);case hy=>decide))
  refine node_ok hF2.mem hU ?_
  repeat' (first|(with_reducible first|refine jA ?_|(refine hK _ _ ?_;clear hK K)|refine jJ fun K hK=>?_|refine jK ?_|refine jL ?_|refine jM ?_|refine jN ?_|refine jO ?_|refine jP ?_|refine jQ ?_|(refine jB ?_;clear hK K)|(refine jC ?_;clear hK K)|refine jD ?_|refine jE ?_|refine jG ?_|refine jH ?_|refine jI ?_)|((with_reducible refine jR ?hq ?_);case hq=>rfl)|((first|(with_reducible first|refine jS fun K hK=>?_|refine jT ?_|refine jU ?_)|((with_reducible refine jV ?hy fun K hK=>?_);case hy=>rfl));simp only [go_sem, Nat.reduceEqDiff, Nat.reduceAdd, Nat.reduceMul, Nat.reduceLeDiff, Nat.reduceLT, Int.reduceLT, Int.reduceLE, Int.reduceEq, Int.reduceNeg, Int.reduceToNat, Nat.reducePow, reduceIte, reduceCtorEq, c6, t2])|((with_reducible first|refine jW ?hy ?_|refine jY ?hy ?_);case hy=>rfl)|((with_reducible first|refine jX ?hy ?_|refine jZ ?hy ?_);case hy=>rfl)|((with_reducible refine jF ?hy ?_);case hy=>decide))
  exact fin _ _ hF2 hf
theorem at_ok {K : Value → Heap → Prop} {n : Nat} (hF : FoAt H f p g A nb N S) (hx : xs ∈ S.rows) (hk : k ∈ xs) (hn : xs[n]? = some j) (fin : ∀ H' N', FoAt H' f p g A nb N' S → Fr (NB A nb) H H' → K (.tuple #[.int .i64 j, .int .i64 0]) H') :
  CallsH Try.prog 69 #[.pointer (some ⟨f, 0, none⟩), .int .i64 k, .int .i64 (n : Nat)] H K := by
 have hU := hF.u hx hk
 have hlt := (List.getElem?_eq_some_iff.1 hn).1
 have hjx := List.mem_of_getElem? hn
 refine call69 (by simp) ?_
 simp only [Try.f69, Option.getD_some]
 repeat' (first|(with_reducible first|refine jA ?_|(refine hK _ _ ?_;clear hK K)|refine jJ fun K hK=>?_|refine jK ?_|refine jL ?_|refine jM ?_|refine jN ?_|refine jO ?_|refine jP ?_|refine jQ ?_|(refine jB ?_;clear hK K)|(refine jC ?_;clear hK K)|refine jD ?_|refine jE ?_|refine jG ?_|refine jH ?_|refine jI ?_)|((with_reducible refine jR ?hq ?_);case hq=>rfl)|((first|(with_reducible first|refine jS fun K hK=>?_|refine jT ?_|refine jU ?_)|((with_reducible refine jV ?hy fun K hK=>?_);case hy=>rfl));simp only [go_sem, Nat.reduceEqDiff, Nat.reduceAdd, Nat.reduceMul, Nat.reduceLeDiff, Nat.reduceLT, Int.reduceLT, Int.reduceLE, Int.reduceEq, Int.reduceNeg, Int.reduceToNat, Nat.reducePow, reduceIte, reduceCtorEq])|((with_reducible first|refine jW ?hy ?_|refine jY ?hy ?_);case hy=>rfl)|((with_reducible first|refine jX ?hy ?_|refine jZ ?hy ?_);case hy=>rfl)|((with_reducible refine jF ?hy ?_);case hy=>decide))
 refine node_ok hF.mem hU ?_
 repeat' (first|(with_reducible first|refine jA ?_|(refine hK _ _ ?_;clear hK K)|refine jJ fun K hK=>?_|refine jK ?_|refine jL ?_|refine jM ?_|refine jN ?_|refine jO ?_|refine jP ?_|refine jQ ?_|(refine jB ?_;clear hK K)|(refine jC ?_;clear hK K)|refine jD ?_|refine jE ?_|refine jG ?_|refine jH ?_|refine jI ?_)|((with_reducible refine jR ?hq ?_);case hq=>rfl)|((first|(with_reducible first|refine jS fun K hK=>?_|refine jT ?_|refine jU ?_)|((with_reducible refine jV ?hy fun K hK=>?_);case hy=>rfl));simp only [go_sem, Nat.reduceEqDiff, Nat.reduceAdd, Nat.reduceMul, Nat.reduceLeDiff, Nat.reduceLT, Int.reduceLT, Int.reduceLE, Int.reduceEq, Int.reduceNeg, Int.reduceToNat, Nat.reducePow, reduceIte, reduceCtorEq])|((with_reducible first|refine jW ?hy ?_|refine jY ?hy ?_);case hy=>rfl)|((with_reducible first|refine jX ?hy ?_|refine jZ ?hy ?_);case hy=>rfl)|((with_reducible refine jF ?hy ?_);case hy=>decide))
 refine splay_row hF hx hk (hF.apart hx) ?_
 intro H2 N2 a b hF2 ht e hf hoff
 have c6 := (hF2.mem.nd k hU).cellOf (i := 6) rfl
 have em : (N2 k).many = (xs.length : Int) := by
  obtain ⟨_, ek, _⟩ := ht
  rw [ek, ← e]; rfl
 rw [em] at c6
 have t1 : ((n : Int) < 0) = False := by simp
 have t2 : (xs.length ≤ n) = False := by simp; omega
 repeat' (first|(with_reducible first|refine jA ?_|(refine hK _ _ ?_;clear hK K)|refine jJ fun K hK=>?_|refine jK ?_|refine jL ?_|refine jM ?_|refine jN ?_|refine jO ?_|refine jP ?_|refine jQ ?_|(refine jB ?_;clear hK K)|(refine jC ?_;clear hK K)|refine jD ?_|refine jE ?_|refine jG ?_|refine jH ?_|refine jI ?_)|((with_reducible refine jR ?hq ?_);case hq=>rfl)|((first|(with_reducible first|refine jS fun K hK=>?_|refine jT ?_|refine jU ?_)|((with_reducible refine jV ?hy fun K hK=>?_);case hy=>rfl));simp only [go_sem, Nat.reduceEqDiff, Nat.reduceAdd, Nat.reduceMul, Nat.reduceLeDiff, Nat.reduceLT, Int.reduceLT, Int.reduceLE, Int.reduceEq, Int.reduceNeg, Int.reduceToNat, Nat.reducePow, reduceIte, reduceCtorEq, t1])|((with_reducible first|refine jW ?hy ?_|refine jY ?hy ?_);case hy=>rfl)|((with_reducible first|refine jX ?hy ?_|refine jZ ?hy ?_);case hy=>rfl)|((with_reducible refine jF ?hy ?_);case hy=>decide))
 refine node_ok hF2.mem hU ?_
 repeat' (first|(with_reducible first|refine jA ?_|(refine hK _ _ ?_;clear hK K)|refine jJ fun K hK=>?_|refine jK ?_|refine jL ?_|refine jM ?_|refine jN ?_|refine jO ?_|refine jP ?_|refine jQ ?_|(refine jB ?_;clear hK K)|(refine jC ?_;clear hK K)|refine jD ?_|refine jE ?_|refine jG ?_|refine jH ?_|refine jI ?_)|((with_reducible refine jR ?hq ?_);case hq=>rfl)|((first|(with_reducible first|refine jS fun K hK=>?_|refine jT ?_|refine jU ?_)|((with_reducible refine jV ?hy fun K hK=>?_);case hy=>rfl));simp only [go_sem, Nat.reduceEqDiff, Nat.reduceAdd, Nat.reduceMul, Nat.reduceLeDiff, Nat.reduceLT, Int.reduceLT, Int.reduceLE, Int.reduceEq, Int.reduceNeg, Int.reduceToNat, Nat.reducePow, reduceIte, reduceCtorEq, c6, t2])|((with_reducible first|refine jW ?hy ?_|refine jY ?hy ?_);case hy=>rfl)|((with_reducible first|refine jX ?hy ?_|refine jZ ?hy ?_);case hy=>rfl)|((with_reducible refine jF ?hy ?_);case hy=>decide))
 refine x_loop (fun m e' H' => ∃ (t : Tr) (up n' : Nat), FoAt H' f p g A nb N2 S ∧ Fr (NB A nb) H H' ∧ e' 1 = .int .i64 (t.root : Nat) ∧ e' 2 = .int .i64 (n' : Nat) ∧ TrAt N2 S.it up t ∧ (∀ i ∈ t.list, i ∈ xs) ∧ t.list[n']? = some j ∧ n' ≤ 4096 ∧ t.list.length ≤ 4096 ∧ m = t.list.length)
  xs.length ⟨.node a k b, 0, n, hF2, hf, rfl, rfl, ht, fun i hi => by rw [← e]; exact hi, by rw [← hn, ← e]; rfl, by have := (hF.row hx).len; omega, ?_, ?_⟩ ?_
 ·have := (hF.row hx).len; rw [← e] at this; exact this
 ·rw [← e]; rfl
 rintro m e1 H3 ⟨t, up, n', hF3, hf3, e1', e2', ht3, hsub, hn3, hb1, hb2, rfl⟩ hoff3
 have e0 := (hoff3 0 rfl).trans rfl
 clear hoff3
 cases t with
 | nil => cases hn3
 | node l h r =>
  simp only [Tr.root] at e1'
  have hUh := hF.u hx (hsub h (by simp [Tr.list]))
  have c4 := (hF3.mem.nd h hUh).cellOf (i := 4) rfl
  have hlen : l.list.length < 4096 := by simp [Tr.list] at hb2; omega
  obtain ⟨q1, q2, q3, q4⟩ := ht3
  have el : (N2 h).l = l.root := by rw [q2]; rfl
  have er : (N2 h).r = r.root := by rw [q2]; rfl
  have hbel : belowN N2 (N2 h).l = ((l.list.length : Int), aggOf S.it l.list) := by rw [el]; exact q3.below
  repeat' (first|(with_reducible first|refine jA ?_|(refine hK _ _ ?_;clear hK K)|refine jJ fun K hK=>?_|refine jK ?_|refine jL ?_|refine jM ?_|refine jN ?_|refine jO ?_|refine jP ?_|refine jQ ?_|(refine jB ?_;clear hK K)|(refine jC ?_;clear hK K)|refine jD ?_|refine jE ?_|refine jG ?_|refine jH ?_|refine jI ?_)|((with_reducible refine jR ?hq ?_);case hq=>rfl)|((first|(with_reducible first|refine jS fun K hK=>?_|refine jT ?_|refine jU ?_)|((with_reducible refine jV ?hy fun K hK=>?_);case hy=>rfl));simp only [go_sem, Nat.reduceEqDiff, Nat.reduceAdd, Nat.reduceMul, Nat.reduceLeDiff, Nat.reduceLT, Int.reduceLT, Int.reduceLE, Int.reduceEq, Int.reduceNeg, Int.reduceToNat, Nat.reducePow, reduceIte, reduceCtorEq, e0, e1', e2'])|((with_reducible first|refine jW ?hy ?_|refine jY ?hy ?_);case hy=>rfl)|((with_reducible first|refine jX ?hy ?_|refine jZ ?hy ?_);case hy=>rfl)|((with_reducible refine jF ?hy ?_);case hy=>decide))
  refine node_ok hF3.mem hUh ?_
  repeat' (first|(with_reducible first|refine jA ?_|(refine hK _ _ ?_;clear hK K)|refine jJ fun K hK=>?_|refine jK ?_|refine jL ?_|refine jM ?_|refine jN ?_|refine jO ?_|refine jP ?_|refine jQ ?_|(refine jB ?_;clear hK K)|(refine jC ?_;clear hK K)|refine jD ?_|refine jE ?_|refine jG ?_|refine jH ?_|refine jI ?_)|((with_reducible refine jR ?hq ?_);case hq=>rfl)|((first|(with_reducible first|refine jS fun K hK=>?_|refine jT ?_|refine jU ?_)|((with_reducible refine jV ?hy fun K hK=>?_);case hy=>rfl));simp only [go_sem, Nat.reduceEqDiff, Nat.reduceAdd, Nat.reduceMul, Nat.reduceLeDiff, Nat.reduceLT, Int.reduceLT, Int.reduceLE, Int.reduceEq, Int.reduceNeg, Int.reduceToNat, Nat.reducePow, reduceIte, reduceCtorEq, e0, e1', e2', c4])|((with_reducible first|refine jW ?hy ?_|refine jY ?hy ?_);case hy=>rfl)|((with_reducible first|refine jX ?hy ?_|refine jZ ?hy ?_);case hy=>rfl)|((with_reducible refine jF ?hy ?_);case hy=>decide))
  refine below_ok hF3.mem (hF3.mem.cl.l h hUh) ?_
  intro H4 hf4
  rw [hbel]
  have hF4 := hF3.grow hf4
  simp only [Tr.list] at hn3
  by_cases h1 : n' < l.list.length
  ·have t3 : (n' < l.list.length) = True := by simp [h1]
   repeat' (first|(with_reducible first|refine jA ?_|(refine hK _ _ ?_;clear hK K)|refine jJ fun K hK=>?_|refine jK ?_|refine jL ?_|refine jM ?_|refine jN ?_|refine jO ?_|refine jP ?_|refine jQ ?_|(refine jB ?_;clear hK K)|(refine jC ?_;clear hK K)|refine jD ?_|refine jE ?_|refine jG ?_|refine jH ?_|refine jI ?_)|((with_reducible refine jR ?hq ?_);case hq=>rfl)|((first|(with_reducible first|refine jS fun K hK=>?_|refine jT ?_|refine jU ?_)|((with_reducible refine jV ?hy fun K hK=>?_);case hy=>rfl));simp only [go_sem, Nat.reduceEqDiff, Nat.reduceAdd, Nat.reduceMul, Nat.reduceLeDiff, Nat.reduceLT, Int.reduceLT, Int.reduceLE, Int.reduceEq, Int.reduceNeg, Int.reduceToNat, Nat.reducePow, reduceIte, reduceCtorEq, Agg.val, e0, e1', e2', t3, hcell_push, hcell_top, okW_push, okW_top, hcell_hset_ne, hcell_hset_off, hcell_hset_eq, okW_hset, hset_size, Array.size_push, Nat.lt_add_one, ne_add_one, add_one_ne, Nat.add_assoc, add_same, add_lt_same, Nat.reduceEqDiff, lt_add_k, add_k_ne, ne_add_k])|((with_reducible first|refine jW ?hy ?_|refine jY ?hy ?_);case hy=>rfl)|((with_reducible first|refine jX ?hy ?_|refine jZ ?hy ?_);case hy=>rfl)|((with_reducible refine jF ?hy ?_);case hy=>decide))
   generalize hH5 : hset _ _ _ = H5
   have hf5 : Fr (fun _ => False) H4 H5 := by rw [← hH5]; exact (by ((repeat (first | refine Fr.set ?_ (by simp) _ | refine Fr.push ?_ _)); exact Fr.refl _ _))
   clear hH5
   have hF5 := hF4.grow hf5
   have c4 := (hF5.mem.nd h hUh).cellOf (i := 4) rfl
   rw [el] at c4
   simp only [go_sem, Nat.reduceEqDiff, Nat.reduceAdd, Nat.reduceMul, Nat.reduceLeDiff, Nat.reduceLT, Int.reduceLT, Int.reduceLE, Int.reduceEq, Int.reduceNeg, Int.reduceToNat, Nat.reducePow, reduceIte, reduceCtorEq, c4]
   repeat' (first|(with_reducible first|refine jA ?_|(refine hK _ _ ?_;clear hK K)|refine jJ fun K hK=>?_|refine jK ?_|refine jL ?_|refine jM ?_|refine jN ?_|refine jO ?_|refine jP ?_|refine jQ ?_|(refine jB ?_;clear hK K)|(refine jC ?_;clear hK K)|refine jD ?_|refine jE ?_|refine jG ?_|refine jH ?_|refine jI ?_)|((with_reducible refine jR ?hq ?_);case hq=>rfl)|((first|(with_reducible first|refine jS fun K hK=>?_|refine jT ?_|refine jU ?_)|((with_reducible refine jV ?hy fun K hK=>?_);case hy=>rfl));simp only [go_sem, Nat.reduceEqDiff, Nat.reduceAdd, Nat.reduceMul, Nat.reduceLeDiff, Nat.reduceLT, Int.reduceLT, Int.reduceLE, Int.reduceEq, Int.reduceNeg, Int.reduceToNat, Nat.reducePow, reduceIte, reduceCtorEq, e0, e1', e2', t3, c4])|((with_reducible first|refine jW ?hy ?_|refine jY ?hy ?_);case hy=>rfl)|((with_reducible first|refine jX ?hy ?_|refine jZ ?hy ?_);case hy=>rfl)|((with_reducible refine jF ?hy ?_);case hy=>decide))
   refine loop_normal (m' := l.list.length) (by simp [Tr.list] <;> omega) ⟨l, h, n', hF5, (hf3.trans (hf4.mono fun _ _ h => h.elim)).trans (hf5.mono fun _ _ h => h.elim), rfl, e2', q3, fun i hi => hsub i (by simp [Tr.list, hi]), ?_, hb1, by omega, rfl⟩
   rw [List.getElem?_append_left h1] at hn3
   exact hn3
  ·have t3 : (n' < l.list.length) = False := by simp; omega
   rw [List.getElem?_append_right (by omega)] at hn3
   by_cases h2 : l.list.length < n'
   ·have t4 : (l.list.length < n') = True := by simp [h2]
    have ew : IntKind.i64.wrap ((l.list.length : Int) + 1) = ((l.list.length + 1 : Nat) : Int) := by rw [wrap_i64] <;> omega
    have ew2 : IntKind.i64.wrap ((n' : Int) - ((l.list.length + 1 : Nat) : Int)) = ((n' - (l.list.length + 1) : Nat) : Int) := by rw [wrap_i64] <;> omega
    repeat' (first|(with_reducible first|refine jA ?_|(refine hK _ _ ?_;clear hK K)|refine jJ fun K hK=>?_|refine jK ?_|refine jL ?_|refine jM ?_|refine jN ?_|refine jO ?_|refine jP ?_|refine jQ ?_|(refine jB ?_;clear hK K)|(refine jC ?_;clear hK K)|refine jD ?_|refine jE ?_|refine jG ?_|refine jH ?_|refine jI ?_)|((with_reducible refine jR ?hq ?_);case hq=>rfl)|((first|(with_reducible first|refine jS fun K hK=>?_|refine jT ?_|refine jU ?_)|((with_reducible refine jV ?hy fun K hK=>?_);case hy=>rfl));simp only [go_sem, Nat.reduceEqDiff, Nat.reduceAdd, Nat.reduceMul, Nat.reduceLeDiff, Nat.reduceLT, Int.reduceLT, Int.reduceLE, Int.reduceEq, Int.reduceNeg, Int.reduceToNat, Nat.reducePow, reduceIte, reduceCtorEq, Agg.val, e0, e1', e2', t3, t4, ew, ew2, hcell_push, hcell_top, okW_push, okW_top, hcell_hset_ne, hcell_hset_off, hcell_hset_eq, okW_hset, hset_size, Array.size_push, Nat.lt_add_one, ne_add_one, add_one_ne, Nat.add_assoc, add_same, add_lt_same, Nat.reduceEqDiff, lt_add_k, add_k_ne, ne_add_k])|((with_reducible first|refine jW ?hy ?_|refine jY ?hy ?_);case hy=>rfl)|((with_reducible first|refine jX ?hy ?_|refine jZ ?hy ?_);case hy=>rfl)|((with_reducible refine jF ?hy ?_);case hy=>decide))
    generalize hH5 : hset _ _ _ = H5
    have hf5 : Fr (fun _ => False) H4 H5 := by rw [← hH5]; exact (by ((repeat (first | refine Fr.set ?_ (by simp) _ | refine Fr.push ?_ _)); exact Fr.refl _ _))
    clear hH5
    have hF5 := hF4.grow hf5
    have c5 := (hF5.mem.nd h hUh).cellOf (i := 5) rfl
    rw [er] at c5
    simp only [go_sem, Nat.reduceEqDiff, Nat.reduceAdd, Nat.reduceMul, Nat.reduceLeDiff, Nat.reduceLT, Int.reduceLT, Int.reduceLE, Int.reduceEq, Int.reduceNeg, Int.reduceToNat, Nat.reducePow, reduceIte, reduceCtorEq, c5]
    repeat' (first|(with_reducible first|refine jA ?_|(refine hK _ _ ?_;clear hK K)|refine jJ fun K hK=>?_|refine jK ?_|refine jL ?_|refine jM ?_|refine jN ?_|refine jO ?_|refine jP ?_|refine jQ ?_|(refine jB ?_;clear hK K)|(refine jC ?_;clear hK K)|refine jD ?_|refine jE ?_|refine jG ?_|refine jH ?_|refine jI ?_)|((with_reducible refine jR ?hq ?_);case hq=>rfl)|((first|(with_reducible first|refine jS fun K hK=>?_|refine jT ?_|refine jU ?_)|((with_reducible refine jV ?hy fun K hK=>?_);case hy=>rfl));simp only [go_sem, Nat.reduceEqDiff, Nat.reduceAdd, Nat.reduceMul, Nat.reduceLeDiff, Nat.reduceLT, Int.reduceLT, Int.reduceLE, Int.reduceEq, Int.reduceNeg, Int.reduceToNat, Nat.reducePow, reduceIte, reduceCtorEq, e0, e1', e2', t3, t4, c5, ew, ew2])|((with_reducible first|refine jW ?hy ?_|refine jY ?hy ?_);case hy=>rfl)|((with_reducible first|refine jX ?hy ?_|refine jZ ?hy ?_);case hy=>rfl)|((with_reducible refine jF ?hy ?_);case hy=>decide))
    refine loop_normal (m' := r.list.length) (by simp [Tr.list] <;> omega) ⟨r, h, n' - (l.list.length + 1), hF5, (hf3.trans (hf4.mono fun _ _ h => h.elim)).trans (hf5.mono fun _ _ h => h.elim), rfl, rfl, q4, fun i hi => hsub i (by simp [Tr.list, hi]), ?_, by omega, by simp [Tr.list] at hb2; omega, rfl⟩
    rw [show n' - l.list.length = (n' - (l.list.length + 1)) + 1 by omega, List.getElem?_cons_succ] at hn3
    exact hn3
   ·have t4 : (l.list.length < n') = False := by simp; omega
    have e0' : n' - l.list.length = 0 := by omega
    rw [e0'] at hn3
    have hjh : h = j := by simpa using hn3
    subst hjh
    repeat' (first|(with_reducible first|refine jA ?_|(refine hK _ _ ?_;clear hK K)|refine jJ fun K hK=>?_|refine jK ?_|refine jL ?_|refine jM ?_|refine jN ?_|refine jO ?_|refine jP ?_|refine jQ ?_|(refine jB ?_;clear hK K)|(refine jC ?_;clear hK K)|refine jD ?_|refine jE ?_|refine jG ?_|refine jH ?_|refine jI ?_)|((with_reducible refine jR ?hq ?_);case hq=>rfl)|((first|(with_reducible first|refine jS fun K hK=>?_|refine jT ?_|refine jU ?_)|((with_reducible refine jV ?hy fun K hK=>?_);case hy=>rfl));simp only [go_sem, Nat.reduceEqDiff, Nat.reduceAdd, Nat.reduceMul, Nat.reduceLeDiff, Nat.reduceLT, Int.reduceLT, Int.reduceLE, Int.reduceEq, Int.reduceNeg, Int.reduceToNat, Nat.reducePow, reduceIte, reduceCtorEq, Agg.val, e0, e1', e2', t3, t4, hcell_push, hcell_top, okW_push, okW_top, hcell_hset_ne, hcell_hset_off, hcell_hset_eq, okW_hset, hset_size, Array.size_push, Nat.lt_add_one, ne_add_one, add_one_ne, Nat.add_assoc, add_same, add_lt_same, Nat.reduceEqDiff, lt_add_k, add_k_ne, ne_add_k])|((with_reducible first|refine jW ?hy ?_|refine jY ?hy ?_);case hy=>rfl)|((with_reducible first|refine jX ?hy ?_|refine jZ ?hy ?_);case hy=>rfl)|((with_reducible refine jF ?hy ?_);case hy=>decide))
    generalize hH5 : hset _ _ _ = H5
    have hf5 : Fr (fun _ => False) H4 H5 := by rw [← hH5]; exact (by ((repeat (first | refine Fr.set ?_ (by simp) _ | refine Fr.push ?_ _)); exact Fr.refl _ _))
    clear hH5
    have hF5 := hF4.grow hf5
    repeat' (first|(with_reducible first|refine jA ?_|(refine hK _ _ ?_;clear hK K)|refine jJ fun K hK=>?_|refine jK ?_|refine jL ?_|refine jM ?_|refine jN ?_|refine jO ?_|refine jP ?_|refine jQ ?_|(refine jB ?_;clear hK K)|(refine jC ?_;clear hK K)|refine jD ?_|refine jE ?_|refine jG ?_|refine jH ?_|refine jI ?_)|((with_reducible refine jR ?hq ?_);case hq=>rfl)|((first|(with_reducible first|refine jS fun K hK=>?_|refine jT ?_|refine jU ?_)|((with_reducible refine jV ?hy fun K hK=>?_);case hy=>rfl));simp only [go_sem, Nat.reduceEqDiff, Nat.reduceAdd, Nat.reduceMul, Nat.reduceLeDiff, Nat.reduceLT, Int.reduceLT, Int.reduceLE, Int.reduceEq, Int.reduceNeg, Int.reduceToNat, Nat.reducePow, reduceIte, reduceCtorEq, e0, e1', e2', t3, t4])|((with_reducible first|refine jW ?hy ?_|refine jY ?hy ?_);case hy=>rfl)|((with_reducible first|refine jX ?hy ?_|refine jZ ?hy ?_);case hy=>rfl)|((with_reducible refine jF ?hy ?_);case hy=>decide))
    refine splay_row hF5 hx hjx (hF5.apart hx) ?_
    intro H6 N6 a6 b6 hF6 ht6 e6 hf6 hoff6
    repeat' (first|(with_reducible first|refine jA ?_|(refine hK _ _ ?_;clear hK K)|refine jJ fun K hK=>?_|refine jK ?_|refine jL ?_|refine jM ?_|refine jN ?_|refine jO ?_|refine jP ?_|refine jQ ?_|(refine jB ?_;clear hK K)|(refine jC ?_;clear hK K)|refine jD ?_|refine jE ?_|refine jG ?_|refine jH ?_|refine jI ?_)|((with_reducible refine jR ?hq ?_);case hq=>rfl)|((first|(with_reducible first|refine jS fun K hK=>?_|refine jT ?_|refine jU ?_)|((with_reducible refine jV ?hy fun K hK=>?_);case hy=>rfl));simp only [go_sem, Nat.reduceEqDiff, Nat.reduceAdd, Nat.reduceMul, Nat.reduceLeDiff, Nat.reduceLT, Int.reduceLT, Int.reduceLE, Int.reduceEq, Int.reduceNeg, Int.reduceToNat, Nat.reducePow, reduceIte, reduceCtorEq, e1'])|((with_reducible first|refine jW ?hy ?_|refine jY ?hy ?_);case hy=>rfl)|((with_reducible first|refine jX ?hy ?_|refine jZ ?hy ?_);case hy=>rfl)|((with_reducible refine jF ?hy ?_);case hy=>decide))
    exact fin _ _ hF6 (((hf3.trans (hf4.mono fun _ _ h => h.elim)).trans (hf5.mono fun _ _ h => h.elim)).trans hf6)
end
end Go.Proofs.Ytnlafhnbakipmaa
namespace Go.Sp
open Go Go.Hp
set_option linter.unusedVariables false
def hasF (it : Nat → Item) (fl : Nat) (i : Nat) : Bool := decide ((it i).flags.toNat &&& fl ≠ 0)
def firstF (it : Nat → Item) (fl : Nat) (l : List Nat) : Option Nat := l.find? (hasF it fl)
theorem firstF_none {it : Nat → Item} {fl : Nat} {l : List Nat} : firstF it fl l = none ↔ flagsL (l.map it) &&& fl = 0 := by
 unfold firstF
 rw [flagsL_and, List.find?_eq_none]
 simp [hasF]
end Go.Sp
namespace Go.Proofs.Ytnlafhnbakipmaa
open Go Go.Hp Go.Sp
set_option linter.all false
set_option maxRecDepth 100000
set_option maxHeartbeats 1600000

section
variable {H H' : Heap} {f p g : Nat} {A : Ar} {nb : Nat → Nat} {N : Nodes} {S : Fo} {xs ys : List Nat} {k j : Nat} {R : List (List Nat)}
theorem flagged_none {K : Value → Heap → Prop} {i n : Int} (hF : FoAt H f p g A nb N S) (hi : ¬ ∃ k : Nat, i = (k : Int) ∧ k ∈ S.rows.flatten) (fin : K (.tuple #[.int .i64 0, .int .i64 31]) H) :
  CallsH Try.prog 49 #[.pointer (some ⟨f, 0, none⟩), .int .i64 i, .int .i64 n] H K := by
 refine call49 (by simp) ?_
 simp only [Try.f49, Option.getD_some]
 repeat' (first|(with_reducible first|refine jA ?_|(refine hK _ _ ?_;clear hK K)|refine jJ fun K hK=>?_|refine jK ?_|refine jL ?_|refine jM ?_|refine jN ?_|refine jO ?_|refine jP ?_|refine jQ ?_|(refine jB ?_;clear hK K)|(refine jC ?_;clear hK K)|refine jD ?_|refine jE ?_|refine jG ?_|refine jH ?_|refine jI ?_)|((with_reducible refine jR ?hq ?_);case hq=>rfl)|((first|(with_reducible first|refine jS fun K hK=>?_|refine jT ?_|refine jU ?_)|((with_reducible refine jV ?hy fun K hK=>?_);case hy=>rfl));simp only [go_sem, Nat.reduceEqDiff, Nat.reduceAdd, Nat.reduceMul, Nat.reduceLeDiff, Nat.reduceLT, Int.reduceLT, Int.reduceLE, Int.reduceEq, Int.reduceNeg, Int.reduceToNat, Nat.reducePow, reduceIte, reduceCtorEq])|((with_reducible first|refine jW ?hy ?_|refine jY ?hy ?_);case hy=>rfl)|((with_reducible first|refine jX ?hy ?_|refine jZ ?hy ?_);case hy=>rfl)|((with_reducible refine jF ?hy ?_);case hy=>decide))
 refine node_no hF.mem (hF.none hi) ?_
 repeat' (first|(with_reducible first|refine jA ?_|(refine hK _ _ ?_;clear hK K)|refine jJ fun K hK=>?_|refine jK ?_|refine jL ?_|refine jM ?_|refine jN ?_|refine jO ?_|refine jP ?_|refine jQ ?_|(refine jB ?_;clear hK K)|(refine jC ?_;clear hK K)|refine jD ?_|refine jE ?_|refine jG ?_|refine jH ?_|refine jI ?_)|((with_reducible refine jR ?hq ?_);case hq=>rfl)|((first|(with_reducible first|refine jS fun K hK=>?_|refine jT ?_|refine jU ?_)|((with_reducible refine jV ?hy fun K hK=>?_);case hy=>rfl));simp only [go_sem, Nat.reduceEqDiff, Nat.reduceAdd, Nat.reduceMul, Nat.reduceLeDiff, Nat.reduceLT, Int.reduceLT, Int.reduceLE, Int.reduceEq, Int.reduceNeg, Int.reduceToNat, Nat.reducePow, reduceIte, reduceCtorEq])|((with_reducible first|refine jW ?hy ?_|refine jY ?hy ?_);case hy=>rfl)|((with_reducible first|refine jX ?hy ?_|refine jZ ?hy ?_);case hy=>rfl)|((with_reducible refine jF ?hy ?_);case hy=>decide))
 exact fin
theorem flagged_bad {K : Value → Heap → Prop} {n : Int} (hF : FoAt H f p g A nb N S) (hk : k ∈ S.rows.flatten) (h1 : -9223372036854775808 ≤ n) (h2 : n ≤ 9223372036854775807) (hn : ¬ (0 ≤ n ∧ n < 256)) (fin : K (.tuple #[.int .i64 0, .int .i64 1]) H) :
  CallsH Try.prog 49 #[.pointer (some ⟨f, 0, none⟩), .int .i64 k, .int .i64 n] H K := by
 have t1 : (bitAndNot .i64 n 255 != 0) = true := by
  have h : bitAndNot .i64 n 255 ≠ 0 := fun h => hn ((andNot_zero h1 h2).1 h)
  simp [h]
 refine call49 (by simp) ?_
 simp only [Try.f49, Option.getD_some]
 repeat' (first|(with_reducible first|refine jA ?_|(refine hK _ _ ?_;clear hK K)|refine jJ fun K hK=>?_|refine jK ?_|refine jL ?_|refine jM ?_|refine jN ?_|refine jO ?_|refine jP ?_|refine jQ ?_|(refine jB ?_;clear hK K)|(refine jC ?_;clear hK K)|refine jD ?_|refine jE ?_|refine jG ?_|refine jH ?_|refine jI ?_)|((with_reducible refine jR ?hq ?_);case hq=>rfl)|((first|(with_reducible first|refine jS fun K hK=>?_|refine jT ?_|refine jU ?_)|((with_reducible refine jV ?hy fun K hK=>?_);case hy=>rfl));simp only [go_sem, Nat.reduceEqDiff, Nat.reduceAdd, Nat.reduceMul, Nat.reduceLeDiff, Nat.reduceLT, Int.reduceLT, Int.reduceLE, Int.reduceEq, Int.reduceNeg, Int.reduceToNat, Nat.reducePow, reduceIte, reduceCtorEq])|((with_reducible first|refine jW ?hy ?_|refine jY ?hy ?_);case hy=>rfl)|((with_reducible first|refine jX ?hy ?_|refine jZ ?hy ?_);case hy=>rfl)|((with_reducible refine jF ?hy ?_);case hy=>decide))
 refine node_ok hF.mem ((hF.use k).1 hk) ?_
 repeat' (first|(with_reducible first|refine jA ?_|(refine hK _ _ ?_;clear hK K)|refine jJ fun K hK=>?_|refine jK ?_|refine jL ?_|refine jM ?_|refine jN ?_|refine jO ?_|refine jP ?_|refine jQ ?_|(refine jB ?_;clear hK K)|(refine jC ?_;clear hK K)|refine jD ?_|refine jE ?_|refine jG ?_|refine jH ?_|refine jI ?_)|((with_reducible refine jR ?hq ?_);case hq=>rfl)|((first|(with_reducible first|refine jS fun K hK=>?_|refine jT ?_|refine jU ?_)|((with_reducible refine jV ?hy fun K hK=>?_);case hy=>rfl));simp only [go_sem, Nat.reduceEqDiff, Nat.reduceAdd, Nat.reduceMul, Nat.reduceLeDiff, Nat.reduceLT, Int.reduceLT, Int.reduceLE, Int.reduceEq, Int.reduceNeg, Int.reduceToNat, Nat.reducePow, reduceIte, reduceCtorEq, t1])|((with_reducible first|refine jW ?hy ?_|refine jY ?hy ?_);case hy=>rfl)|((with_reducible first|refine jX ?hy ?_|refine jZ ?hy ?_);case hy=>rfl)|((with_reducible refine jF ?hy ?_);case hy=>decide))
 exact fin
theorem flagged_no {K : Value → Heap → Prop} {fl : Nat} (hF : FoAt H f p g A nb N S) (hx : xs ∈ S.rows) (hk : k ∈ xs) (hfl : fl < 256) (hn : firstF S.it fl xs = none) (fin : ∀ H' N', FoAt H' f p g A nb N' S → Fr (NB A nb) H H' → K (.tuple #[.int .i64 0, .int .i64 35]) H') :
  CallsH Try.prog 49 #[.pointer (some ⟨f, 0, none⟩), .int .i64 k, .int .i64 (fl : Nat)] H K := by
 have hU := hF.u hx hk
 have row := hF.row hx
 have t1 : (bitAndNot .i64 (fl : Int) 255 != 0) = false := by
  have := (andNot_zero (x := (fl : Int)) (by omega) (by omega)).2 (by omega)
  unfold andNot64 at this
  simpa using this
 have t2 : (bitAnd .i64 (aggOf S.it xs).flags (fl : Int) == 0) = true := by
  have e := and64_nat (flagsL_lt (xs := xs.map S.it) (fun y hy => by obtain ⟨i, hi, rfl⟩ := List.mem_map.1 hy; exact row.may i hi)) hfl
  rw [firstF_none.1 hn] at e
  have e' : bitAnd .i64 (aggOf S.it xs).flags (fl : Int) = 0 := e
  rw [e']; rfl
 refine call49 (by simp) ?_
 simp only [Try.f49, Option.getD_some]
 repeat' (first|(with_reducible first|refine jA ?_|(refine hK _ _ ?_;clear hK K)|refine jJ fun K hK=>?_|refine jK ?_|refine jL ?_|refine jM ?_|refine jN ?_|refine jO ?_|refine jP ?_|refine jQ ?_|(refine jB ?_;clear hK K)|(refine jC ?_;clear hK K)|refine jD ?_|refine jE ?_|refine jG ?_|refine jH ?_|refine jI ?_)|((with_reducible refine jR ?hq ?_);case hq=>rfl)|((first|(with_reducible first|refine jS fun K hK=>?_|refine jT ?_|refine jU ?_)|((with_reducible refine jV ?hy fun K hK=>?_);case hy=>rfl));simp only [go_sem, Nat.reduceEqDiff, Nat.reduceAdd, Nat.reduceMul, Nat.reduceLeDiff, Nat.reduceLT, Int.reduceLT, Int.reduceLE, Int.reduceEq, Int.reduceNeg, Int.reduceToNat, Nat.reducePow, reduceIte, reduceCtorEq])|((with_reducible first|refine jW ?hy ?_|refine jY ?hy ?_);case hy=>rfl)|((with_reducible first|refine jX ?hy ?_|refine jZ ?hy ?_);case hy=>rfl)|((with_reducible refine jF ?hy ?_);case hy=>decide))
 refine node_ok hF.mem hU ?_
 repeat' (first|(with_reducible first|refine jA ?_|(refine hK _ _ ?_;clear hK K)|refine jJ fun K hK=>?_|refine jK ?_|refine jL ?_|refine jM ?_|refine jN ?_|refine jO ?_|refine jP ?_|refine jQ ?_|(refine jB ?_;clear hK K)|(refine jC ?_;clear hK K)|refine jD ?_|refine jE ?_|refine jG ?_|refine jH ?_|refine jI ?_)|((with_reducible refine jR ?hq ?_);case hq=>rfl)|((first|(with_reducible first|refine jS fun K hK=>?_|refine jT ?_|refine jU ?_)|((with_reducible refine jV ?hy fun K hK=>?_);case hy=>rfl));simp only [go_sem, Nat.reduceEqDiff, Nat.reduceAdd, Nat.reduceMul, Nat.reduceLeDiff, Nat.reduceLT, Int.reduceLT, Int.reduceLE, Int.reduceEq, Int.reduceNeg, Int.reduceToNat, Nat.reducePow, reduceIte, reduceCtorEq, t1])|((with_reducible first|refine jW ?hy ?_|refine jY ?hy ?_);case hy=>rfl)|((with_reducible first|refine jX ?hy ?_|refine jZ ?hy ?_);case hy=>rfl)|((with_reducible refine jF ?hy ?_);case hy=>decide))
 refine splay_row hF hx hk (hF.apart hx) ?_
 intro H2 N2 a b hF2 ht e hf hoff
 have c11 := (hF2.mem.nd k hU).cellOf (i := 11) rfl
 have em : (N2 k).total = aggOf S.it xs := by
  obtain ⟨_, ek, _⟩ := ht
  rw [ek, ← e]; rfl
 rw [em] at c11
 repeat' (first|(with_reducible first|refine jA ?_|(refine hK _ _ ?_;clear hK K)|refine jJ fun K hK=>?_|refine jK ?_|refine jL ?_|refine jM ?_|refine jN ?_|refine jO ?_|refine jP ?_|refine jQ ?_|(refine jB ?_;clear hK K)|(refine jC ?_;clear hK K)|refine jD ?_|refine jE ?_|refine jG ?_|refine jH ?_|refine jI ?_)|((with_reducible refine jR ?hq ?_);case hq=>rfl)|((first|(with_reducible first|refine jS fun K hK=>?_|refine jT ?_|refine jU ?_)|((with_reducible refine jV ?hy fun K hK=>?_);case hy=>rfl));simp only [go_sem, Nat.reduceEqDiff, Nat.reduceAdd, Nat.reduceMul, Nat.reduceLeDiff, Nat.reduceLT, Int.reduceLT, Int.reduceLE, Int.reduceEq, Int.reduceNeg, Int.reduceToNat, Nat.reducePow, reduceIte, reduceCtorEq])|((with_reducible first|refine jW ?hy ?_|refine jY ?hy ?_);case hy=>rfl)|((with_reducible first|refine jX ?hy ?_|refine jZ ?hy ?_);case hy=>rfl)|((with_reducible refine jF ?hy ?_);case hy=>decide))
 refine node_ok hF2.mem hU ?_
 repeat' (first|(with_reducible first|refine jA ?_|(refine hK _ _ ?_;clear hK K)|refine jJ fun K hK=>?_|refine jK ?_|refine jL ?_|refine jM ?_|refine jN ?_|refine jO ?_|refine jP ?_|refine jQ ?_|(refine jB ?_;clear hK K)|(refine jC ?_;clear hK K)|refine jD ?_|refine jE ?_|refine jG ?_|refine jH ?_|refine jI ?_)|((with_reducible refine jR ?hq ?_);case hq=>rfl)|((first|(with_reducible first|refine jS fun K hK=>?_|refine jT ?_|refine jU ?_)|((with_reducible refine jV ?hy fun K hK=>?_);case hy=>rfl));simp only [go_sem, Nat.reduceEqDiff, Nat.reduceAdd, Nat.reduceMul, Nat.reduceLeDiff, Nat.reduceLT, Int.reduceLT, Int.reduceLE, Int.reduceEq, Int.reduceNeg, Int.reduceToNat, Nat.reducePow, reduceIte, reduceCtorEq, c11, t2])|((with_reducible first|refine jW ?hy ?_|refine jY ?hy ?_);case hy=>rfl)|((with_reducible first|refine jX ?hy ?_|refine jZ ?hy ?_);case hy=>rfl)|((with_reducible refine jF ?hy ?_);case hy=>decide))
 exact fin _ _ hF2 hf
theorem flagged_ok {K : Value → Heap → Prop} {fl : Nat} (hF : FoAt H f p g A nb N S) (hx : xs ∈ S.rows) (hk : k ∈ xs) (hfl : fl < 256) (hn : firstF S.it fl xs = some j) (fin : ∀ H' N', FoAt H' f p g A nb N' S → Fr (NB A nb) H H' → K (.tuple #[.int .i64 j, .int .i64 0]) H') :
  CallsH Try.prog 49 #[.pointer (some ⟨f, 0, none⟩), .int .i64 k, .int .i64 (fl : Nat)] H K := by
 have hU := hF.u hx hk
 have row := hF.row hx
 have t1 : (bitAndNot .i64 (fl : Int) 255 != 0) = false := by
  have := (andNot_zero (x := (fl : Int)) (by omega) (by omega)).2 (by omega)
  unfold andNot64 at this
  simpa using this
 have eand : ∀ l : List Nat, (∀ i ∈ l, i ∈ xs) → bitAnd .i64 (aggOf S.it l).flags (fl : Int) = ((flagsL (l.map S.it) &&& fl : Nat) : Int) := fun l hl =>
  and64_nat (flagsL_lt (xs := l.map S.it) (fun y hy => by obtain ⟨i, hi, rfl⟩ := List.mem_map.1 hy; exact row.may i (hl i hi))) hfl
 have eand1 : ∀ i ∈ xs, bitAnd .i64 (S.it i).flags (fl : Int) = (((S.it i).flags.toNat &&& fl : Nat) : Int) := fun i hi => by
  have hm := row.may i hi
  have h0 := hm.f0
  have h1 := hm.f1
  obtain ⟨n, hn⟩ := Int.eq_ofNat_of_zero_le h0
  rw [hn]
  exact and64_nat (by omega) hfl
 have t2 : (bitAnd .i64 (aggOf S.it xs).flags (fl : Int) == 0) = false := by
  rw [eand xs (fun _ h => h)]
  have : ¬ flagsL (xs.map S.it) &&& fl = 0 := fun h => by rw [firstF_none.2 h] at hn; cases hn
  simp; omega
 have hjx : j ∈ xs := List.mem_of_find?_eq_some hn
 refine call49 (by simp) ?_
 simp only [Try.f49, Option.getD_some]
 repeat' (first|(with_reducible first|refine jA ?_|(refine hK _ _ ?_;clear hK K)|refine jJ fun K hK=>?_|refine jK ?_|refine jL ?_|refine jM ?_|refine jN ?_|refine jO ?_|refine jP ?_|refine jQ ?_|(refine jB ?_;clear hK K)|(refine jC ?_;clear hK K)|refine jD ?_|refine jE ?_|refine jG ?_|refine jH ?_|refine jI ?_)|((with_reducible refine jR ?hq ?_);case hq=>rfl)|((first|(with_reducible first|refine jS fun K hK=>?_|refine jT ?_|refine jU ?_)|((with_reducible refine jV ?hy fun K hK=>?_);case hy=>rfl));simp only [go_sem, Nat.reduceEqDiff, Nat.reduceAdd, Nat.reduceMul, Nat.reduceLeDiff, Nat.reduceLT, Int.reduceLT, Int.reduceLE, Int.reduceEq, Int.reduceNeg, Int.reduceToNat, Nat.reducePow, reduceIte, reduceCtorEq])|((with_reducible first|refine jW ?hy ?_|refine jY ?hy ?_);case hy=>rfl)|((with_reducible first|refine jX ?hy ?_|refine jZ ?hy ?_);case hy=>rfl)|((with_reducible refine jF ?hy ?_);case hy=>decide))
 refine node_ok hF.mem hU ?_
 repeat' (first|(with_reducible first|refine jA ?_|(refine hK _ _ ?_;clear hK K)|refine jJ fun K hK=>?_|refine jK ?_|refine jL ?_|refine jM ?_|refine jN ?_|refine jO ?_|refine jP ?_|refine jQ ?_|(refine jB ?_;clear hK K)|(refine jC ?_;clear hK K)|refine jD ?_|refine jE ?_|refine jG ?_|refine jH ?_|refine jI ?_)|((with_reducible refine jR ?hq ?_);case hq=>rfl)|((first|(with_reducible first|refine jS fun K hK=>?_|refine jT ?_|refine jU ?_)|((with_reducible refine jV ?hy fun K hK=>?_);case hy=>rfl));simp only [go_sem, Nat.reduceEqDiff, Nat.reduceAdd, Nat.reduceMul, Nat.reduceLeDiff, Nat.reduceLT, Int.reduceLT, Int.reduceLE, Int.reduceEq, Int.reduceNeg, Int.reduceToNat, Nat.reducePow, reduceIte, reduceCtorEq, t1])|((with_reducible first|refine jW ?hy ?_|refine jY ?hy ?_);case hy=>rfl)|((with_reducible first|refine jX ?hy ?_|refine jZ ?hy ?_);case hy=>rfl)|((with_reducible refine jF ?hy ?_);case hy=>decide))
 refine splay_row hF hx hk (hF.apart hx) ?_
 intro H2 N2 a b hF2 ht e hf hoff
 have c11 := (hF2.mem.nd k hU).cellOf (i := 11) rfl
 have em : (N2 k).total = aggOf S.it xs := by
  obtain ⟨_, ek, _⟩ := ht
  rw [ek, ← e]; rfl
 rw [em] at c11
 repeat' (first|(with_reducible first|refine jA ?_|(refine hK _ _ ?_;clear hK K)|refine jJ fun K hK=>?_|refine jK ?_|refine jL ?_|refine jM ?_|refine jN ?_|refine jO ?_|refine jP ?_|refine jQ ?_|(refine jB ?_;clear hK K)|(refine jC ?_;clear hK K)|refine jD ?_|refine jE ?_|refine jG ?_|refine jH ?_|refine jI ?_)|((with_reducible refine jR ?hq ?_);case hq=>rfl)|((first|(with_reducible first|refine jS fun K hK=>?_|refine jT ?_|refine jU ?_)|((with_reducible refine jV ?hy fun K hK=>?_);case hy=>rfl));simp only [go_sem, Nat.reduceEqDiff, Nat.reduceAdd, Nat.reduceMul, Nat.reduceLeDiff, Nat.reduceLT, Int.reduceLT, Int.reduceLE, Int.reduceEq, Int.reduceNeg, Int.reduceToNat, Nat.reducePow, reduceIte, reduceCtorEq])|((with_reducible first|refine jW ?hy ?_|refine jY ?hy ?_);case hy=>rfl)|((with_reducible first|refine jX ?hy ?_|refine jZ ?hy ?_);case hy=>rfl)|((with_reducible refine jF ?hy ?_);case hy=>decide))
 refine node_ok hF2.mem hU ?_
 repeat' (first|(with_reducible first|refine jA ?_|(refine hK _ _ ?_;clear hK K)|refine jJ fun K hK=>?_|refine jK ?_|refine jL ?_|refine jM ?_|refine jN ?_|refine jO ?_|refine jP ?_|refine jQ ?_|(refine jB ?_;clear hK K)|(refine jC ?_;clear hK K)|refine jD ?_|refine jE ?_|refine jG ?_|refine jH ?_|refine jI ?_)|((with_reducible refine jR ?hq ?_);case hq=>rfl)|((first|(with_reducible first|refine jS fun K hK=>?_|refine jT ?_|refine jU ?_)|((with_reducible refine jV ?hy fun K hK=>?_);case hy=>rfl));simp only [go_sem, Nat.reduceEqDiff, Nat.reduceAdd, Nat.reduceMul, Nat.reduceLeDiff, Nat.reduceLT, Int.reduceLT, Int.reduceLE, Int.reduceEq, Int.reduceNeg, Int.reduceToNat, Nat.reducePow, reduceIte, reduceCtorEq, c11, t2])|((with_reducible first|refine jW ?hy ?_|refine jY ?hy ?_);case hy=>rfl)|((with_reducible first|refine jX ?hy ?_|refine jZ ?hy ?_);case hy=>rfl)|((with_reducible refine jF ?hy ?_);case hy=>decide))
 refine x_loop (fun m e' H' => ∃ (t : Tr) (up : Nat), FoAt H' f p g A nb N2 S ∧ Fr (NB A nb) H H' ∧ e' 1 = .int .i64 (t.root : Nat) ∧ TrAt N2 S.it up t ∧ (∀ i ∈ t.list, i ∈ xs) ∧ firstF S.it fl t.list = some j ∧ m = t.list.length)
  xs.length ⟨.node a k b, 0, hF2, hf, rfl, ht, fun i hi => by rw [← e]; exact hi, by rw [← hn, ← e]; rfl, by rw [← e]; rfl⟩ ?_
 rintro m e1 H3 ⟨t, up, hF3, hf3, e1', ht3, hsub, hn3, rfl⟩ hoff3
 have e0 := (hoff3 0 rfl).trans rfl
 have e2 := (hoff3 2 rfl).trans rfl
 clear hoff3
 cases t with
 | nil => cases hn3
 | node l h r =>
  simp only [Tr.root] at e1'
  have hhx := hsub h (by simp [Tr.list])
  have hUh := hF.u hx hhx
  have c4 := (hF3.mem.nd h hUh).cellOf (i := 4) rfl
  have hit := item_of (k := h) ht3 (by simp [Tr.list])
  obtain ⟨q1, q2, q3, q4⟩ := ht3
  have el : (N2 h).l = l.root := by rw [q2]; rfl
  have er : (N2 h).r = r.root := by rw [q2]; rfl
  have hbel : belowN N2 (N2 h).l = ((l.list.length : Int), aggOf S.it l.list) := by rw [el]; exact q3.below
  have hll : ∀ i ∈ l.list, i ∈ xs := fun i hi => hsub i (by simp [Tr.list, hi])
  have eal := eand l.list hll
  repeat' (first|(with_reducible first|refine jA ?_|(refine hK _ _ ?_;clear hK K)|refine jJ fun K hK=>?_|refine jK ?_|refine jL ?_|refine jM ?_|refine jN ?_|refine jO ?_|refine jP ?_|refine jQ ?_|(refine jB ?_;clear hK K)|(refine jC ?_;clear hK K)|refine jD ?_|refine jE ?_|refine jG ?_|refine jH ?_|refine jI ?_)|((with_reducible refine jR ?hq ?_);case hq=>rfl)|((first|(with_reducible first|refine jS fun K hK=>?_|refine jT ?_|refine jU ?_)|((with_reducible refine jV ?hy fun K hK=>?_);case hy=>rfl));simp only [go_sem, Nat.reduceEqDiff, Nat.reduceAdd, Nat.reduceMul, Nat.reduceLeDiff, Nat.reduceLT, Int.reduceLT, Int.reduceLE, Int.reduceEq, Int.reduceNeg, Int.reduceToNat, Nat.reducePow, reduceIte, reduceCtorEq, e0, e1', e2])|((with_reducible first|refine jW ?hy ?_|refine jY ?hy ?_);case hy=>rfl)|((with_reducible first|refine jX ?hy ?_|refine jZ ?hy ?_);case hy=>rfl)|((with_reducible refine jF ?hy ?_);case hy=>decide))
  refine node_ok hF3.mem hUh ?_
  repeat' (first|(with_reducible first|refine jA ?_|(refine hK _ _ ?_;clear hK K)|refine jJ fun K hK=>?_|refine jK ?_|refine jL ?_|refine jM ?_|refine jN ?_|refine jO ?_|refine jP ?_|refine jQ ?_|(refine jB ?_;clear hK K)|(refine jC ?_;clear hK K)|refine jD ?_|refine jE ?_|refine jG ?_|refine jH ?_|refine jI ?_)|((with_reducible refine jR ?hq ?_);case hq=>rfl)|((first|(with_reducible first|refine jS fun K hK=>?_|refine jT ?_|refine jU ?_)|((with_reducible refine jV ?hy fun K hK=>?_);case hy=>rfl));simp only [go_sem, Nat.reduceEqDiff, Nat.reduceAdd, Nat.reduceMul, Nat.reduceLeDiff, Nat.reduceLT, Int.reduceLT, Int.reduceLE, Int.reduceEq, Int.reduceNeg, Int.reduceToNat, Nat.reducePow, reduceIte, reduceCtorEq, e0, e1', e2, c4])|((with_reducible first|refine jW ?hy ?_|refine jY ?hy ?_);case hy=>rfl)|((with_reducible first|refine jX ?hy ?_|refine jZ ?hy ?_);case hy=>rfl)|((with_reducible refine jF ?hy ?_);case hy=>decide))
  refine below_ok hF3.mem (hF3.mem.cl.l h hUh) ?_
  intro H4 hf4
  rw [hbel]
  have hF4 := hF3.grow hf4
  have hn3' : (l.list.find? (hasF S.it fl)).or ((h :: r.list).find? (hasF S.it fl)) = some j := by
   rw [← List.find?_append]; exact hn3
  by_cases h1 : flagsL (l.list.map S.it) &&& fl = 0
  ·have t3 : (((flagsL (l.list.map S.it) &&& fl : Nat) : Int) != 0) = false := by simp [h1]
   have hln : l.list.find? (hasF S.it fl) = none := firstF_none.2 h1
   rw [hln, Option.none_or, List.find?_cons] at hn3'
   have eah := eand1 h hhx
   by_cases h2 : (S.it h).flags.toNat &&& fl = 0
   ·have t4 : ((((S.it h).flags.toNat &&& fl : Nat) : Int) != 0) = false := by simp [h2]
    have hp : hasF S.it fl h = false := by simp [hasF, h2]
    rw [hp] at hn3'
    repeat' (first|(with_reducible first|refine jA ?_|(refine hK _ _ ?_;clear hK K)|refine jJ fun K hK=>?_|refine jK ?_|refine jL ?_|refine jM ?_|refine jN ?_|refine jO ?_|refine jP ?_|refine jQ ?_|(refine jB ?_;clear hK K)|(refine jC ?_;clear hK K)|refine jD ?_|refine jE ?_|refine jG ?_|refine jH ?_|refine jI ?_)|((with_reducible refine jR ?hq ?_);case hq=>rfl)|((first|(with_reducible first|refine jS fun K hK=>?_|refine jT ?_|refine jU ?_)|((with_reducible refine jV ?hy fun K hK=>?_);case hy=>rfl));simp only [go_sem, Nat.reduceEqDiff, Nat.reduceAdd, Nat.reduceMul, Nat.reduceLeDiff, Nat.reduceLT, Int.reduceLT, Int.reduceLE, Int.reduceEq, Int.reduceNeg, Int.reduceToNat, Nat.reducePow, reduceIte, reduceCtorEq, Agg.val, e0, e1', e2, eal, t3, hcell_push, hcell_top, okW_push, okW_top, hcell_hset_ne, hcell_hset_off, hcell_hset_eq, okW_hset, hset_size, Array.size_push, Nat.lt_add_one, ne_add_one, add_one_ne, Nat.add_assoc, add_same, add_lt_same, Nat.reduceEqDiff, lt_add_k, add_k_ne, ne_add_k])|((with_reducible first|refine jW ?hy ?_|refine jY ?hy ?_);case hy=>rfl)|((with_reducible first|refine jX ?hy ?_|refine jZ ?hy ?_);case hy=>rfl)|((with_reducible refine jF ?hy ?_);case hy=>decide))
    generalize hH5 : hset _ _ _ = H5
    have hf5 : Fr (fun _ => False) H4 H5 := by rw [← hH5]; exact (by ((repeat (first | refine Fr.set ?_ (by simp) _ | refine Fr.push ?_ _)); exact Fr.refl _ _))
    clear hH5
    have hF5 := hF4.grow hf5
    have c2 := (hF5.mem.nd h hUh).cellOf (i := 2) rfl
    have c5 := (hF5.mem.nd h hUh).cellOf (i := 5) rfl
    rw [hit] at c2
    rw [er] at c5
    simp only [go_sem, Nat.reduceEqDiff, Nat.reduceAdd, Nat.reduceMul, Nat.reduceLeDiff, Nat.reduceLT, Int.reduceLT, Int.reduceLE, Int.reduceEq, Int.reduceNeg, Int.reduceToNat, Nat.reducePow, reduceIte, reduceCtorEq, c2]
    repeat' (first|(with_reducible first|refine jA ?_|(refine hK _ _ ?_;clear hK K)|refine jJ fun K hK=>?_|refine jK ?_|refine jL ?_|refine jM ?_|refine jN ?_|refine jO ?_|refine jP ?_|refine jQ ?_|(refine jB ?_;clear hK K)|(refine jC ?_;clear hK K)|refine jD ?_|refine jE ?_|refine jG ?_|refine jH ?_|refine jI ?_)|((with_reducible refine jR ?hq ?_);case hq=>rfl)|((first|(with_reducible first|refine jS fun K hK=>?_|refine jT ?_|refine jU ?_)|((with_reducible refine jV ?hy fun K hK=>?_);case hy=>rfl));simp only [go_sem, Nat.reduceEqDiff, Nat.reduceAdd, Nat.reduceMul, Nat.reduceLeDiff, Nat.reduceLT, Int.reduceLT, Int.reduceLE, Int.reduceEq, Int.reduceNeg, Int.reduceToNat, Nat.reducePow, reduceIte, reduceCtorEq, e0, e1', e2, c2, c5, eah, t4])|((with_reducible first|refine jW ?hy ?_|refine jY ?hy ?_);case hy=>rfl)|((with_reducible first|refine jX ?hy ?_|refine jZ ?hy ?_);case hy=>rfl)|((with_reducible refine jF ?hy ?_);case hy=>decide))
    refine loop_normal (m' := r.list.length) (by simp [Tr.list] <;> omega) ⟨r, h, hF5, (hf3.trans (hf4.mono fun _ _ h => h.elim)).trans (hf5.mono fun _ _ h => h.elim), rfl, q4, fun i hi => hsub i (by simp [Tr.list, hi]), hn3', rfl⟩
   ·have t4 : ((((S.it h).flags.toNat &&& fl : Nat) : Int) != 0) = true := by simp; omega
    have hp : hasF S.it fl h = true := by simp [hasF, h2]
    rw [hp] at hn3'
    have hjh : h = j := by simpa using hn3'
    subst hjh
    repeat' (first|(with_reducible first|refine jA ?_|(refine hK _ _ ?_;clear hK K)|refine jJ fun K hK=>?_|refine jK ?_|refine jL ?_|refine jM ?_|refine jN ?_|refine jO ?_|refine jP ?_|refine jQ ?_|(refine jB ?_;clear hK K)|(refine jC ?_;clear hK K)|refine jD ?_|refine jE ?_|refine jG ?_|refine jH ?_|refine jI ?_)|((with_reducible refine jR ?hq ?_);case hq=>rfl)|((first|(with_reducible first|refine jS fun K hK=>?_|refine jT ?_|refine jU ?_)|((with_reducible refine jV ?hy fun K hK=>?_);case hy=>rfl));simp only [go_sem, Nat.reduceEqDiff, Nat.reduceAdd, Nat.reduceMul, Nat.reduceLeDiff, Nat.reduceLT, Int.reduceLT, Int.reduceLE, Int.reduceEq, Int.reduceNeg, Int.reduceToNat, Nat.reducePow, reduceIte, reduceCtorEq, Agg.val, e0, e1', e2, eal, t3, hcell_push, hcell_top, okW_push, okW_top, hcell_hset_ne, hcell_hset_off, hcell_hset_eq, okW_hset, hset_size, Array.size_push, Nat.lt_add_one, ne_add_one, add_one_ne, Nat.add_assoc, add_same, add_lt_same, Nat.reduceEqDiff, lt_add_k, add_k_ne, ne_add_k])|((with_reducible first|refine jW ?hy ?_|refine jY ?hy ?_);case hy=>rfl)|((with_reducible first|refine jX ?hy ?_|refine jZ ?hy ?_);case hy=>rfl)|((with_reducible refine jF ?hy ?_);case hy=>decide))
    generalize hH5 : hset _ _ _ = H5
    have hf5 : Fr (fun _ => False) H4 H5 := by rw [← hH5]; exact (by ((repeat (first | refine Fr.set ?_ (by simp) _ | refine Fr.push ?_ _)); exact Fr.refl _ _))
    clear hH5
    have hF5 := hF4.grow hf5
    have c2 := (hF5.mem.nd h hUh).cellOf (i := 2) rfl
    rw [hit] at c2
    simp only [go_sem, Nat.reduceEqDiff, Nat.reduceAdd, Nat.reduceMul, Nat.reduceLeDiff, Nat.reduceLT, Int.reduceLT, Int.reduceLE, Int.reduceEq, Int.reduceNeg, Int.reduceToNat, Nat.reducePow, reduceIte, reduceCtorEq, c2]
    repeat' (first|(with_reducible first|refine jA ?_|(refine hK _ _ ?_;clear hK K)|refine jJ fun K hK=>?_|refine jK ?_|refine jL ?_|refine jM ?_|refine jN ?_|refine jO ?_|refine jP ?_|refine jQ ?_|(refine jB ?_;clear hK K)|(refine jC ?_;clear hK K)|refine jD ?_|refine jE ?_|refine jG ?_|refine jH ?_|refine jI ?_)|((with_reducible refine jR ?hq ?_);case hq=>rfl)|((first|(with_reducible first|refine jS fun K hK=>?_|refine jT ?_|refine jU ?_)|((with_reducible refine jV ?hy fun K hK=>?_);case hy=>rfl));simp only [go_sem, Nat.reduceEqDiff, Nat.reduceAdd, Nat.reduceMul, Nat.reduceLeDiff, Nat.reduceLT, Int.reduceLT, Int.reduceLE, Int.reduceEq, Int.reduceNeg, Int.reduceToNat, Nat.reducePow, reduceIte, reduceCtorEq, e0, e1', e2, c2, eah, t4])|((with_reducible first|refine jW ?hy ?_|refine jY ?hy ?_);case hy=>rfl)|((with_reducible first|refine jX ?hy ?_|refine jZ ?hy ?_);case hy=>rfl)|((with_reducible refine jF ?hy ?_);case hy=>decide))
    refine splay_row hF5 hx hjx (hF5.apart hx) ?_
    intro H6 N6 a6 b6 hF6 ht6 e6 hf6 hoff6
    repeat' (first|(with_reducible first|refine jA ?_|(refine hK _ _ ?_;clear hK K)|refine jJ fun K hK=>?_|refine jK ?_|refine jL ?_|refine jM ?_|refine jN ?_|refine jO ?_|refine jP ?_|refine jQ ?_|(refine jB ?_;clear hK K)|(refine jC ?_;clear hK K)|refine jD ?_|refine jE ?_|refine jG ?_|refine jH ?_|refine jI ?_)|((with_reducible refine jR ?hq ?_);case hq=>rfl)|((first|(with_reducible first|refine jS fun K hK=>?_|refine jT ?_|refine jU ?_)|((with_reducible refine jV ?hy fun K hK=>?_);case hy=>rfl));simp only [go_sem, Nat.reduceEqDiff, Nat.reduceAdd, Nat.reduceMul, Nat.reduceLeDiff, Nat.reduceLT, Int.reduceLT, Int.reduceLE, Int.reduceEq, Int.reduceNeg, Int.reduceToNat, Nat.reducePow, reduceIte, reduceCtorEq, e1'])|((with_reducible first|refine jW ?hy ?_|refine jY ?hy ?_);case hy=>rfl)|((with_reducible first|refine jX ?hy ?_|refine jZ ?hy ?_);case hy=>rfl)|((with_reducible refine jF ?hy ?_);case hy=>decide))
    exact fin _ _ hF6 (((hf3.trans (hf4.mono fun _ _ h => h.elim)).trans (hf5.mono fun _ _ h => h.elim)).trans hf6)
  ·have t3 : (((flagsL (l.list.map S.it) &&& fl : Nat) : Int) != 0) = true := by simp; omega
   have hln : firstF S.it fl l.list = some j := by
    cases hh : l.list.find? (hasF S.it fl) with
    | none => exact absurd (firstF_none.1 hh) h1
    | some w => rw [hh] at hn3'; simpa [firstF, hh] using hn3'
   repeat' (first|(with_reducible first|refine jA ?_|(refine hK _ _ ?_;clear hK K)|refine jJ fun K hK=>?_|refine jK ?_|refine jL ?_|refine jM ?_|refine jN ?_|refine jO ?_|refine jP ?_|refine jQ ?_|(refine jB ?_;clear hK K)|(refine jC ?_;clear hK K)|refine jD ?_|refine jE ?_|refine jG ?_|refine jH ?_|refine jI ?_)|((with_reducible refine jR ?hq ?_);case hq=>rfl)|((first|(with_reducible first|refine jS fun K hK=>?_|refine jT ?_|refine jU ?_)|((with_reducible refine jV ?hy fun K hK=>?_);case hy=>rfl));simp only [go_sem, Nat.reduceEqDiff, Nat.reduceAdd, Nat.reduceMul, Nat.reduceLeDiff, Nat.reduceLT, Int.reduceLT, Int.reduceLE, Int.reduceEq, Int.reduceNeg, Int.reduceToNat, Nat.reducePow, reduceIte, reduceCtorEq, Agg.val, e0, e1', e2, eal, t3, hcell_push, hcell_top, okW_push, okW_top, hcell_hset_ne, hcell_hset_off, hcell_hset_eq, okW_hset, hset_size, Array.size_push, Nat.lt_add_one, ne_add_one, add_one_ne, Nat.add_assoc, add_same, add_lt_same, Nat.reduceEqDiff, lt_add_k, add_k_ne, ne_add_k])|((with_reducible first|refine jW ?hy ?_|refine jY ?hy ?_);case hy=>rfl)|((with_reducible first|refine jX ?hy ?_|refine jZ ?hy ?_);case hy=>rfl)|((with_reducible refine jF ?hy ?_);case hy=>decide))
   generalize hH5 : hset _ _ _ = H5
   have hf5 : Fr (fun _ => False) H4 H5 := by rw [← hH5]; exact (by ((repeat (first | refine Fr.set ?_ (by simp) _ | refine Fr.push ?_ _)); exact Fr.refl _ _))
   clear hH5
   have hF5 := hF4.grow hf5
   have c4 := (hF5.mem.nd h hUh).cellOf (i := 4) rfl
   rw [el] at c4
   simp only [go_sem, Nat.reduceEqDiff, Nat.reduceAdd, Nat.reduceMul, Nat.reduceLeDiff, Nat.reduceLT, Int.reduceLT, Int.reduceLE, Int.reduceEq, Int.reduceNeg, Int.reduceToNat, Nat.reducePow, reduceIte, reduceCtorEq, c4]
   repeat' (first|(with_reducible first|refine jA ?_|(refine hK _ _ ?_;clear hK K)|refine jJ fun K hK=>?_|refine jK ?_|refine jL ?_|refine jM ?_|refine jN ?_|refine jO ?_|refine jP ?_|refine jQ ?_|(refine jB ?_;clear hK K)|(refine jC ?_;clear hK K)|refine jD ?_|refine jE ?_|refine jG ?_|refine jH ?_|refine jI ?_)|((with_reducible refine jR ?hq ?_);case hq=>rfl)|((first|(with_reducible first|refine jS fun K hK=>?_|refine jT ?_|refine jU ?_)|((with_reducible refine jV ?hy fun K hK=>?_);case hy=>rfl));simp only [go_sem, Nat.reduceEqDiff, Nat.reduceAdd, Nat.reduceMul, Nat.reduceLeDiff, Nat.reduceLT, Int.reduceLT, Int.reduceLE, Int.reduceEq, Int.reduceNeg, Int.reduceToNat, Nat.reducePow, reduceIte, reduceCtorEq, e0, e1', e2, c4])|((with_reducible first|refine jW ?hy ?_|refine jY ?hy ?_);case hy=>rfl)|((with_reducible first|refine jX ?hy ?_|refine jZ ?hy ?_);case hy=>rfl)|((with_reducible refine jF ?hy ?_);case hy=>decide))
   refine loop_normal (m' := l.list.length) (by simp [Tr.list] <;> omega) ⟨l, h, hF5, (hf3.trans (hf4.mono fun _ _ h => h.elim)).trans (hf5.mono fun _ _ h => h.elim), rfl, q3, hll, hln, rfl⟩
end
end Go.Proofs.Ytnlafhnbakipmaa
namespace Go.Sp
open Go Go.Hp
set_option linter.unusedVariables false
def stL (st : List (Nat × Tr)) : List Nat := st.reverse.flatMap fun x => x.1 :: x.2.list
theorem stL_len (l : List (Nat × Tr)) : l.length ≤ (stL l).length := by
 unfold stL
 rw [List.length_flatMap]
 have : ∀ l : List (Nat × Tr), l.length ≤ (l.map fun x => (x.1 :: x.2.list).length).sum := by
  intro l
  induction l with
  | nil => simp
  | cons a l ih =>
   rw [List.map_cons, List.sum_cons, List.length_cons, List.length_cons]
   omega
 have := this l.reverse
 rw [List.length_reverse] at this
 exact this
theorem stL_push (st : List (Nat × Tr)) (k : Nat) (r : Tr) : stL (st ++ [(k, r)]) = k :: r.list ++ stL st := by simp [stL]
end Go.Sp
namespace Go.Hp
open Go
theorem IR.pop {H : Heap} {g n c : Nat} {xs : List Int} {x : Int} (h : IR H (some g) (.slice (some ⟨g, 0, none⟩) n c) (xs ++ [x])) : IR H (some g) (.slice (some ⟨g, 0, none⟩) (n - 1) c) xs := by
 obtain ⟨hl, h | ⟨g', c', rest, h1, h2, h3, h4, h5⟩⟩ := h
 ·cases h.1
 ·obtain rfl := Option.some.inj h1
  simp only [Value.slice.injEq, List.length_append, List.length_singleton] at h2 h5
  obtain ⟨_, rfl, rfl⟩ := h2
  refine ⟨by simp, .inr ⟨g, c, .int .i64 x :: rest, rfl, by simp, ?_, ?_, by omega⟩⟩
  ·simpa using h3
  ·simp at h4 ⊢; omega
theorem IR.fresh (H : Heap) (l : List Value) (T : TypeId) : IR (H.push (.cells l.toArray T)) (some H.size) (.slice (some ⟨H.size, 0, none⟩) 0 l.length) [] :=
 ⟨rfl, .inr ⟨H.size, l.length, l, rfl, rfl, Blk.new H l T, by simp, Nat.zero_le _⟩⟩
end Go.Hp
namespace Go.Proofs.Ytnlafhnbakipmaa
open Go Go.Hp Go.Sp
set_option linter.all false
set_option maxRecDepth 100000
set_option maxHeartbeats 1600000

section
variable {H H' : Heap} {f p g : Nat} {A : Ar} {nb : Nat → Nat} {N : Nodes} {S : Fo} {xs ys : List Nat} {k j : Nat} {R : List (List Nat)}
def StOk (A : Ar) (N : Nodes) (it : Nat → Sp.Item) (st : List (Nat × Tr)) : Prop := ∀ x ∈ st, U A x.1 ∧ (N x.1).r = x.2.root ∧ TrAt N it x.1 x.2
theorem FoAt.other {B : Option Nat} (h : FoAt H f p g A nb N S) {H2 : Heap} (h2 : ∀ b, Foot f p g A nb b → b < H2.size) (hf : Fr (fun b => B = some b) H H') (hB : ∀ b, B = some b → H2.size ≤ b) : FoAt H' f p g A nb N S :=
 h.frame hf fun b hb e => by have := h2 b hb; have := hB b e; omega
theorem all_inner {Q : HX → Env → Heap → Prop} {e : Env} {H2 : Heap} {t : Tr} {up : Nat} {st : List (Nat × Tr)} {os : List Nat} {B6 B7 : Option Nat} {v6 v7 : Value} (hF : FoAt H f p g A nb N S) (h2 : ∀ b, Foot f p g A nb b → b < H2.size) (hs2 : H2.size ≤ H.size) (hx : xs ∈ S.rows)
  (e0 : e 0 = .pointer (some ⟨f, 0, none⟩)) (e1 : e 1 = .int .i64 (t.root : Nat)) (e6 : e 6 = v6) (e7 : e 7 = v7) (ht : TrAt N S.it up t) (hst : StOk A N S.it st) (r6 : IR H B6 v6 (os.map Int.ofNat)) (r7 : IR H B7 v7 ((st.map (·.1)).map Int.ofNat))
  (d6 : ∀ b, B6 = some b → H2.size ≤ b ∧ B7 ≠ some b) (d7 : ∀ b, B7 = some b → H2.size ≤ b) (hcat : os ++ t.list ++ stL st = xs)
  (hQ : ∀ e' H' st' B7' v7', e' 0 = .pointer (some ⟨f, 0, none⟩) → e' 1 = .int .i64 0 → e' 6 = v6 → e' 7 = v7' → FoAt H' f p g A nb N S → StOk A N S.it st' → IR H' B6 v6 (os.map Int.ofNat) → IR H' B7' v7' ((st'.map (·.1)).map Int.ofNat) →
   (∀ b, B6 = some b → H2.size ≤ b ∧ B7' ≠ some b) → (∀ b, B7' = some b → H2.size ≤ b) → os ++ stL st' = xs → (st' = [] → st = [] ∧ t = .nil) → Fr (fun b => H2.size ≤ b) H H' → Q .normal e' H') :
  codeX Try.prog [] (loopAt Try.f39.body 1) (blockQ 2 Q) e H := by
 have hlen := (hF.row hx).len
 refine x_loop (fun m e' H' => ∃ (t' : Tr) (up : Nat) (st' : List (Nat × Tr)) (B7 : Option Nat) (v7 : Value), FoAt H' f p g A nb N S ∧ e' 1 = .int .i64 (t'.root : Nat) ∧ e' 7 = v7 ∧ TrAt N S.it up t' ∧ StOk A N S.it st' ∧ IR H' B6 v6 (os.map Int.ofNat) ∧
   IR H' B7 v7 ((st'.map (·.1)).map Int.ofNat) ∧ (∀ b, B6 = some b → H2.size ≤ b ∧ B7 ≠ some b) ∧ (∀ b, B7 = some b → H2.size ≤ b) ∧ os ++ t'.list ++ stL st' = xs ∧ (t' = .nil → st' = [] → st = [] ∧ t = .nil) ∧ Fr (fun b => H2.size ≤ b) H H' ∧ m = t'.list.length)
  t.list.length ⟨t, up, st, B7, v7, hF, e1, e7, ht, hst, r6, r7, d6, d7, hcat, fun h1 h2 => ⟨h2, h1⟩, .refl _ _, rfl⟩ ?_
 rintro m e' H1 ⟨t1, up1, st1, B, v, hF1, i1, i7, ht1, hst1, s6, s7, c6, c7, hcat1, hemp, hf1, rfl⟩ hoff
 have i0 := (hoff 0 rfl).trans e0
 have i6 := (hoff 6 rfl).trans e6
 clear hoff e0 e1 e6 e7
 cases t1 with
 | nil =>
  have i1' : e' 1 = .int .i64 0 := i1
  have q1 : ((0 : Int) != 0) = false := rfl
  repeat' (first|(with_reducible first|refine jA ?_|(refine hK _ _ ?_;clear hK K)|refine jJ fun K hK=>?_|refine jK ?_|refine jL ?_|refine jM ?_|refine jN ?_|refine jO ?_|refine jP ?_|refine jQ ?_|(refine jB ?_;clear hK K)|(refine jC ?_;clear hK K)|refine jD ?_|refine jE ?_|refine jG ?_|refine jH ?_|refine jI ?_)|((with_reducible refine jR ?hq ?_);case hq=>rfl)|((first|(with_reducible first|refine jS fun K hK=>?_|refine jT ?_|refine jU ?_)|((with_reducible refine jV ?hy fun K hK=>?_);case hy=>rfl));simp only [go_sem, Nat.reduceEqDiff, Nat.reduceAdd, Nat.reduceMul, Nat.reduceLeDiff, Nat.reduceLT, Int.reduceLT, Int.reduceLE, Int.reduceEq, Int.reduceNeg, Int.reduceToNat, Nat.reducePow, reduceIte, reduceCtorEq, i1', q1])|((with_reducible first|refine jW ?hy ?_|refine jY ?hy ?_);case hy=>rfl)|((with_reducible first|refine jX ?hy ?_|refine jZ ?hy ?_);case hy=>rfl)|((with_reducible refine jF ?hy ?_);case hy=>decide))
  exact hQ _ _ st1 B v i0 i1' i6 i7 hF1 hst1 s6 s7 c6 c7 (by simpa [Tr.list] using hcat1) (fun h => hemp rfl h) hf1
 | node l h r =>
  simp only [Tr.root] at i1
  have hhx : h ∈ xs := by rw [← hcat1]; simp [Tr.list]
  have hUh := hF.u hx hhx
  obtain ⟨q1, q2, q3, q4⟩ := ht1
  have el : (N h).l = l.root := by rw [q2]; rfl
  have er : (N h).r = r.root := by rw [q2]; rfl
  have t1 : ((h : Int) != 0) = true := by simp [q1]
  have hsl : st1.length ≤ 4096 := by
   have : (stL st1).length ≤ xs.length := by rw [← hcat1]; simp; omega
   have h3 := stL_len st1
   omega
  repeat' (first|(with_reducible first|refine jA ?_|(refine hK _ _ ?_;clear hK K)|refine jJ fun K hK=>?_|refine jK ?_|refine jL ?_|refine jM ?_|refine jN ?_|refine jO ?_|refine jP ?_|refine jQ ?_|(refine jB ?_;clear hK K)|(refine jC ?_;clear hK K)|refine jD ?_|refine jE ?_|refine jG ?_|refine jH ?_|refine jI ?_)|((with_reducible refine jR ?hq ?_);case hq=>rfl)|((first|(with_reducible first|refine jS fun K hK=>?_|refine jT ?_|refine jU ?_)|((with_reducible refine jV ?hy fun K hK=>?_);case hy=>rfl));simp only [go_sem, Nat.reduceEqDiff, Nat.reduceAdd, Nat.reduceMul, Nat.reduceLeDiff, Nat.reduceLT, Int.reduceLT, Int.reduceLE, Int.reduceEq, Int.reduceNeg, Int.reduceToNat, Nat.reducePow, reduceIte, reduceCtorEq, i0, i1, i7, t1])|((with_reducible first|refine jW ?hy ?_|refine jY ?hy ?_);case hy=>rfl)|((with_reducible first|refine jX ?hy ?_|refine jZ ?hy ?_);case hy=>rfl)|((with_reducible refine jF ?hy ?_);case hy=>decide))
  refine append_ir elems22 tl3 s7 rfl (by decide) (by simp; omega) rfl ?_
  intro v' H3 B' s7' hf3 hB
  have hF3 := hF1.other h2 hf3 c7
  have s6' := s6.frame hf3 fun b hb e => (c6 b hb).2 e
  have c4 := (hF3.mem.nd h hUh).cellOf (i := 4) rfl
  rw [el] at c4
  have hf13 : Fr (fun b => H2.size ≤ b) H1 H3 := hf3.mono fun b _ e => c7 b e
  have hs1 := hf1.size
  repeat' (first|(with_reducible first|refine jA ?_|(refine hK _ _ ?_;clear hK K)|refine jJ fun K hK=>?_|refine jK ?_|refine jL ?_|refine jM ?_|refine jN ?_|refine jO ?_|refine jP ?_|refine jQ ?_|(refine jB ?_;clear hK K)|(refine jC ?_;clear hK K)|refine jD ?_|refine jE ?_|refine jG ?_|refine jH ?_|refine jI ?_)|((with_reducible refine jR ?hq ?_);case hq=>rfl)|((first|(with_reducible first|refine jS fun K hK=>?_|refine jT ?_|refine jU ?_)|((with_reducible refine jV ?hy fun K hK=>?_);case hy=>rfl));simp only [go_sem, Nat.reduceEqDiff, Nat.reduceAdd, Nat.reduceMul, Nat.reduceLeDiff, Nat.reduceLT, Int.reduceLT, Int.reduceLE, Int.reduceEq, Int.reduceNeg, Int.reduceToNat, Nat.reducePow, reduceIte, reduceCtorEq, i0, i1, i7, t1])|((with_reducible first|refine jW ?hy ?_|refine jY ?hy ?_);case hy=>rfl)|((with_reducible first|refine jX ?hy ?_|refine jZ ?hy ?_);case hy=>rfl)|((with_reducible refine jF ?hy ?_);case hy=>decide))
  refine node_ok hF3.mem hUh ?_
  repeat' (first|(with_reducible first|refine jA ?_|(refine hK _ _ ?_;clear hK K)|refine jJ fun K hK=>?_|refine jK ?_|refine jL ?_|refine jM ?_|refine jN ?_|refine jO ?_|refine jP ?_|refine jQ ?_|(refine jB ?_;clear hK K)|(refine jC ?_;clear hK K)|refine jD ?_|refine jE ?_|refine jG ?_|refine jH ?_|refine jI ?_)|((with_reducible refine jR ?hq ?_);case hq=>rfl)|((first|(with_reducible first|refine jS fun K hK=>?_|refine jT ?_|refine jU ?_)|((with_reducible refine jV ?hy fun K hK=>?_);case hy=>rfl));simp only [go_sem, Nat.reduceEqDiff, Nat.reduceAdd, Nat.reduceMul, Nat.reduceLeDiff, Nat.reduceLT, Int.reduceLT, Int.reduceLE, Int.reduceEq, Int.reduceNeg, Int.reduceToNat, Nat.reducePow, reduceIte, reduceCtorEq, c4])|((with_reducible first|refine jW ?hy ?_|refine jY ?hy ?_);case hy=>rfl)|((with_reducible first|refine jX ?hy ?_|refine jZ ?hy ?_);case hy=>rfl)|((with_reducible refine jF ?hy ?_);case hy=>decide))
  refine loop_normal (m' := l.list.length) (by simp [Tr.list] <;> omega) ⟨l, h, st1 ++ [(h, r)], B', v', hF3, rfl, rfl, q3, ?_, s6', ?_, ?_, ?_, ?_, ?_, hf1.trans hf13, rfl⟩
  ·intro x hx'
   rcases List.mem_append.1 hx' with hx' | hx'
   ·exact hst1 x hx'
   ·rw [List.mem_singleton.1 hx']
    exact ⟨hUh, er, q4⟩
  ·simpa using s7'
  ·intro b hb
   obtain ⟨a1, a2⟩ := c6 b hb
   refine ⟨a1, fun e => ?_⟩
   rcases hB with rfl | ⟨g', h1, h2⟩
   ·exact a2 e
   ·rw [h1] at e
    obtain rfl := Option.some.inj e
    have := s6.lt hb
    omega
  ·intro b hb
   rcases hB with rfl | ⟨g', h1, h2⟩
   ·exact c7 b hb
   ·rw [h1] at hb
    obtain rfl := Option.some.inj hb
    omega
  ·rw [stL_push, ← hcat1]; simp [Tr.list]
  ·intro _ h; simp at h
theorem all_none {K : Value → Heap → Prop} {i : Int} (hF : FoAt H f p g A nb N S) (hi : ¬ ∃ k : Nat, i = (k : Int) ∧ k ∈ S.rows.flatten) (fin : K (.tuple #[.slice none 0 0, .int .i64 31]) H) :
  CallsH Try.prog 39 #[.pointer (some ⟨f, 0, none⟩), .int .i64 i] H K := by
 refine call39 (by simp) ?_
 simp only [Try.f39, Option.getD_some]
 repeat' (first|(with_reducible first|refine jA ?_|(refine hK _ _ ?_;clear hK K)|refine jJ fun K hK=>?_|refine jK ?_|refine jL ?_|refine jM ?_|refine jN ?_|refine jO ?_|refine jP ?_|refine jQ ?_|(refine jB ?_;clear hK K)|(refine jC ?_;clear hK K)|refine jD ?_|refine jE ?_|refine jG ?_|refine jH ?_|refine jI ?_)|((with_reducible refine jR ?hq ?_);case hq=>rfl)|((first|(with_reducible first|refine jS fun K hK=>?_|refine jT ?_|refine jU ?_)|((with_reducible refine jV ?hy fun K hK=>?_);case hy=>rfl));simp only [go_sem, Nat.reduceEqDiff, Nat.reduceAdd, Nat.reduceMul, Nat.reduceLeDiff, Nat.reduceLT, Int.reduceLT, Int.reduceLE, Int.reduceEq, Int.reduceNeg, Int.reduceToNat, Nat.reducePow, reduceIte, reduceCtorEq])|((with_reducible first|refine jW ?hy ?_|refine jY ?hy ?_);case hy=>rfl)|((with_reducible first|refine jX ?hy ?_|refine jZ ?hy ?_);case hy=>rfl)|((with_reducible refine jF ?hy ?_);case hy=>decide))
 refine node_no hF.mem (hF.none hi) ?_
 repeat' (first|(with_reducible first|refine jA ?_|(refine hK _ _ ?_;clear hK K)|refine jJ fun K hK=>?_|refine jK ?_|refine jL ?_|refine jM ?_|refine jN ?_|refine jO ?_|refine jP ?_|refine jQ ?_|(refine jB ?_;clear hK K)|(refine jC ?_;clear hK K)|refine jD ?_|refine jE ?_|refine jG ?_|refine jH ?_|refine jI ?_)|((with_reducible refine jR ?hq ?_);case hq=>rfl)|((first|(with_reducible first|refine jS fun K hK=>?_|refine jT ?_|refine jU ?_)|((with_reducible refine jV ?hy fun K hK=>?_);case hy=>rfl));simp only [go_sem, Nat.reduceEqDiff, Nat.reduceAdd, Nat.reduceMul, Nat.reduceLeDiff, Nat.reduceLT, Int.reduceLT, Int.reduceLE, Int.reduceEq, Int.reduceNeg, Int.reduceToNat, Nat.reducePow, reduceIte, reduceCtorEq])|((with_reducible first|refine jW ?hy ?_|refine jY ?hy ?_);case hy=>rfl)|((with_reducible first|refine jX ?hy ?_|refine jZ ?hy ?_);case hy=>rfl)|((with_reducible refine jF ?hy ?_);case hy=>decide))
 exact fin
theorem all_ok {K : Value → Heap → Prop} (hF : FoAt H f p g A nb N S) (hx : xs ∈ S.rows) (hk : k ∈ xs)
  (fin : ∀ H' N' B v, FoAt H' f p g A nb N' S → IR H' B v (xs.map Int.ofNat) → (∀ b, B = some b → H.size ≤ b) → Fr (NB A nb) H H' → K (.tuple #[v, .int .i64 0]) H') :
  CallsH Try.prog 39 #[.pointer (some ⟨f, 0, none⟩), .int .i64 k] H K := by
 have hU := hF.u hx hk
 have hlen := (hF.row hx).len
 refine call39 (by simp) ?_
 simp only [Try.f39, Option.getD_some]
 repeat' (first|(with_reducible first|refine jA ?_|(refine hK _ _ ?_;clear hK K)|refine jJ fun K hK=>?_|refine jK ?_|refine jL ?_|refine jM ?_|refine jN ?_|refine jO ?_|refine jP ?_|refine jQ ?_|(refine jB ?_;clear hK K)|(refine jC ?_;clear hK K)|refine jD ?_|refine jE ?_|refine jG ?_|refine jH ?_|refine jI ?_)|((with_reducible refine jR ?hq ?_);case hq=>rfl)|((first|(with_reducible first|refine jS fun K hK=>?_|refine jT ?_|refine jU ?_)|((with_reducible refine jV ?hy fun K hK=>?_);case hy=>rfl));simp only [go_sem, Nat.reduceEqDiff, Nat.reduceAdd, Nat.reduceMul, Nat.reduceLeDiff, Nat.reduceLT, Int.reduceLT, Int.reduceLE, Int.reduceEq, Int.reduceNeg, Int.reduceToNat, Nat.reducePow, reduceIte, reduceCtorEq])|((with_reducible first|refine jW ?hy ?_|refine jY ?hy ?_);case hy=>rfl)|((with_reducible first|refine jX ?hy ?_|refine jZ ?hy ?_);case hy=>rfl)|((with_reducible refine jF ?hy ?_);case hy=>decide))
 refine node_ok hF.mem hU ?_
 repeat' (first|(with_reducible first|refine jA ?_|(refine hK _ _ ?_;clear hK K)|refine jJ fun K hK=>?_|refine jK ?_|refine jL ?_|refine jM ?_|refine jN ?_|refine jO ?_|refine jP ?_|refine jQ ?_|(refine jB ?_;clear hK K)|(refine jC ?_;clear hK K)|refine jD ?_|refine jE ?_|refine jG ?_|refine jH ?_|refine jI ?_)|((with_reducible refine jR ?hq ?_);case hq=>rfl)|((first|(with_reducible first|refine jS fun K hK=>?_|refine jT ?_|refine jU ?_)|((with_reducible refine jV ?hy fun K hK=>?_);case hy=>rfl));simp only [go_sem, Nat.reduceEqDiff, Nat.reduceAdd, Nat.reduceMul, Nat.reduceLeDiff, Nat.reduceLT, Int.reduceLT, Int.reduceLE, Int.reduceEq, Int.reduceNeg, Int.reduceToNat, Nat.reducePow, reduceIte, reduceCtorEq])|((with_reducible first|refine jW ?hy ?_|refine jY ?hy ?_);case hy=>rfl)|((with_reducible first|refine jX ?hy ?_|refine jZ ?hy ?_);case hy=>rfl)|((with_reducible refine jF ?hy ?_);case hy=>decide))
 refine splay_row hF hx hk (hF.apart hx) ?_
 intro H2 N2 a b hF2 ht e hf hoff
 have c6 := (hF2.mem.nd k hU).cellOf (i := 6) rfl
 have em : (N2 k).many = (xs.length : Int) := by
  obtain ⟨_, ek, _⟩ := ht
  rw [ek, ← e]; rfl
 rw [em] at c6
 have h2 : ∀ b, Foot f p g A nb b → b < H2.size := fun b hb => hF2.mem.lt hb
 have hs2 := hf.size
 have tb : (xs.length * 8 ≤ 281474976710656) = True := by simp; omega
 repeat' (first|(with_reducible first|refine jA ?_|(refine hK _ _ ?_;clear hK K)|refine jJ fun K hK=>?_|refine jK ?_|refine jL ?_|refine jM ?_|refine jN ?_|refine jO ?_|refine jP ?_|refine jQ ?_|(refine jB ?_;clear hK K)|(refine jC ?_;clear hK K)|refine jD ?_|refine jE ?_|refine jG ?_|refine jH ?_|refine jI ?_)|((with_reducible refine jR ?hq ?_);case hq=>rfl)|((first|(with_reducible first|refine jS fun K hK=>?_|refine jT ?_|refine jU ?_)|((with_reducible refine jV ?hy fun K hK=>?_);case hy=>rfl));simp only [go_sem, Nat.reduceEqDiff, Nat.reduceAdd, Nat.reduceMul, Nat.reduceLeDiff, Nat.reduceLT, Int.reduceLT, Int.reduceLE, Int.reduceEq, Int.reduceNeg, Int.reduceToNat, Nat.reducePow, reduceIte, reduceCtorEq])|((with_reducible first|refine jW ?hy ?_|refine jY ?hy ?_);case hy=>rfl)|((with_reducible first|refine jX ?hy ?_|refine jZ ?hy ?_);case hy=>rfl)|((with_reducible refine jF ?hy ?_);case hy=>decide))
 refine node_ok hF2.mem hU ?_
 repeat' (first|(with_reducible first|refine jA ?_|(refine hK _ _ ?_;clear hK K)|refine jJ fun K hK=>?_|refine jK ?_|refine jL ?_|refine jM ?_|refine jN ?_|refine jO ?_|refine jP ?_|refine jQ ?_|(refine jB ?_;clear hK K)|(refine jC ?_;clear hK K)|refine jD ?_|refine jE ?_|refine jG ?_|refine jH ?_|refine jI ?_)|((with_reducible refine jR ?hq ?_);case hq=>rfl)|((first|(with_reducible first|refine jS fun K hK=>?_|refine jT ?_|refine jU ?_)|((with_reducible refine jV ?hy fun K hK=>?_);case hy=>rfl));simp only [go_sem, Nat.reduceEqDiff, Nat.reduceAdd, Nat.reduceMul, Nat.reduceLeDiff, Nat.reduceLT, Int.reduceLT, Int.reduceLE, Int.reduceEq, Int.reduceNeg, Int.reduceToNat, Nat.reducePow, reduceIte, reduceCtorEq, c6, tb])|((with_reducible first|refine jW ?hy ?_|refine jY ?hy ?_);case hy=>rfl)|((with_reducible first|refine jX ?hy ?_|refine jZ ?hy ?_);case hy=>rfl)|((with_reducible refine jF ?hy ?_);case hy=>decide))
 have rl : (repL xs.length [Value.int .i64 0]).length = xs.length := by simp [repL_length]
 have r6 := IR.fresh H2 (repL xs.length [Value.int .i64 0]) 3
 rw [rl] at r6
 generalize hH3 : H2.push _ = H3 at r6 ⊢
 have hf23 : Fr (fun _ => False) H2 H3 := by rw [← hH3]; exact (Fr.refl _ _).push _
 have hF3 := hF2.grow hf23
 have hs3 := hf23.size
 clear hH3
 refine x_loop (fun m e' H' => ∃ (t : Tr) (up : Nat) (st : List (Nat × Tr)) (os : List Nat) (B6 B7 : Option Nat) (v6 v7 : Value), FoAt H' f p g A nb N2 S ∧ Fr (fun b => H2.size ≤ b) H2 H' ∧ e' 1 = .int .i64 (t.root : Nat) ∧ e' 6 = v6 ∧ e' 7 = v7 ∧ TrAt N2 S.it up t ∧ StOk A N2 S.it st ∧
   IR H' B6 v6 (os.map Int.ofNat) ∧ IR H' B7 v7 ((st.map (·.1)).map Int.ofNat) ∧ (∀ b, B6 = some b → H2.size ≤ b ∧ B7 ≠ some b) ∧ (∀ b, B7 = some b → H2.size ≤ b) ∧ os ++ t.list ++ stL st = xs ∧ m = xs.length - os.length)
  xs.length ⟨.node a k b, 0, [], [], some H2.size, none, _, _, hF3, hf23.mono (fun _ _ h => h.elim), rfl, rfl, rfl, ht, (fun x h => by cases h), r6, IR.nil H3, (fun b hb => by obtain rfl := Option.some.inj hb; exact ⟨Nat.le_refl _, by simp⟩), (fun b hb => by cases hb), by simp [stL]; exact e, by simp⟩ ?_
 rintro m e1 H4 ⟨t, up, st, os, B6, B7, v6, v7, hF4, hf4, i1, i6, i7, ht4, hst, s6, s7, d6, d7, hcat, rfl⟩ hoff4
 have i0 := (hoff4 0 rfl).trans rfl
 clear hoff4
 obtain ⟨a7, c7, hv7⟩ := s7.slice
 simp only [List.length_map] at hv7
 have i7' := i7.trans hv7
 have hs4 := hf4.size
 have hfin : Fr (NB A nb) H H4 := by
  refine hf.trans' hf4 fun b hb hle => ?_
  omega
 by_cases hend : t = .nil ∧ st = []
 ·obtain ⟨rfl, rfl⟩ := hend
  have i1' : e1 1 = .int .i64 0 := i1
  have q1 : ((0 : Int) != 0) = false := rfl
  have eos : os = xs := by simpa [Tr.list, stL] using hcat
  have i7'' : e1 7 = .slice a7 0 c7 := i7'
  repeat' (first|(with_reducible first|refine jA ?_|(refine hK _ _ ?_;clear hK K)|refine jJ fun K hK=>?_|refine jK ?_|refine jL ?_|refine jM ?_|refine jN ?_|refine jO ?_|refine jP ?_|refine jQ ?_|(refine jB ?_;clear hK K)|(refine jC ?_;clear hK K)|refine jD ?_|refine jE ?_|refine jG ?_|refine jH ?_|refine jI ?_)|((with_reducible refine jR ?hq ?_);case hq=>rfl)|((first|(with_reducible first|refine jS fun K hK=>?_|refine jT ?_|refine jU ?_)|((with_reducible refine jV ?hy fun K hK=>?_);case hy=>rfl));simp only [go_sem, Nat.reduceEqDiff, Nat.reduceAdd, Nat.reduceMul, Nat.reduceLeDiff, Nat.reduceLT, Int.reduceLT, Int.reduceLE, Int.reduceEq, Int.reduceNeg, Int.reduceToNat, Nat.reducePow, reduceIte, reduceCtorEq, i1', i7'', q1, Int.natCast_zero, Int.lt_irrefl])|((with_reducible first|refine jW ?hy ?_|refine jY ?hy ?_);case hy=>rfl)|((with_reducible first|refine jX ?hy ?_|refine jZ ?hy ?_);case hy=>rfl)|((with_reducible refine jF ?hy ?_);case hy=>decide))
  rw [eos] at s6
  rw [i6]
  exact fin _ _ _ _ hF4 s6 (fun b hb => by have := (d6 b hb).1; omega) hfin
 ·have hos : os.length < xs.length := by
   rw [← hcat]
   by_cases hs : st = []
   ·have ht0 : t ≠ .nil := fun h => hend ⟨h, hs⟩
    cases t with
    | nil => exact absurd rfl ht0
    | node l h r => simp [Tr.list]; omega
   ·obtain ⟨x, hx'⟩ := List.exists_mem_of_ne_nil st hs
    have : x.1 ∈ stL st := by unfold stL; rw [List.mem_flatMap]; exact ⟨x, List.mem_reverse.2 hx', .head _⟩
    have := List.length_pos_of_mem this
    simp; omega
  have hgo : t.root ≠ 0 ∨ (t.root = 0 ∧ 0 < st.length) := by
   by_cases h0 : t.root = 0
   ·refine .inr ⟨h0, List.length_pos_iff.2 fun hs => hend ⟨nil_of_root ht4 h0, hs⟩⟩
   ·exact .inl h0
  have rest : True := trivial
  rcases hgo with h0 | ⟨h0, hst0⟩
  case' inl =>
   have q1 : ((t.root : Int) != 0) = true := by simp [h0]
   repeat' (first|(with_reducible first|refine jA ?_|(refine hK _ _ ?_;clear hK K)|refine jJ fun K hK=>?_|refine jK ?_|refine jL ?_|refine jM ?_|refine jN ?_|refine jO ?_|refine jP ?_|refine jQ ?_|(refine jB ?_;clear hK K)|(refine jC ?_;clear hK K)|refine jD ?_|refine jE ?_|refine jG ?_|refine jH ?_|refine jI ?_)|((with_reducible refine jR ?hq ?_);case hq=>rfl)|((first|(with_reducible first|refine jS fun K hK=>?_|refine jT ?_|refine jU ?_)|((with_reducible refine jV ?hy fun K hK=>?_);case hy=>rfl));simp only [go_sem, Nat.reduceEqDiff, Nat.reduceAdd, Nat.reduceMul, Nat.reduceLeDiff, Nat.reduceLT, Int.reduceLT, Int.reduceLE, Int.reduceEq, Int.reduceNeg, Int.reduceToNat, Nat.reducePow, reduceIte, reduceCtorEq, i1, q1])|((with_reducible first|refine jW ?hy ?_|refine jY ?hy ?_);case hy=>rfl)|((with_reducible first|refine jX ?hy ?_|refine jZ ?hy ?_);case hy=>rfl)|((with_reducible refine jF ?hy ?_);case hy=>decide))
  case' inr =>
   have q1 : ((t.root : Int) != 0) = false := by simp [h0]
   have q2 : (0 < st.length) = True := by simp; omega
   have q3 : ((0 : Int) < (st.length : Int)) = True := by simp; omega
   repeat' (first|(with_reducible first|refine jA ?_|(refine hK _ _ ?_;clear hK K)|refine jJ fun K hK=>?_|refine jK ?_|refine jL ?_|refine jM ?_|refine jN ?_|refine jO ?_|refine jP ?_|refine jQ ?_|(refine jB ?_;clear hK K)|(refine jC ?_;clear hK K)|refine jD ?_|refine jE ?_|refine jG ?_|refine jH ?_|refine jI ?_)|((with_reducible refine jR ?hq ?_);case hq=>rfl)|((first|(with_reducible first|refine jS fun K hK=>?_|refine jT ?_|refine jU ?_)|((with_reducible refine jV ?hy fun K hK=>?_);case hy=>rfl));simp only [go_sem, Nat.reduceEqDiff, Nat.reduceAdd, Nat.reduceMul, Nat.reduceLeDiff, Nat.reduceLT, Int.reduceLT, Int.reduceLE, Int.reduceEq, Int.reduceNeg, Int.reduceToNat, Nat.reducePow, reduceIte, reduceCtorEq, i1, i7', q1, q2, q3])|((with_reducible first|refine jW ?hy ?_|refine jY ?hy ?_);case hy=>rfl)|((with_reducible first|refine jX ?hy ?_|refine jZ ?hy ?_);case hy=>rfl)|((with_reducible refine jF ?hy ?_);case hy=>decide))
  all_goals
   refine all_inner (H2 := H2) hF4 h2 hs4 hx (by exact i0) (by exact i1) (by exact i6) (by exact i7) ht4 hst s6 s7 d6 d7 hcat ?_
   intro e5 H5 st5 B5 v5 j0 j1 j6 j7 hF5 hst5 r6' r7' f6 f7 hcat5 hemp5 hf5
   obtain ⟨st', x, rfl⟩ : ∃ st' x, st5 = st' ++ [x] := by
    rcases List.eq_nil_or_concat st5 with h | ⟨st', x, h⟩
    ·obtain ⟨h1, h2⟩ := hemp5 h
     exact absurd ⟨h2, h1⟩ hend
    ·exact ⟨st', x, by simpa using h⟩
   obtain ⟨k5, r5⟩ := x
   obtain ⟨hU5, er5, ht5⟩ := hst5 (k5, r5) (by simp)
   simp only [List.map_append, List.map_cons, List.map_nil] at r7'
   obtain ⟨g7, c7', rst, hg7, hv5, _, _, _⟩ := r7'.row (by simp)
   simp only [List.length_append, List.length_map, List.length_singleton] at hv5
   have j7' := j7.trans hv5
   rw [hg7, hv5] at r7'
   have rx := r7'.cell (i := st'.length) (x := (k5 : Int)) (by simp)
   have r7p := r7'.pop
   have ew : IntKind.i64.wrap (((st'.length + 1 : Nat) : Int) - 1) = (st'.length : Int) := by
    have : st'.length ≤ 9000000000000000000 := by
     have h1 : (stL (st' ++ [(k5, r5)])).length ≤ xs.length := by rw [← hcat5]; simp
     rw [stL_push] at h1
     have := stL_len st'
     simp at h1
     omega
    rw [wrap_i64] <;> omega
   have hle5 : st'.length < st'.length + 1 := by omega
   have hle6 : (st'.length ≤ c7') := by
    obtain ⟨_, h | ⟨g', c', rest', q1, q2, q3, q4, q5⟩⟩ := r7p
    ·cases h.1
    ·simp only [Value.slice.injEq] at q2
     obtain ⟨_, q21, q22⟩ := q2
     simp only [List.length_map] at q5
     omega
   repeat' (first|(with_reducible first|refine jA ?_|(refine hK _ _ ?_;clear hK K)|refine jJ fun K hK=>?_|refine jK ?_|refine jL ?_|refine jM ?_|refine jN ?_|refine jO ?_|refine jP ?_|refine jQ ?_|(refine jB ?_;clear hK K)|(refine jC ?_;clear hK K)|refine jD ?_|refine jE ?_|refine jG ?_|refine jH ?_|refine jI ?_)|((with_reducible refine jR ?hq ?_);case hq=>rfl)|((first|(with_reducible first|refine jS fun K hK=>?_|refine jT ?_|refine jU ?_)|((with_reducible refine jV ?hy fun K hK=>?_);case hy=>rfl));simp only [go_sem, Nat.reduceEqDiff, Nat.reduceAdd, Nat.reduceMul, Nat.reduceLeDiff, Nat.reduceLT, Int.reduceLT, Int.reduceLE, Int.reduceEq, Int.reduceNeg, Int.reduceToNat, Nat.reducePow, reduceIte, reduceCtorEq, j0, j1, j6, j7', ew, hle5, hle6, rx, ite_self])|((with_reducible first|refine jW ?hy ?_|refine jY ?hy ?_);case hy=>rfl)|((with_reducible first|refine jX ?hy ?_|refine jZ ?hy ?_);case hy=>rfl)|((with_reducible refine jF ?hy ?_);case hy=>decide))
   refine append_ir elems22 tl3 r6' rfl (by decide) (by simp; omega) rfl ?_
   intro v8 H8 B8 s8 hf8 hB8
   have hF8 := hF5.other h2 hf8 fun b hb => (f6 b hb).1
   have c5 := (hF8.mem.nd k5 hU5).cellOf (i := 5) rfl
   rw [er5] at c5
   have hf28 : Fr (fun b => H2.size ≤ b) H2 H8 := (hf4.trans hf5).trans (hf8.mono fun b _ e => (f6 b e).1)
   repeat' (first|(with_reducible first|refine jA ?_|(refine hK _ _ ?_;clear hK K)|refine jJ fun K hK=>?_|refine jK ?_|refine jL ?_|refine jM ?_|refine jN ?_|refine jO ?_|refine jP ?_|refine jQ ?_|(refine jB ?_;clear hK K)|(refine jC ?_;clear hK K)|refine jD ?_|refine jE ?_|refine jG ?_|refine jH ?_|refine jI ?_)|((with_reducible refine jR ?hq ?_);case hq=>rfl)|((first|(with_reducible first|refine jS fun K hK=>?_|refine jT ?_|refine jU ?_)|((with_reducible refine jV ?hy fun K hK=>?_);case hy=>rfl));simp only [go_sem, Nat.reduceEqDiff, Nat.reduceAdd, Nat.reduceMul, Nat.reduceLeDiff, Nat.reduceLT, Int.reduceLT, Int.reduceLE, Int.reduceEq, Int.reduceNeg, Int.reduceToNat, Nat.reducePow, reduceIte, reduceCtorEq, j0, j1, j6, j7'])|((with_reducible first|refine jW ?hy ?_|refine jY ?hy ?_);case hy=>rfl)|((with_reducible first|refine jX ?hy ?_|refine jZ ?hy ?_);case hy=>rfl)|((with_reducible refine jF ?hy ?_);case hy=>decide))
   refine node_ok hF8.mem hU5 ?_
   repeat' (first|(with_reducible first|refine jA ?_|(refine hK _ _ ?_;clear hK K)|refine jJ fun K hK=>?_|refine jK ?_|refine jL ?_|refine jM ?_|refine jN ?_|refine jO ?_|refine jP ?_|refine jQ ?_|(refine jB ?_;clear hK K)|(refine jC ?_;clear hK K)|refine jD ?_|refine jE ?_|refine jG ?_|refine jH ?_|refine jI ?_)|((with_reducible refine jR ?hq ?_);case hq=>rfl)|((first|(with_reducible first|refine jS fun K hK=>?_|refine jT ?_|refine jU ?_)|((with_reducible refine jV ?hy fun K hK=>?_);case hy=>rfl));simp only [go_sem, Nat.reduceEqDiff, Nat.reduceAdd, Nat.reduceMul, Nat.reduceLeDiff, Nat.reduceLT, Int.reduceLT, Int.reduceLE, Int.reduceEq, Int.reduceNeg, Int.reduceToNat, Nat.reducePow, reduceIte, reduceCtorEq, c5])|((with_reducible first|refine jW ?hy ?_|refine jY ?hy ?_);case hy=>rfl)|((with_reducible first|refine jX ?hy ?_|refine jZ ?hy ?_);case hy=>rfl)|((with_reducible refine jF ?hy ?_);case hy=>decide))
   have s7f : IR H8 (some g7) (.slice (some ⟨g7, 0, none⟩) st'.length c7') ((st'.map (·.1)).map Int.ofNat) := by
    refine (IR.frame ?_ hf8 fun b hb e => (f6 b e).2 (hg7.trans hb))
    simpa using r7p
   have hs5 := hf5.size
   refine loop_normal (m' := xs.length - (os ++ [k5]).length) (by simp; omega) ⟨r5, k5, st', os ++ [k5], B8, some g7, v8, _, hF8, hf28, rfl, rfl, rfl, ht5, (fun x hx' => hst5 x (by simp [hx'])), by simpa using s8, s7f, ?_, ?_, ?_, rfl⟩
   ·intro b hb
    rcases hB8 with h | ⟨g', h1, h2'⟩
    ·rw [h] at hb
     obtain ⟨a1, a2⟩ := f6 b hb
     exact ⟨a1, fun e => a2 (hg7.trans e)⟩
    ·rw [h1] at hb
     obtain rfl := Option.some.inj hb
     refine ⟨by omega, fun e => ?_⟩
     obtain rfl := Option.some.inj e
     have := r7'.lt rfl
     omega
   ·intro b hb
    exact f7 b (hg7.trans hb)
   ·rw [← hcat5, stL_push]; simp
end
end Go.Proofs.Ytnlafhnbakipmaa
namespace Go.Proofs.Ytnlafhnbakipmaa
open Go Go.Hp Go.Sp
set_option linter.all false
set_option maxRecDepth 100000
set_option maxHeartbeats 1600000

section
variable {H H' : Heap} {f : Nat} {T : Nat → Prop} {S : Sq} {K : Value → Heap → Prop} {k j : Nat} {R : List (List Nat)} {xs ys : List Nat}
theorem get_none {p g : Nat} {A : Ar} {nb : Nat → Nat} {N : Nodes} {S : Fo} {i : Int} (hF : FoAt H f p g A nb N S) (hi : ¬ ∃ k : Nat, i = (k : Int) ∧ k ∈ S.rows.flatten) (fin : ∀ H', Fr (fun _ => False) H H' → K (.tuple #[Sp.Item.zero.val, .int .i64 31]) H') :
  CallsH Try.prog 76 #[.pointer (some ⟨f, 0, none⟩), .int .i64 i] H K := by
 refine call76 (by simp) ?_
 simp only [Try.f76, Option.getD_some]
 repeat' (first|(with_reducible first|refine jA ?_|(refine hK _ _ ?_;clear hK K)|refine jJ fun K hK=>?_|refine jK ?_|refine jL ?_|refine jM ?_|refine jN ?_|refine jO ?_|refine jP ?_|refine jQ ?_|(refine jB ?_;clear hK K)|(refine jC ?_;clear hK K)|refine jD ?_|refine jE ?_|refine jG ?_|refine jH ?_|refine jI ?_)|((with_reducible refine jR ?hq ?_);case hq=>rfl)|((first|(with_reducible first|refine jS fun K hK=>?_|refine jT ?_|refine jU ?_)|((with_reducible refine jV ?hy fun K hK=>?_);case hy=>rfl));simp only [go_sem, Nat.reduceEqDiff, Nat.reduceAdd, Nat.reduceMul, Nat.reduceLeDiff, Nat.reduceLT, Int.reduceLT, Int.reduceLE, Int.reduceEq, Int.reduceNeg, Int.reduceToNat, Nat.reducePow, reduceIte, reduceCtorEq, hcell_push, hcell_top, okW_push, okW_top, hcell_hset_ne, hcell_hset_off, hcell_hset_eq, okW_hset, hset_size, Array.size_push, Nat.lt_add_one, ne_add_one, add_one_ne, Nat.add_assoc, add_same, add_lt_same, Nat.reduceEqDiff, lt_add_k, add_k_ne, ne_add_k])|((with_reducible first|refine jW ?hy ?_|refine jY ?hy ?_);case hy=>rfl)|((with_reducible first|refine jX ?hy ?_|refine jZ ?hy ?_);case hy=>rfl)|((with_reducible refine jF ?hy ?_);case hy=>decide))
 refine node_no (hF.grow ((Fr.refl _ _).push _)).mem (hF.none hi) ?_
 repeat' (first|(with_reducible first|refine jA ?_|(refine hK _ _ ?_;clear hK K)|refine jJ fun K hK=>?_|refine jK ?_|refine jL ?_|refine jM ?_|refine jN ?_|refine jO ?_|refine jP ?_|refine jQ ?_|(refine jB ?_;clear hK K)|(refine jC ?_;clear hK K)|refine jD ?_|refine jE ?_|refine jG ?_|refine jH ?_|refine jI ?_)|((with_reducible refine jR ?hq ?_);case hq=>rfl)|((first|(with_reducible first|refine jS fun K hK=>?_|refine jT ?_|refine jU ?_)|((with_reducible refine jV ?hy fun K hK=>?_);case hy=>rfl));simp only [go_sem, Nat.reduceEqDiff, Nat.reduceAdd, Nat.reduceMul, Nat.reduceLeDiff, Nat.reduceLT, Int.reduceLT, Int.reduceLE, Int.reduceEq, Int.reduceNeg, Int.reduceToNat, Nat.reducePow, reduceIte, reduceCtorEq, hcell_push, hcell_top, okW_push, okW_top, hcell_hset_ne, hcell_hset_off, hcell_hset_eq, okW_hset, hset_size, Array.size_push, Nat.lt_add_one, ne_add_one, add_one_ne, Nat.add_assoc, add_same, add_lt_same, Nat.reduceEqDiff, lt_add_k, add_k_ne, ne_add_k])|((with_reducible first|refine jW ?hy ?_|refine jY ?hy ?_);case hy=>rfl)|((with_reducible first|refine jX ?hy ?_|refine jZ ?hy ?_);case hy=>rfl)|((with_reducible refine jF ?hy ?_);case hy=>decide))
 exact fin _ (by ((repeat (first | refine Fr.set ?_ (by simp) _ | refine Fr.push ?_ _)); exact Fr.refl _ _))
theorem rank_none {p g : Nat} {A : Ar} {nb : Nat → Nat} {N : Nodes} {S : Fo} {i : Int} (hF : FoAt H f p g A nb N S) (hi : ¬ ∃ k : Nat, i = (k : Int) ∧ k ∈ S.rows.flatten) (fin : K (.tuple #[.int .i64 0, .int .i64 31]) H) :
  CallsH Try.prog 41 #[.pointer (some ⟨f, 0, none⟩), .int .i64 i] H K := by
 refine call41 (by simp) ?_
 simp only [Try.f41, Option.getD_some]
 repeat' (first|(with_reducible first|refine jA ?_|(refine hK _ _ ?_;clear hK K)|refine jJ fun K hK=>?_|refine jK ?_|refine jL ?_|refine jM ?_|refine jN ?_|refine jO ?_|refine jP ?_|refine jQ ?_|(refine jB ?_;clear hK K)|(refine jC ?_;clear hK K)|refine jD ?_|refine jE ?_|refine jG ?_|refine jH ?_|refine jI ?_)|((with_reducible refine jR ?hq ?_);case hq=>rfl)|((first|(with_reducible first|refine jS fun K hK=>?_|refine jT ?_|refine jU ?_)|((with_reducible refine jV ?hy fun K hK=>?_);case hy=>rfl));simp only [go_sem, Nat.reduceEqDiff, Nat.reduceAdd, Nat.reduceMul, Nat.reduceLeDiff, Nat.reduceLT, Int.reduceLT, Int.reduceLE, Int.reduceEq, Int.reduceNeg, Int.reduceToNat, Nat.reducePow, reduceIte, reduceCtorEq])|((with_reducible first|refine jW ?hy ?_|refine jY ?hy ?_);case hy=>rfl)|((with_reducible first|refine jX ?hy ?_|refine jZ ?hy ?_);case hy=>rfl)|((with_reducible refine jF ?hy ?_);case hy=>decide))
 refine node_no hF.mem (hF.none hi) ?_
 repeat' (first|(with_reducible first|refine jA ?_|(refine hK _ _ ?_;clear hK K)|refine jJ fun K hK=>?_|refine jK ?_|refine jL ?_|refine jM ?_|refine jN ?_|refine jO ?_|refine jP ?_|refine jQ ?_|(refine jB ?_;clear hK K)|(refine jC ?_;clear hK K)|refine jD ?_|refine jE ?_|refine jG ?_|refine jH ?_|refine jI ?_)|((with_reducible refine jR ?hq ?_);case hq=>rfl)|((first|(with_reducible first|refine jS fun K hK=>?_|refine jT ?_|refine jU ?_)|((with_reducible refine jV ?hy fun K hK=>?_);case hy=>rfl));simp only [go_sem, Nat.reduceEqDiff, Nat.reduceAdd, Nat.reduceMul, Nat.reduceLeDiff, Nat.reduceLT, Int.reduceLT, Int.reduceLE, Int.reduceEq, Int.reduceNeg, Int.reduceToNat, Nat.reducePow, reduceIte, reduceCtorEq])|((with_reducible first|refine jW ?hy ?_|refine jY ?hy ?_);case hy=>rfl)|((with_reducible first|refine jX ?hy ?_|refine jZ ?hy ?_);case hy=>rfl)|((with_reducible refine jF ?hy ?_);case hy=>decide))
 exact fin
theorem sum_none {p g : Nat} {A : Ar} {nb : Nat → Nat} {N : Nodes} {S : Fo} {i : Int} (hF : FoAt H f p g A nb N S) (hi : ¬ ∃ k : Nat, i = (k : Int) ∧ k ∈ S.rows.flatten) (fin : ∀ H', Fr (fun _ => False) H H' → K (.tuple #[Agg.zero.val, .int .i64 31]) H') :
  CallsH Try.prog 50 #[.pointer (some ⟨f, 0, none⟩), .int .i64 i] H K := by
 refine call50 (by simp) ?_
 simp only [Try.f50, Option.getD_some]
 repeat' (first|(with_reducible first|refine jA ?_|(refine hK _ _ ?_;clear hK K)|refine jJ fun K hK=>?_|refine jK ?_|refine jL ?_|refine jM ?_|refine jN ?_|refine jO ?_|refine jP ?_|refine jQ ?_|(refine jB ?_;clear hK K)|(refine jC ?_;clear hK K)|refine jD ?_|refine jE ?_|refine jG ?_|refine jH ?_|refine jI ?_)|((with_reducible refine jR ?hq ?_);case hq=>rfl)|((first|(with_reducible first|refine jS fun K hK=>?_|refine jT ?_|refine jU ?_)|((with_reducible refine jV ?hy fun K hK=>?_);case hy=>rfl));simp only [go_sem, Nat.reduceEqDiff, Nat.reduceAdd, Nat.reduceMul, Nat.reduceLeDiff, Nat.reduceLT, Int.reduceLT, Int.reduceLE, Int.reduceEq, Int.reduceNeg, Int.reduceToNat, Nat.reducePow, reduceIte, reduceCtorEq, hcell_push, hcell_top, okW_push, okW_top, hcell_hset_ne, hcell_hset_off, hcell_hset_eq, okW_hset, hset_size, Array.size_push, Nat.lt_add_one, ne_add_one, add_one_ne, Nat.add_assoc, add_same, add_lt_same, Nat.reduceEqDiff, lt_add_k, add_k_ne, ne_add_k])|((with_reducible first|refine jW ?hy ?_|refine jY ?hy ?_);case hy=>rfl)|((with_reducible first|refine jX ?hy ?_|refine jZ ?hy ?_);case hy=>rfl)|((with_reducible refine jF ?hy ?_);case hy=>decide))
 refine node_no (hF.grow ((Fr.refl _ _).push _)).mem (hF.none hi) ?_
 repeat' (first|(with_reducible first|refine jA ?_|(refine hK _ _ ?_;clear hK K)|refine jJ fun K hK=>?_|refine jK ?_|refine jL ?_|refine jM ?_|refine jN ?_|refine jO ?_|refine jP ?_|refine jQ ?_|(refine jB ?_;clear hK K)|(refine jC ?_;clear hK K)|refine jD ?_|refine jE ?_|refine jG ?_|refine jH ?_|refine jI ?_)|((with_reducible refine jR ?hq ?_);case hq=>rfl)|((first|(with_reducible first|refine jS fun K hK=>?_|refine jT ?_|refine jU ?_)|((with_reducible refine jV ?hy fun K hK=>?_);case hy=>rfl));simp only [go_sem, Nat.reduceEqDiff, Nat.reduceAdd, Nat.reduceMul, Nat.reduceLeDiff, Nat.reduceLT, Int.reduceLT, Int.reduceLE, Int.reduceEq, Int.reduceNeg, Int.reduceToNat, Nat.reducePow, reduceIte, reduceCtorEq, hcell_push, hcell_top, okW_push, okW_top, hcell_hset_ne, hcell_hset_off, hcell_hset_eq, okW_hset, hset_size, Array.size_push, Nat.lt_add_one, ne_add_one, add_one_ne, Nat.add_assoc, add_same, add_lt_same, Nat.reduceEqDiff, lt_add_k, add_k_ne, ne_add_k])|((with_reducible first|refine jW ?hy ?_|refine jY ?hy ?_);case hy=>rfl)|((with_reducible first|refine jX ?hy ?_|refine jZ ?hy ?_);case hy=>rfl)|((with_reducible refine jF ?hy ?_);case hy=>decide))
 exact fin _ (by ((repeat (first | refine Fr.set ?_ (by simp) _ | refine Fr.push ?_ _)); exact Fr.refl _ _))
theorem split_none {p g : Nat} {A : Ar} {nb : Nat → Nat} {N : Nodes} {S : Fo} {i : Int} (hF : FoAt H f p g A nb N S) (hi : ¬ ∃ k : Nat, i = (k : Int) ∧ k ∈ S.rows.flatten) (fin : K (.int .i64 31) H) :
  CallsH Try.prog 36 #[.pointer (some ⟨f, 0, none⟩), .int .i64 i] H K := by
 refine call36 (by simp) ?_
 simp only [Try.f36, Option.getD_some]
 repeat' (first|(with_reducible first|refine jA ?_|(refine hK _ _ ?_;clear hK K)|refine jJ fun K hK=>?_|refine jK ?_|refine jL ?_|refine jM ?_|refine jN ?_|refine jO ?_|refine jP ?_|refine jQ ?_|(refine jB ?_;clear hK K)|(refine jC ?_;clear hK K)|refine jD ?_|refine jE ?_|refine jG ?_|refine jH ?_|refine jI ?_)|((with_reducible refine jR ?hq ?_);case hq=>rfl)|((first|(with_reducible first|refine jS fun K hK=>?_|refine jT ?_|refine jU ?_)|((with_reducible refine jV ?hy fun K hK=>?_);case hy=>rfl));simp only [go_sem, Nat.reduceEqDiff, Nat.reduceAdd, Nat.reduceMul, Nat.reduceLeDiff, Nat.reduceLT, Int.reduceLT, Int.reduceLE, Int.reduceEq, Int.reduceNeg, Int.reduceToNat, Nat.reducePow, reduceIte, reduceCtorEq])|((with_reducible first|refine jW ?hy ?_|refine jY ?hy ?_);case hy=>rfl)|((with_reducible first|refine jX ?hy ?_|refine jZ ?hy ?_);case hy=>rfl)|((with_reducible refine jF ?hy ?_);case hy=>decide))
 refine node_no hF.mem (hF.none hi) ?_
 repeat' (first|(with_reducible first|refine jA ?_|(refine hK _ _ ?_;clear hK K)|refine jJ fun K hK=>?_|refine jK ?_|refine jL ?_|refine jM ?_|refine jN ?_|refine jO ?_|refine jP ?_|refine jQ ?_|(refine jB ?_;clear hK K)|(refine jC ?_;clear hK K)|refine jD ?_|refine jE ?_|refine jG ?_|refine jH ?_|refine jI ?_)|((with_reducible refine jR ?hq ?_);case hq=>rfl)|((first|(with_reducible first|refine jS fun K hK=>?_|refine jT ?_|refine jU ?_)|((with_reducible refine jV ?hy fun K hK=>?_);case hy=>rfl));simp only [go_sem, Nat.reduceEqDiff, Nat.reduceAdd, Nat.reduceMul, Nat.reduceLeDiff, Nat.reduceLT, Int.reduceLT, Int.reduceLE, Int.reduceEq, Int.reduceNeg, Int.reduceToNat, Nat.reducePow, reduceIte, reduceCtorEq])|((with_reducible first|refine jW ?hy ?_|refine jY ?hy ?_);case hy=>rfl)|((with_reducible first|refine jX ?hy ?_|refine jZ ?hy ?_);case hy=>rfl)|((with_reducible refine jF ?hy ?_);case hy=>decide))
 exact fin
theorem psame_none {p g : Nat} {A : Ar} {nb : Nat → Nat} {N : Nodes} {S : Fo} {a b : Int} (hF : FoAt H f p g A nb N S) (hi : (¬ ∃ k : Nat, a = (k : Int) ∧ k ∈ S.rows.flatten) ∨ (¬ ∃ k : Nat, b = (k : Int) ∧ k ∈ S.rows.flatten)) (fin : K (.tuple #[.bool false, .int .i64 31]) H) :
  CallsH Try.prog 33 #[.pointer (some ⟨f, 0, none⟩), .int .i64 a, .int .i64 b] H K := by
 refine call33 (by simp) ?_
 simp only [Try.f33, Option.getD_some]
 repeat' (first|(with_reducible first|refine jA ?_|(refine hK _ _ ?_;clear hK K)|refine jJ fun K hK=>?_|refine jK ?_|refine jL ?_|refine jM ?_|refine jN ?_|refine jO ?_|refine jP ?_|refine jQ ?_|(refine jB ?_;clear hK K)|(refine jC ?_;clear hK K)|refine jD ?_|refine jE ?_|refine jG ?_|refine jH ?_|refine jI ?_)|((with_reducible refine jR ?hq ?_);case hq=>rfl)|((first|(with_reducible first|refine jS fun K hK=>?_|refine jT ?_|refine jU ?_)|((with_reducible refine jV ?hy fun K hK=>?_);case hy=>rfl));simp only [go_sem, Nat.reduceEqDiff, Nat.reduceAdd, Nat.reduceMul, Nat.reduceLeDiff, Nat.reduceLT, Int.reduceLT, Int.reduceLE, Int.reduceEq, Int.reduceNeg, Int.reduceToNat, Nat.reducePow, reduceIte, reduceCtorEq])|((with_reducible first|refine jW ?hy ?_|refine jY ?hy ?_);case hy=>rfl)|((with_reducible first|refine jX ?hy ?_|refine jZ ?hy ?_);case hy=>rfl)|((with_reducible refine jF ?hy ?_);case hy=>decide))
 by_cases ha : ∃ k : Nat, a = (k : Int) ∧ k ∈ S.rows.flatten
 ·obtain ⟨k, rfl, hk⟩ := ha
  have hi := hi.resolve_left (fun h => h ⟨k, rfl, hk⟩)
  refine node_ok hF.mem ((hF.use k).1 hk) ?_
  repeat' (first|(with_reducible first|refine jA ?_|(refine hK _ _ ?_;clear hK K)|refine jJ fun K hK=>?_|refine jK ?_|refine jL ?_|refine jM ?_|refine jN ?_|refine jO ?_|refine jP ?_|refine jQ ?_|(refine jB ?_;clear hK K)|(refine jC ?_;clear hK K)|refine jD ?_|refine jE ?_|refine jG ?_|refine jH ?_|refine jI ?_)|((with_reducible refine jR ?hq ?_);case hq=>rfl)|((first|(with_reducible first|refine jS fun K hK=>?_|refine jT ?_|refine jU ?_)|((with_reducible refine jV ?hy fun K hK=>?_);case hy=>rfl));simp only [go_sem, Nat.reduceEqDiff, Nat.reduceAdd, Nat.reduceMul, Nat.reduceLeDiff, Nat.reduceLT, Int.reduceLT, Int.reduceLE, Int.reduceEq, Int.reduceNeg, Int.reduceToNat, Nat.reducePow, reduceIte, reduceCtorEq])|((with_reducible first|refine jW ?hy ?_|refine jY ?hy ?_);case hy=>rfl)|((with_reducible first|refine jX ?hy ?_|refine jZ ?hy ?_);case hy=>rfl)|((with_reducible refine jF ?hy ?_);case hy=>decide))
  refine node_no hF.mem (hF.none hi) ?_
  repeat' (first|(with_reducible first|refine jA ?_|(refine hK _ _ ?_;clear hK K)|refine jJ fun K hK=>?_|refine jK ?_|refine jL ?_|refine jM ?_|refine jN ?_|refine jO ?_|refine jP ?_|refine jQ ?_|(refine jB ?_;clear hK K)|(refine jC ?_;clear hK K)|refine jD ?_|refine jE ?_|refine jG ?_|refine jH ?_|refine jI ?_)|((with_reducible refine jR ?hq ?_);case hq=>rfl)|((first|(with_reducible first|refine jS fun K hK=>?_|refine jT ?_|refine jU ?_)|((with_reducible refine jV ?hy fun K hK=>?_);case hy=>rfl));simp only [go_sem, Nat.reduceEqDiff, Nat.reduceAdd, Nat.reduceMul, Nat.reduceLeDiff, Nat.reduceLT, Int.reduceLT, Int.reduceLE, Int.reduceEq, Int.reduceNeg, Int.reduceToNat, Nat.reducePow, reduceIte, reduceCtorEq])|((with_reducible first|refine jW ?hy ?_|refine jY ?hy ?_);case hy=>rfl)|((with_reducible first|refine jX ?hy ?_|refine jZ ?hy ?_);case hy=>rfl)|((with_reducible refine jF ?hy ?_);case hy=>decide))
  exact fin
 ·refine node_no hF.mem (hF.none ha) ?_
  repeat' (first|(with_reducible first|refine jA ?_|(refine hK _ _ ?_;clear hK K)|refine jJ fun K hK=>?_|refine jK ?_|refine jL ?_|refine jM ?_|refine jN ?_|refine jO ?_|refine jP ?_|refine jQ ?_|(refine jB ?_;clear hK K)|(refine jC ?_;clear hK K)|refine jD ?_|refine jE ?_|refine jG ?_|refine jH ?_|refine jI ?_)|((with_reducible refine jR ?hq ?_);case hq=>rfl)|((first|(with_reducible first|refine jS fun K hK=>?_|refine jT ?_|refine jU ?_)|((with_reducible refine jV ?hy fun K hK=>?_);case hy=>rfl));simp only [go_sem, Nat.reduceEqDiff, Nat.reduceAdd, Nat.reduceMul, Nat.reduceLeDiff, Nat.reduceLT, Int.reduceLT, Int.reduceLE, Int.reduceEq, Int.reduceNeg, Int.reduceToNat, Nat.reducePow, reduceIte, reduceCtorEq])|((with_reducible first|refine jW ?hy ?_|refine jY ?hy ?_);case hy=>rfl)|((with_reducible first|refine jX ?hy ?_|refine jZ ?hy ?_);case hy=>rfl)|((with_reducible refine jF ?hy ?_);case hy=>decide))
  exact fin
theorem psame_ok {p g : Nat} {A : Ar} {nb : Nat → Nat} {N : Nodes} {S : Fo} (hF : FoAt H f p g A nb N S) (hx : xs ∈ S.rows) (hk : k ∈ xs) (hy : ys ∈ S.rows) (hj : j ∈ ys)
  (fin : ∀ H' N' (b : Bool), FoAt H' f p g A nb N' S → Fr (NB A nb) H H' → (b = true ↔ ys = xs) → K (.tuple #[.bool b, .int .i64 0]) H') :
  CallsH Try.prog 33 #[.pointer (some ⟨f, 0, none⟩), .int .i64 k, .int .i64 j] H K := by
 refine call33 (by simp) ?_
 simp only [Try.f33, Option.getD_some]
 repeat' (first|(with_reducible first|refine jA ?_|(refine hK _ _ ?_;clear hK K)|refine jJ fun K hK=>?_|refine jK ?_|refine jL ?_|refine jM ?_|refine jN ?_|refine jO ?_|refine jP ?_|refine jQ ?_|(refine jB ?_;clear hK K)|(refine jC ?_;clear hK K)|refine jD ?_|refine jE ?_|refine jG ?_|refine jH ?_|refine jI ?_)|((with_reducible refine jR ?hq ?_);case hq=>rfl)|((first|(with_reducible first|refine jS fun K hK=>?_|refine jT ?_|refine jU ?_)|((with_reducible refine jV ?hy fun K hK=>?_);case hy=>rfl));simp only [go_sem, Nat.reduceEqDiff, Nat.reduceAdd, Nat.reduceMul, Nat.reduceLeDiff, Nat.reduceLT, Int.reduceLT, Int.reduceLE, Int.reduceEq, Int.reduceNeg, Int.reduceToNat, Nat.reducePow, reduceIte, reduceCtorEq])|((with_reducible first|refine jW ?hy ?_|refine jY ?hy ?_);case hy=>rfl)|((with_reducible first|refine jX ?hy ?_|refine jZ ?hy ?_);case hy=>rfl)|((with_reducible refine jF ?hy ?_);case hy=>decide))
 refine node_ok hF.mem (hF.u hx hk) ?_
 repeat' (first|(with_reducible first|refine jA ?_|(refine hK _ _ ?_;clear hK K)|refine jJ fun K hK=>?_|refine jK ?_|refine jL ?_|refine jM ?_|refine jN ?_|refine jO ?_|refine jP ?_|refine jQ ?_|(refine jB ?_;clear hK K)|(refine jC ?_;clear hK K)|refine jD ?_|refine jE ?_|refine jG ?_|refine jH ?_|refine jI ?_)|((with_reducible refine jR ?hq ?_);case hq=>rfl)|((first|(with_reducible first|refine jS fun K hK=>?_|refine jT ?_|refine jU ?_)|((with_reducible refine jV ?hy fun K hK=>?_);case hy=>rfl));simp only [go_sem, Nat.reduceEqDiff, Nat.reduceAdd, Nat.reduceMul, Nat.reduceLeDiff, Nat.reduceLT, Int.reduceLT, Int.reduceLE, Int.reduceEq, Int.reduceNeg, Int.reduceToNat, Nat.reducePow, reduceIte, reduceCtorEq])|((with_reducible first|refine jW ?hy ?_|refine jY ?hy ?_);case hy=>rfl)|((with_reducible first|refine jX ?hy ?_|refine jZ ?hy ?_);case hy=>rfl)|((with_reducible refine jF ?hy ?_);case hy=>decide))
 refine node_ok hF.mem (hF.u hy hj) ?_
 repeat' (first|(with_reducible first|refine jA ?_|(refine hK _ _ ?_;clear hK K)|refine jJ fun K hK=>?_|refine jK ?_|refine jL ?_|refine jM ?_|refine jN ?_|refine jO ?_|refine jP ?_|refine jQ ?_|(refine jB ?_;clear hK K)|(refine jC ?_;clear hK K)|refine jD ?_|refine jE ?_|refine jG ?_|refine jH ?_|refine jI ?_)|((with_reducible refine jR ?hq ?_);case hq=>rfl)|((first|(with_reducible first|refine jS fun K hK=>?_|refine jT ?_|refine jU ?_)|((with_reducible refine jV ?hy fun K hK=>?_);case hy=>rfl));simp only [go_sem, Nat.reduceEqDiff, Nat.reduceAdd, Nat.reduceMul, Nat.reduceLeDiff, Nat.reduceLT, Int.reduceLT, Int.reduceLE, Int.reduceEq, Int.reduceNeg, Int.reduceToNat, Nat.reducePow, reduceIte, reduceCtorEq])|((with_reducible first|refine jW ?hy ?_|refine jY ?hy ?_);case hy=>rfl)|((with_reducible first|refine jX ?hy ?_|refine jZ ?hy ?_);case hy=>rfl)|((with_reducible refine jF ?hy ?_);case hy=>decide))
 refine same_ok hF hx hk hy hj ?_
 intro H1 N1 b hF1 hf1 hb
 repeat' (first|(with_reducible first|refine jA ?_|(refine hK _ _ ?_;clear hK K)|refine jJ fun K hK=>?_|refine jK ?_|refine jL ?_|refine jM ?_|refine jN ?_|refine jO ?_|refine jP ?_|refine jQ ?_|(refine jB ?_;clear hK K)|(refine jC ?_;clear hK K)|refine jD ?_|refine jE ?_|refine jG ?_|refine jH ?_|refine jI ?_)|((with_reducible refine jR ?hq ?_);case hq=>rfl)|((first|(with_reducible first|refine jS fun K hK=>?_|refine jT ?_|refine jU ?_)|((with_reducible refine jV ?hy fun K hK=>?_);case hy=>rfl));simp only [go_sem, Nat.reduceEqDiff, Nat.reduceAdd, Nat.reduceMul, Nat.reduceLeDiff, Nat.reduceLT, Int.reduceLT, Int.reduceLE, Int.reduceEq, Int.reduceNeg, Int.reduceToNat, Nat.reducePow, reduceIte, reduceCtorEq])|((with_reducible first|refine jW ?hy ?_|refine jY ?hy ?_);case hy=>rfl)|((with_reducible first|refine jX ?hy ?_|refine jZ ?hy ?_);case hy=>rfl)|((with_reducible refine jF ?hy ?_);case hy=>decide))
 exact fin _ _ _ hF1 hf1 hb
theorem FoM.after {p g : Nat} {A : Ar} {nb : Nat → Nat} {N' : Nodes} {it' : Nat → Sp.Item} {R : List (List Nat)} (h2 : A.room = S.room) (h3 : A.vals.length = S.top) (h4 : A.free = S.free) (h5 : ∀ b, Foot f p g A nb b → T b) (h6 : ∀ b, T b → b < H.size)
  (hF : FoAt H' f p g A nb N' ⟨it', R⟩) (hf : Fr (NB A nb) H H') : FoM H' f T { S with it := it', rows := R } ∧ Fr T H H' :=
 ⟨⟨p, g, A, nb, N', hF, h2, h3, h4, h5, fun b hb => Nat.lt_of_lt_of_le (h6 b hb) hf.size⟩, hf.mono fun b _ hb => h5 b (.inr (.inr (.inr hb)))⟩
theorem m_get (hM : FoM H f T S) (hk : k ∈ S.rows.flatten) (fin : ∀ H', FoM H' f T S → Fr T H H' → K (.tuple #[(S.it k).val, .int .i64 0]) H') : CallsH Try.prog 76 #[.pointer (some ⟨f, 0, none⟩), .int .i64 k] H K := by
 have hM' := hM
 obtain ⟨p, g, A, nb, N, hF, h2, h3, h4, h5, h6⟩ := hM
 obtain ⟨xs, hx, hk⟩ := List.mem_flatten.1 hk
 exact get_ok hF hx hk fun H' hf => fin H' (hM'.grow hf) (hf.mono fun _ _ h => h.elim)
theorem m_get_none {i : Int} (hM : FoM H f T S) (hi : ¬ S.Has i) (fin : ∀ H', FoM H' f T S → Fr T H H' → K (.tuple #[Sp.Item.zero.val, .int .i64 31]) H') : CallsH Try.prog 76 #[.pointer (some ⟨f, 0, none⟩), .int .i64 i] H K := by
 have hM' := hM
 obtain ⟨p, g, A, nb, N, hF, h2, h3, h4, h5, h6⟩ := hM
 exact get_none hF hi fun H' hf => fin H' (hM'.grow hf) (hf.mono fun _ _ h => h.elim)
theorem m_rank {l r : List Nat} (hM : FoM H f T S) (hx : xs ∈ S.rows) (hxs : xs = l ++ k :: r) (fin : ∀ H', FoM H' f T S → Fr T H H' → K (.tuple #[.int .i64 (l.length : Nat), .int .i64 0]) H') : CallsH Try.prog 41 #[.pointer (some ⟨f, 0, none⟩), .int .i64 k] H K := by
 obtain ⟨p, g, A, nb, N, hF, h2, h3, h4, h5, h6⟩ := hM
 refine rank_ok hF hx hxs fun H' N' hF' hf => ?_
 obtain ⟨a, b⟩ := FoM.after h2 h3 h4 h5 h6 hF' hf
 exact fin H' a b
theorem m_rank_none {i : Int} (hM : FoM H f T S) (hi : ¬ S.Has i) (fin : K (.tuple #[.int .i64 0, .int .i64 31]) H) : CallsH Try.prog 41 #[.pointer (some ⟨f, 0, none⟩), .int .i64 i] H K := by
 obtain ⟨p, g, A, nb, N, hF, h2, h3, h4, h5, h6⟩ := hM
 exact rank_none hF hi fin
theorem m_sum (hM : FoM H f T S) (hx : xs ∈ S.rows) (hk : k ∈ xs) (fin : ∀ H', FoM H' f T S → Fr T H H' → K (.tuple #[(aggOf S.it xs).val, .int .i64 0]) H') : CallsH Try.prog 50 #[.pointer (some ⟨f, 0, none⟩), .int .i64 k] H K := by
 obtain ⟨p, g, A, nb, N, hF, h2, h3, h4, h5, h6⟩ := hM
 refine sum_ok hF hx hk fun H' N' hF' hf => ?_
 obtain ⟨a, b⟩ := FoM.after h2 h3 h4 h5 h6 hF' hf
 exact fin H' a b
theorem m_sum_none {i : Int} (hM : FoM H f T S) (hi : ¬ S.Has i) (fin : ∀ H', FoM H' f T S → Fr T H H' → K (.tuple #[Agg.zero.val, .int .i64 31]) H') : CallsH Try.prog 50 #[.pointer (some ⟨f, 0, none⟩), .int .i64 i] H K := by
 have hM' := hM
 obtain ⟨p, g, A, nb, N, hF, h2, h3, h4, h5, h6⟩ := hM
 exact sum_none hF hi fun H' hf => fin H' (hM'.grow hf) (hf.mono fun _ _ h => h.elim)
theorem m_split_first {r : List Nat} (hM : FoM H f T S) (hx : k :: r ∈ S.rows) (fin : ∀ H', FoM H' f T S → Fr T H H' → K (.int .i64 0) H') : CallsH Try.prog 36 #[.pointer (some ⟨f, 0, none⟩), .int .i64 k] H K := by
 obtain ⟨p, g, A, nb, N, hF, h2, h3, h4, h5, h6⟩ := hM
 refine split_first hF hx fun H' N' hF' hf => ?_
 obtain ⟨a, b⟩ := FoM.after h2 h3 h4 h5 h6 hF' hf
 exact fin H' a b
theorem m_split {l r : List Nat} (hM : FoM H f T S) (hr : S.rows.Perm ((l ++ k :: r) :: R)) (hl : l ≠ []) (fin : ∀ H', FoM H' f T { S with rows := l :: (k :: r) :: R } → Fr T H H' → K (.int .i64 0) H') : CallsH Try.prog 36 #[.pointer (some ⟨f, 0, none⟩), .int .i64 k] H K := by
 obtain ⟨p, g, A, nb, N, hF, h2, h3, h4, h5, h6⟩ := hM
 refine split_ok hF hr hl fun H' N' hF' hf => ?_
 obtain ⟨a, b⟩ := FoM.after h2 h3 h4 h5 h6 hF' hf
 exact fin H' a b
theorem m_split_none {i : Int} (hM : FoM H f T S) (hi : ¬ S.Has i) (fin : K (.int .i64 31) H) : CallsH Try.prog 36 #[.pointer (some ⟨f, 0, none⟩), .int .i64 i] H K := by
 obtain ⟨p, g, A, nb, N, hF, h2, h3, h4, h5, h6⟩ := hM
 exact split_none hF hi fin
theorem m_join (hM : FoM H f T S) (hr : S.rows.Perm (xs :: ys :: R)) (hk : k ∈ xs) (hj : j ∈ ys) (fin : ∀ H', FoM H' f T { S with rows := (xs ++ ys) :: R } → Fr T H H' → K (.int .i64 0) H') : CallsH Try.prog 38 #[.pointer (some ⟨f, 0, none⟩), .int .i64 k, .int .i64 j] H K := by
 obtain ⟨p, g, A, nb, N, hF, h2, h3, h4, h5, h6⟩ := hM
 refine join_ok hF hr hk hj fun H' N' hF' hf => ?_
 obtain ⟨a, b⟩ := FoM.after h2 h3 h4 h5 h6 hF' hf
 exact fin H' a b
theorem m_join_same (hM : FoM H f T S) (hx : xs ∈ S.rows) (hk : k ∈ xs) (hj : j ∈ xs) (fin : ∀ H', FoM H' f T S → Fr T H H' → K (.int .i64 33) H') : CallsH Try.prog 38 #[.pointer (some ⟨f, 0, none⟩), .int .i64 k, .int .i64 j] H K := by
 obtain ⟨p, g, A, nb, N, hF, h2, h3, h4, h5, h6⟩ := hM
 refine join_same hF hx hk hj fun H' N' hF' hf => ?_
 obtain ⟨a, b⟩ := FoM.after h2 h3 h4 h5 h6 hF' hf
 exact fin H' a b
theorem m_join_none {a b : Int} (hM : FoM H f T S) (hi : ¬ S.Has a ∨ ¬ S.Has b) (fin : K (.int .i64 31) H) : CallsH Try.prog 38 #[.pointer (some ⟨f, 0, none⟩), .int .i64 a, .int .i64 b] H K := by
 obtain ⟨p, g, A, nb, N, hF, h2, h3, h4, h5, h6⟩ := hM
 exact join_none hF hi fin
theorem m_same (hM : FoM H f T S) (hx : xs ∈ S.rows) (hk : k ∈ xs) (hy : ys ∈ S.rows) (hj : j ∈ ys) (fin : ∀ H' (b : Bool), FoM H' f T S → Fr T H H' → (b = true ↔ ys = xs) → K (.tuple #[.bool b, .int .i64 0]) H') :
  CallsH Try.prog 33 #[.pointer (some ⟨f, 0, none⟩), .int .i64 k, .int .i64 j] H K := by
 obtain ⟨p, g, A, nb, N, hF, h2, h3, h4, h5, h6⟩ := hM
 refine psame_ok hF hx hk hy hj fun H' N' b hF' hf hb => ?_
 obtain ⟨a, b'⟩ := FoM.after h2 h3 h4 h5 h6 hF' hf
 exact fin H' b a b' hb
theorem m_same_none {a b : Int} (hM : FoM H f T S) (hi : ¬ S.Has a ∨ ¬ S.Has b) (fin : K (.tuple #[.bool false, .int .i64 31]) H) : CallsH Try.prog 33 #[.pointer (some ⟨f, 0, none⟩), .int .i64 a, .int .i64 b] H K := by
 obtain ⟨p, g, A, nb, N, hF, h2, h3, h4, h5, h6⟩ := hM
 exact psame_none hF hi fin
theorem m_set {x : Sp.Item} (hM : FoM H f T S) (hk : k ∈ S.rows.flatten) (hx1 : Fits x) (hx2 : May x) (fin : ∀ H', FoM H' f T { S with it := fun i => if i = k then x else S.it i } → Fr T H H' → K (.int .i64 0) H') : CallsH Try.prog 77 #[.pointer (some ⟨f, 0, none⟩), .int .i64 k, x.val] H K := by
 obtain ⟨p, g, A, nb, N, hF, h2, h3, h4, h5, h6⟩ := hM
 obtain ⟨xs, hx, hk⟩ := List.mem_flatten.1 hk
 refine set_ok hF hx hk hx1 hx2 fun H' N' hF' hf => ?_
 obtain ⟨a, b⟩ := FoM.after h2 h3 h4 h5 h6 hF' hf
 exact fin H' a b
theorem m_set_none {i : Int} {x : Sp.Item} (hM : FoM H f T S) (hi : ¬ S.Has i) (fin : ∀ H', FoM H' f T S → Fr T H H' → K (.int .i64 31) H') : CallsH Try.prog 77 #[.pointer (some ⟨f, 0, none⟩), .int .i64 i, x.val] H K := by
 have hM' := hM
 obtain ⟨p, g, A, nb, N, hF, h2, h3, h4, h5, h6⟩ := hM
 exact set_none hF hi fun H' hf => fin H' (hM'.grow hf) (hf.mono fun _ _ h => h.elim)
theorem m_set_bad {x : Sp.Item} (hM : FoM H f T S) (hk : k ∈ S.rows.flatten) (hx1 : Fits x) (hx2 : ¬ May x) (fin : ∀ H', FoM H' f T S → Fr T H H' → K (.int .i64 1) H') : CallsH Try.prog 77 #[.pointer (some ⟨f, 0, none⟩), .int .i64 k, x.val] H K := by
 have hM' := hM
 obtain ⟨p, g, A, nb, N, hF, h2, h3, h4, h5, h6⟩ := hM
 exact set_bad hF hk hx1 hx2 fun H' hf => fin H' (hM'.grow hf) (hf.mono fun _ _ h => h.elim)
theorem m_at {n : Nat} (hM : FoM H f T S) (hx : xs ∈ S.rows) (hk : k ∈ xs) (hn : xs[n]? = some j) (fin : ∀ H', FoM H' f T S → Fr T H H' → K (.tuple #[.int .i64 j, .int .i64 0]) H') : CallsH Try.prog 69 #[.pointer (some ⟨f, 0, none⟩), .int .i64 k, .int .i64 (n : Nat)] H K := by
 obtain ⟨p, g, A, nb, N, hF, h2, h3, h4, h5, h6⟩ := hM
 refine at_ok hF hx hk hn fun H' N' hF' hf => ?_
 obtain ⟨a, b⟩ := FoM.after h2 h3 h4 h5 h6 hF' hf
 exact fin H' a b
theorem m_at_bad {n : Int} (hM : FoM H f T S) (hx : xs ∈ S.rows) (hk : k ∈ xs) (hn : n < 0 ∨ (xs.length : Int) ≤ n) (fin : ∀ H', FoM H' f T S → Fr T H H' → K (.tuple #[.int .i64 0, .int .i64 34]) H') : CallsH Try.prog 69 #[.pointer (some ⟨f, 0, none⟩), .int .i64 k, .int .i64 n] H K := by
 obtain ⟨p, g, A, nb, N, hF, h2, h3, h4, h5, h6⟩ := hM
 refine at_bad hF hx hk hn fun H' N' hF' hf => ?_
 obtain ⟨a, b⟩ := FoM.after h2 h3 h4 h5 h6 hF' hf
 exact fin H' a b
theorem m_at_none {i n : Int} (hM : FoM H f T S) (hi : ¬ S.Has i) (fin : K (.tuple #[.int .i64 0, .int .i64 31]) H) : CallsH Try.prog 69 #[.pointer (some ⟨f, 0, none⟩), .int .i64 i, .int .i64 n] H K := by
 obtain ⟨p, g, A, nb, N, hF, h2, h3, h4, h5, h6⟩ := hM
 exact at_none hF hi fin
theorem m_flagged {fl : Nat} (hM : FoM H f T S) (hx : xs ∈ S.rows) (hk : k ∈ xs) (hfl : fl < 256) (fin : ∀ H', FoM H' f T S → Fr T H H' → K (.tuple #[.int .i64 ((firstF S.it fl xs).getD 0 : Nat), .int .i64 (if (firstF S.it fl xs).isSome then 0 else 35)]) H') :
  CallsH Try.prog 49 #[.pointer (some ⟨f, 0, none⟩), .int .i64 k, .int .i64 (fl : Nat)] H K := by
 obtain ⟨p, g, A, nb, N, hF, h2, h3, h4, h5, h6⟩ := hM
 cases hn : firstF S.it fl xs with
 | none =>
  rw [hn] at fin
  refine flagged_no hF hx hk hfl hn fun H' N' hF' hf => ?_
  obtain ⟨a, b⟩ := FoM.after h2 h3 h4 h5 h6 hF' hf
  exact fin H' a b
 | some j =>
  rw [hn] at fin
  refine flagged_ok hF hx hk hfl hn fun H' N' hF' hf => ?_
  obtain ⟨a, b⟩ := FoM.after h2 h3 h4 h5 h6 hF' hf
  exact fin H' a b
theorem m_flagged_none {i n : Int} (hM : FoM H f T S) (hi : ¬ S.Has i) (fin : K (.tuple #[.int .i64 0, .int .i64 31]) H) : CallsH Try.prog 49 #[.pointer (some ⟨f, 0, none⟩), .int .i64 i, .int .i64 n] H K := by
 obtain ⟨p, g, A, nb, N, hF, h2, h3, h4, h5, h6⟩ := hM
 exact flagged_none hF hi fin
theorem m_flagged_bad {n : Int} (hM : FoM H f T S) (hk : k ∈ S.rows.flatten) (h1 : -9223372036854775808 ≤ n) (h2' : n ≤ 9223372036854775807) (hn : ¬ (0 ≤ n ∧ n < 256)) (fin : K (.tuple #[.int .i64 0, .int .i64 1]) H) : CallsH Try.prog 49 #[.pointer (some ⟨f, 0, none⟩), .int .i64 k, .int .i64 n] H K := by
 obtain ⟨p, g, A, nb, N, hF, h2, h3, h4, h5, h6⟩ := hM
 exact flagged_bad hF hk h1 h2' hn fin
theorem m_all (hM : FoM H f T S) (hx : xs ∈ S.rows) (hk : k ∈ xs) (fin : ∀ H' B v, FoM H' f T S → IR H' B v (xs.map Int.ofNat) → (∀ b, B = some b → H.size ≤ b) → Fr T H H' → K (.tuple #[v, .int .i64 0]) H') : CallsH Try.prog 39 #[.pointer (some ⟨f, 0, none⟩), .int .i64 k] H K := by
 obtain ⟨p, g, A, nb, N, hF, h2, h3, h4, h5, h6⟩ := hM
 refine all_ok hF hx hk fun H' N' B v hF' hi hB hf => ?_
 obtain ⟨a, b⟩ := FoM.after h2 h3 h4 h5 h6 hF' hf
 exact fin H' B v a hi hB b
theorem m_all_none {i : Int} (hM : FoM H f T S) (hi : ¬ S.Has i) (fin : K (.tuple #[.slice none 0 0, .int .i64 31]) H) : CallsH Try.prog 39 #[.pointer (some ⟨f, 0, none⟩), .int .i64 i] H K := by
 obtain ⟨p, g, A, nb, N, hF, h2, h3, h4, h5, h6⟩ := hM
 exact all_none hF hi fin
end
end Go.Proofs.Ytnlafhnbakipmaa
