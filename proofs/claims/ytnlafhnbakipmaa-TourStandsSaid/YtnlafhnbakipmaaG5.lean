/-
  Tours in memory: Cut.
  Splay forests, asked and changed: every call's answer and what it leaves, as functions.
  Tours in memory: Reroot, Same, SetValue, Sum, Mark: what each answers and leaves.
  Tours in memory: SetValue, Mark, MarkEdge: what each answers and leaves.
-/
import Derived.Test.YtnlafhnbakipmaaG4
import Derived.Test.YtnlafhnbakipmaaG3
namespace Go.Proofs.Ytnlafhnbakipmaa
open Go Go.Hp Go.Sp Go.To
set_option linter.all false
set_option maxRecDepth 100000
set_option maxHeartbeats 1600000
theorem order_split {α : Type} : ∀ {p1 q1 p2 q2 : List α} {a b : α}, p1 ++ a :: p2 = q1 ++ b :: q2 → p1.length < q1.length → ∃ m, p2 = m ++ b :: q2
 | [], [], _, _, _, _, _, h => absurd h (Nat.lt_irrefl _)
 | [], y :: q1, p2, q2, a, b, e, _ => ⟨q1, (List.cons.inj e).2⟩
 | x :: p1, [], _, _, _, _, _, h => by simp at h
 | x :: p1, y :: q1, p2, q2, a, b, e, h => order_split (p1 := p1) (q1 := q1) (List.cons.inj e).2 (by simpa using h)
theorem ne_len {α : Type} {p1 q1 p2 q2 : List α} {a b : α} (e : p1 ++ a :: p2 = q1 ++ b :: q2) (h : p1.length = q1.length) : a = b := by
 have e1 : (p1 ++ a :: p2)[p1.length]? = some a := by simp
 rw [e, h] at e1
 simpa using e1.symm
section
variable {H H' : Heap} {t f : Nat} {T Tf T' : Nat → Prop} {S S' : Sq} {Q Q' : Tq} {B c r1 r2 n : Nat} {st st' : Int × Int → Option Nat} {pr pr' : Int → Option (Int × Int)} {K L : Value → Heap → Prop}
theorem begin_ok' {k k' : Nat} {l r : List Nat} (h : ToAt H t f Tf S B c r1 r2 n st pr) (hx : l ++ k' :: r ∈ S.rows) (hk : k ∈ l ++ k' :: r) (fin : ∀ H', ToAt H' t f Tf S B c r1 r2 n st pr → Fr Tf H H' → K (.int .i64 (l.headD k' : Nat)) H') :
  CallsH Try.prog 42 #[.pointer (some ⟨t, 0, none⟩), .int .i64 (k : Nat)] H K := by
 cases l with
 | nil => exact begin_ok h hx hk fin
 | cons j l => exact begin_ok h hx hk fin
theorem t_cut {u v : Nat} (hM : ToM H t T Q) (hu : u < Q.n) (hv : v < Q.n) (huv : u ≠ v) (hm : (u, v) ∈ Q.row u)
  (fin : ∀ H' T' x y l1 m l2, ((x = (u, v) ∧ y = (v, u)) ∨ (x = (v, u) ∧ y = (u, v))) → Q.row u = l1 ++ x :: (m ++ y :: l2) → ToM H' t T' (Q.cutTo u v m (l1 ++ l2)) → Fr T H H' → (∀ b, T' b → T b ∨ H.size ≤ b) → L (.int .i64 0) H') :
  CallsH Try.prog 16 #[.pointer (some ⟨t, 0, none⟩), .int .i64 (u : Nat), .int .i64 (v : Nat)] H L := by
 obtain ⟨f, Tf, S, B, c, r1, r2, st, pr, h, hR, h3, h4⟩ := hM
 have hm' : (v, u) ∈ Q.row u := (hR.ok.tour u hu).pair hm
 obtain ⟨k1, hk1, hd1, _⟩ := hR.step_of hu huv hm
 obtain ⟨k2, hk2, hd2, _⟩ := hR.step_of hu huv.symm hm'
 obtain ⟨p1, p2, hp⟩ : ∃ p1 p2, Q.row u = p1 ++ (u, v) :: p2 := ⟨_, _, (split_idx hm).1⟩
 obtain ⟨q1, q2, hq⟩ : ∃ q1 q2, Q.row u = q1 ++ (v, u) :: q2 := ⟨_, _, (split_idx hm').1⟩
 have hP : (Q.row u).map (hd st) = p1.map (hd st) ++ k1 :: p2.map (hd st) := by rw [hp, List.map_append, List.map_cons, hd1]
 have hQ : (Q.row u).map (hd st) = q1.map (hd st) ++ k2 :: q2.map (hd st) := by rw [hq, List.map_append, List.map_cons, hd2]
 obtain ⟨R, hRR⟩ : ∃ R, S.rows.Perm ((Q.row u).map (hd st) :: R) := ⟨_, List.perm_cons_erase (hR.row_mem hu)⟩
 have hxrow := hR.row_mem hu
 have hlen : ∀ l : List St, l.length ≤ (Q.row u).length → l.length ≤ 4096 := fun l hl => by
  have := h.fo.len
  have h2 := (List.sublist_flatten_of_mem hxrow).length_le
  rw [List.length_map] at h2; omega
 refine call16 (by simp) ?_
 simp only [Try.f16, Option.getD_some]
 repeat' (first|(with_reducible first|refine jA ?_|(refine hK _ _ ?_;clear hK K)|refine jJ fun K hK=>?_|refine jK ?_|refine jL ?_|refine jM ?_|refine jN ?_|refine jO ?_|refine jP ?_|refine jQ ?_|(refine jB ?_;clear hK K)|(refine jC ?_;clear hK K)|refine jD ?_|refine jE ?_|refine jG ?_|refine jH ?_|refine jI ?_)|((with_reducible refine jR ?hq ?_);case hq=>rfl)|((first|(with_reducible first|refine jS fun K hK=>?_|refine jT ?_|refine jU ?_)|((with_reducible refine jV ?hy fun K hK=>?_);case hy=>rfl));simp only [go_sem, Nat.reduceEqDiff, Nat.reduceAdd, Nat.reduceMul, Nat.reduceLeDiff, Nat.reduceLT, Int.reduceLT, Int.reduceLE, Int.reduceEq, Int.reduceNeg, Int.reduceToNat, Nat.reducePow, reduceIte, reduceCtorEq])|((with_reducible first|refine jW ?hy ?_|refine jY ?hy ?_);case hy=>rfl)|((with_reducible first|refine jX ?hy ?_|refine jZ ?hy ?_);case hy=>rfl)|((with_reducible refine jF ?hy ?_);case hy=>decide))
 refine has2 h fun H1 h1 hf1 => ?_
 rw [inB_of hu, inB_of hv]
 have d2 := h1.hd.cellOf (i := 2) rfl
 repeat' (first|(with_reducible first|refine jA ?_|(refine hK _ _ ?_;clear hK K)|refine jJ fun K hK=>?_|refine jK ?_|refine jL ?_|refine jM ?_|refine jN ?_|refine jO ?_|refine jP ?_|refine jQ ?_|(refine jB ?_;clear hK K)|(refine jC ?_;clear hK K)|refine jD ?_|refine jE ?_|refine jG ?_|refine jH ?_|refine jI ?_)|((with_reducible refine jR ?hq ?_);case hq=>rfl)|((first|(with_reducible first|refine jS fun K hK=>?_|refine jT ?_|refine jU ?_)|((with_reducible refine jV ?hy fun K hK=>?_);case hy=>rfl));simp only [go_sem, Nat.reduceEqDiff, Nat.reduceAdd, Nat.reduceMul, Nat.reduceLeDiff, Nat.reduceLT, Int.reduceLT, Int.reduceLE, Int.reduceEq, Int.reduceNeg, Int.reduceToNat, Nat.reducePow, reduceIte, reduceCtorEq, Bool.and_self, d2])|((with_reducible first|refine jW ?hy ?_|refine jY ?hy ?_);case hy=>rfl)|((with_reducible first|refine jX ?hy ?_|refine jZ ?hy ?_);case hy=>rfl)|((with_reducible refine jF ?hy ?_);case hy=>decide))
 refine rd_lookupQ (vf := natV) mapT_steps kArr h1.m1.choose_spec ((u : Int), (v : Int)) true ?_
 rw [hk1]
 simp only [Option.map_some, gotV, natV, if_true]
 repeat' (first|(with_reducible first|refine jA ?_|(refine hK _ _ ?_;clear hK K)|refine jJ fun K hK=>?_|refine jK ?_|refine jL ?_|refine jM ?_|refine jN ?_|refine jO ?_|refine jP ?_|refine jQ ?_|(refine jB ?_;clear hK K)|(refine jC ?_;clear hK K)|refine jD ?_|refine jE ?_|refine jG ?_|refine jH ?_|refine jI ?_)|((with_reducible refine jR ?hq ?_);case hq=>rfl)|((first|(with_reducible first|refine jS fun K hK=>?_|refine jT ?_|refine jU ?_)|((with_reducible refine jV ?hy fun K hK=>?_);case hy=>rfl));simp only [go_sem, Nat.reduceEqDiff, Nat.reduceAdd, Nat.reduceMul, Nat.reduceLeDiff, Nat.reduceLT, Int.reduceLT, Int.reduceLE, Int.reduceEq, Int.reduceNeg, Int.reduceToNat, Nat.reducePow, reduceIte, reduceCtorEq, d2])|((with_reducible first|refine jW ?hy ?_|refine jY ?hy ?_);case hy=>rfl)|((with_reducible first|refine jX ?hy ?_|refine jZ ?hy ?_);case hy=>rfl)|((with_reducible refine jF ?hy ?_);case hy=>decide))
 refine rd_lookupQ (vf := natV) mapT_steps kArr h1.m1.choose_spec ((v : Int), (u : Int)) false ?_
 rw [hk2]
 simp only [Option.map_some, gotV, natV]
 have d0 := h1.hd.cellOf (i := 0) rfl
 repeat' (first|(with_reducible first|refine jA ?_|(refine hK _ _ ?_;clear hK K)|refine jJ fun K hK=>?_|refine jK ?_|refine jL ?_|refine jM ?_|refine jN ?_|refine jO ?_|refine jP ?_|refine jQ ?_|(refine jB ?_;clear hK K)|(refine jC ?_;clear hK K)|refine jD ?_|refine jE ?_|refine jG ?_|refine jH ?_|refine jI ?_)|((with_reducible refine jR ?hq ?_);case hq=>rfl)|((first|(with_reducible first|refine jS fun K hK=>?_|refine jT ?_|refine jU ?_)|((with_reducible refine jV ?hy fun K hK=>?_);case hy=>rfl));simp only [go_sem, Nat.reduceEqDiff, Nat.reduceAdd, Nat.reduceMul, Nat.reduceLeDiff, Nat.reduceLT, Int.reduceLT, Int.reduceLE, Int.reduceEq, Int.reduceNeg, Int.reduceToNat, Nat.reducePow, reduceIte, reduceCtorEq, d0])|((with_reducible first|refine jW ?hy ?_|refine jY ?hy ?_);case hy=>rfl)|((with_reducible first|refine jX ?hy ?_|refine jZ ?hy ?_);case hy=>rfl)|((with_reducible refine jF ?hy ?_);case hy=>decide))
 refine m_rank h1.fo hxrow hP fun H2 hF2 hf2 => ?_
 have h2 := h1.op hF2 hf2
 have d0' := h2.hd.cellOf (i := 0) rfl
 repeat' (first|(with_reducible first|refine jA ?_|(refine hK _ _ ?_;clear hK K)|refine jJ fun K hK=>?_|refine jK ?_|refine jL ?_|refine jM ?_|refine jN ?_|refine jO ?_|refine jP ?_|refine jQ ?_|(refine jB ?_;clear hK K)|(refine jC ?_;clear hK K)|refine jD ?_|refine jE ?_|refine jG ?_|refine jH ?_|refine jI ?_)|((with_reducible refine jR ?hq ?_);case hq=>rfl)|((first|(with_reducible first|refine jS fun K hK=>?_|refine jT ?_|refine jU ?_)|((with_reducible refine jV ?hy fun K hK=>?_);case hy=>rfl));simp only [go_sem, Nat.reduceEqDiff, Nat.reduceAdd, Nat.reduceMul, Nat.reduceLeDiff, Nat.reduceLT, Int.reduceLT, Int.reduceLE, Int.reduceEq, Int.reduceNeg, Int.reduceToNat, Nat.reducePow, reduceIte, reduceCtorEq, d0'])|((with_reducible first|refine jW ?hy ?_|refine jY ?hy ?_);case hy=>rfl)|((with_reducible first|refine jX ?hy ?_|refine jZ ?hy ?_);case hy=>rfl)|((with_reducible refine jF ?hy ?_);case hy=>decide))
 refine m_rank h2.fo hxrow hQ fun H3 hF3 hf3 => ?_
 have h3' := h2.op hF3 hf3
 rw [List.length_map]
 have hfr3 : Fr (ToFt t Tf B r1 r2) H H3 := ((hf1.mono fun _ _ h => h.elim).trans (hf2.mono fun b _ hb => .fo hb)).trans (hf3.mono fun b _ hb => .fo hb)
 repeat' (first|(with_reducible first|refine jA ?_|(refine hK _ _ ?_;clear hK K)|refine jJ fun K hK=>?_|refine jK ?_|refine jL ?_|refine jM ?_|refine jN ?_|refine jO ?_|refine jP ?_|refine jQ ?_|(refine jB ?_;clear hK K)|(refine jC ?_;clear hK K)|refine jD ?_|refine jE ?_|refine jG ?_|refine jH ?_|refine jI ?_)|((with_reducible refine jR ?hq ?_);case hq=>rfl)|((first|(with_reducible first|refine jS fun K hK=>?_|refine jT ?_|refine jU ?_)|((with_reducible refine jV ?hy fun K hK=>?_);case hy=>rfl));simp only [go_sem, Nat.reduceEqDiff, Nat.reduceAdd, Nat.reduceMul, Nat.reduceLeDiff, Nat.reduceLT, Int.reduceLT, Int.reduceLE, Int.reduceEq, Int.reduceNeg, Int.reduceToNat, Nat.reducePow, reduceIte, reduceCtorEq])|((with_reducible first|refine jW ?hy ?_|refine jY ?hy ?_);case hy=>rfl)|((with_reducible first|refine jX ?hy ?_|refine jZ ?hy ?_);case hy=>rfl)|((with_reducible refine jF ?hy ?_);case hy=>decide))
 have tail : ∀ (x y : St) (l1 m l2 : List St) (e' : Env), ((x = (u, v) ∧ y = (v, u)) ∨ (x = (v, u) ∧ y = (u, v))) → Q.row u = l1 ++ x :: (m ++ y :: l2) → e' 0 = .pointer (some ⟨t, 0, none⟩) → e' 7 = .int .i64 (hd st x : Nat) → e' 9 = .int .i64 (hd st y : Nat) → K e' H3 := by
  intro x y l1 m l2 e' hxy hl i0 i7 i9
  refine hK _ _ ?_
  clear hK K
  obtain ⟨kx, ekx⟩ : ∃ kx, kx = hd st x := ⟨_, rfl⟩
  obtain ⟨ky, eky⟩ : ∃ ky, ky = hd st y := ⟨_, rfl⟩
  rw [← ekx] at i7
  rw [← eky] at i9
  obtain ⟨L1, eL1⟩ : ∃ L1, L1 = l1.map (hd st) := ⟨_, rfl⟩
  obtain ⟨M, eM⟩ : ∃ M, M = m.map (hd st) := ⟨_, rfl⟩
  obtain ⟨L2, eL2⟩ : ∃ L2, L2 = l2.map (hd st) := ⟨_, rfl⟩
  have hXU : (Q.row u).map (hd st) = L1 ++ kx :: (M ++ ky :: L2) := by rw [hl, eL1, eM, eL2, ekx, eky]; simp
  have hrow : S.rows.Perm ((L1 ++ kx :: (M ++ ky :: L2)) :: R) := by rw [← hXU]; exact hRR
  have hmem : L1 ++ kx :: (M ++ ky :: L2) ∈ S.rows := hrow.mem_iff.2 (.head _)
  have hndx : (L1 ++ kx :: (M ++ ky :: L2)).Nodup := (List.sublist_flatten_of_mem hmem).nodup h.fo.nodup
  have hMne : m ≠ [] := by
   rintro rfl
   have ht := hR.ok.tour u hu
   have hn2 := hR.ok.nd u hu
   rw [hl] at ht hn2
   have : Tour [] := by
    rcases hxy with ⟨rfl, rfl⟩ | ⟨rfl, rfl⟩
    ·exact (Tour.cut huv (a := l1) (m := []) (b := l2) (by simpa using hn2) (by simpa using ht)).1
    ·exact (Tour.cut huv.symm (a := l1) (m := []) (b := l2) (by simpa using hn2) (by simpa using ht)).1
   obtain ⟨r, hr⟩ := this.some_stop
   cases hr
  obtain ⟨j, M', hMj⟩ : ∃ j M', M = j :: M' := by
   cases hm0 : m with
   | nil => exact absurd hm0 hMne
   | cons a m' => exact ⟨_, _, by rw [eM, hm0]; rfl⟩
  have hxst : ∃ X : Int × Int, X = ((x.1 : Int), (x.2 : Int)) ∧ st X = some kx := by
   rcases hxy with ⟨rfl, rfl⟩ | ⟨rfl, rfl⟩
   ·exact ⟨_, rfl, by rw [ekx, hd1]; exact hk1⟩
   ·exact ⟨_, rfl, by rw [ekx, hd2]; exact hk2⟩
  have hyst : ∃ Y : Int × Int, Y = ((y.1 : Int), (y.2 : Int)) ∧ st Y = some ky := by
   rcases hxy with ⟨rfl, rfl⟩ | ⟨rfl, rfl⟩
   ·exact ⟨_, rfl, by rw [eky, hd2]; exact hk2⟩
   ·exact ⟨_, rfl, by rw [eky, hd1]; exact hk1⟩
  obtain ⟨X, eX, hX⟩ := hxst
  obtain ⟨Y, eY, hY⟩ := hyst
  have hxky : kx ≠ ky := by
   rintro rfl
   exact (List.nodup_cons.1 (List.nodup_append.1 hndx).2.1).1 (by simp)
  repeat' (first|(with_reducible first|refine jA ?_|(refine hK _ _ ?_;clear hK K)|refine jJ fun K hK=>?_|refine jK ?_|refine jL ?_|refine jM ?_|refine jN ?_|refine jO ?_|refine jP ?_|refine jQ ?_|(refine jB ?_;clear hK K)|(refine jC ?_;clear hK K)|refine jD ?_|refine jE ?_|refine jG ?_|refine jH ?_|refine jI ?_)|((with_reducible refine jR ?hq ?_);case hq=>rfl)|((first|(with_reducible first|refine jS fun K hK=>?_|refine jT ?_|refine jU ?_)|((with_reducible refine jV ?hy fun K hK=>?_);case hy=>rfl));simp only [go_sem, Nat.reduceEqDiff, Nat.reduceAdd, Nat.reduceMul, Nat.reduceLeDiff, Nat.reduceLT, Int.reduceLT, Int.reduceLE, Int.reduceEq, Int.reduceNeg, Int.reduceToNat, Nat.reducePow, reduceIte, reduceCtorEq, i0, i7])|((with_reducible first|refine jW ?hy ?_|refine jY ?hy ?_);case hy=>rfl)|((with_reducible first|refine jX ?hy ?_|refine jZ ?hy ?_);case hy=>rfl)|((with_reducible refine jF ?hy ?_);case hy=>decide))
  refine begin_ok' h3' hmem (by simp) fun H4 h4' hf4 => ?_
  repeat' (first|(with_reducible first|refine jA ?_|(refine hK _ _ ?_;clear hK K)|refine jJ fun K hK=>?_|refine jK ?_|refine jL ?_|refine jM ?_|refine jN ?_|refine jO ?_|refine jP ?_|refine jQ ?_|(refine jB ?_;clear hK K)|(refine jC ?_;clear hK K)|refine jD ?_|refine jE ?_|refine jG ?_|refine jH ?_|refine jI ?_)|((with_reducible refine jR ?hq ?_);case hq=>rfl)|((first|(with_reducible first|refine jS fun K hK=>?_|refine jT ?_|refine jU ?_)|((with_reducible refine jV ?hy fun K hK=>?_);case hy=>rfl));simp only [go_sem, Nat.reduceEqDiff, Nat.reduceAdd, Nat.reduceMul, Nat.reduceLeDiff, Nat.reduceLT, Int.reduceLT, Int.reduceLE, Int.reduceEq, Int.reduceNeg, Int.reduceToNat, Nat.reducePow, reduceIte, reduceCtorEq, i0, i9])|((with_reducible first|refine jW ?hy ?_|refine jY ?hy ?_);case hy=>rfl)|((with_reducible first|refine jX ?hy ?_|refine jZ ?hy ?_);case hy=>rfl)|((with_reducible refine jF ?hy ?_);case hy=>decide))
  refine behind_ok (l := L1 ++ kx :: M) (k := ky) (r := L2) h4' (by simpa using hmem) fun H5 h5 hf5 => ?_
  have e0 := h5.hd.cellOf (i := 0) rfl
  repeat' (first|(with_reducible first|refine jA ?_|(refine hK _ _ ?_;clear hK K)|refine jJ fun K hK=>?_|refine jK ?_|refine jL ?_|refine jM ?_|refine jN ?_|refine jO ?_|refine jP ?_|refine jQ ?_|(refine jB ?_;clear hK K)|(refine jC ?_;clear hK K)|refine jD ?_|refine jE ?_|refine jG ?_|refine jH ?_|refine jI ?_)|((with_reducible refine jR ?hq ?_);case hq=>rfl)|((first|(with_reducible first|refine jS fun K hK=>?_|refine jT ?_|refine jU ?_)|((with_reducible refine jV ?hy fun K hK=>?_);case hy=>rfl));simp only [go_sem, Nat.reduceEqDiff, Nat.reduceAdd, Nat.reduceMul, Nat.reduceLeDiff, Nat.reduceLT, Int.reduceLT, Int.reduceLE, Int.reduceEq, Int.reduceNeg, Int.reduceToNat, Nat.reducePow, reduceIte, reduceCtorEq, i0, i7, e0])|((with_reducible first|refine jW ?hy ?_|refine jY ?hy ?_);case hy=>rfl)|((with_reducible first|refine jX ?hy ?_|refine jZ ?hy ?_);case hy=>rfl)|((with_reducible refine jF ?hy ?_);case hy=>decide))
  refine m_split_any (l := L1) (k := kx) (r := M ++ ky :: L2) h5.fo hrow fun H6 hF6 hf6 => ?_
  have h6 := h5.op hF6 hf6
  have e0 := h6.hd.cellOf (i := 0) rfl
  have qc : Cells [(t, 0, .pointer (some ⟨f, 0, none⟩))] H6 := ⟨e0, trivial⟩
  repeat' (first|(with_reducible first|refine jA ?_|(refine hK _ _ ?_;clear hK K)|refine jJ fun K hK=>?_|refine jK ?_|refine jL ?_|refine jM ?_|refine jN ?_|refine jO ?_|refine jP ?_|refine jQ ?_|(refine jB ?_;clear hK K)|(refine jC ?_;clear hK K)|refine jD ?_|refine jE ?_|refine jG ?_|refine jH ?_|refine jI ?_)|((with_reducible refine jR ?hq ?_);case hq=>rfl)|((first|(with_reducible first|refine jS fun K hK=>?_|refine jT ?_|refine jU ?_)|((with_reducible refine jV ?hy fun K hK=>?_);case hy=>rfl));simp only [go_sem, Nat.reduceEqDiff, Nat.reduceAdd, Nat.reduceMul, Nat.reduceLeDiff, Nat.reduceLT, Int.reduceLT, Int.reduceLE, Int.reduceEq, Int.reduceNeg, Int.reduceToNat, Nat.reducePow, reduceIte, reduceCtorEq])|((with_reducible first|refine jW ?hy ?_|refine jY ?hy ?_);case hy=>rfl)|((with_reducible first|refine jX ?hy ?_|refine jZ ?hy ?_);case hy=>rfl)|((with_reducible refine jF ?hy ?_);case hy=>decide))
  refine x_drawS [] [0, 1, 2, 3, 4, 5, 6, 7] rfl (by kernel_rfl) (Cells _) qc ?_
  repeat' (first|(with_reducible refine xs_nil ?_)|((first|((with_reducible apply xs_rd);case hi=>rfl)|((with_reducible apply xs_guard_yes);(case hi=>rfl);(case hy=>rfl)));(case hr=>rfl);(case h1=>intro H' hS'; (try simp only [Cells, and_true] at hS');simp only [go_sem, Nat.reduceEqDiff, Nat.reduceAdd, Nat.reduceMul, Nat.reduceLeDiff, Nat.reduceLT, Int.reduceLT, Int.reduceLE, Int.reduceEq, Int.reduceNeg, Int.reduceToNat, Nat.reducePow, reduceIte, reduceCtorEq, i0, i7, hS']; rfl))|((with_reducible refine xs_tail ?hz ?_);case hz=>rfl)|((with_reducible refine xs_keep ?hz ?_);case hz=>first|(with_reducible assumption)|assumption|(simp only [go_sem, Nat.reduceEqDiff, Nat.reduceAdd, Nat.reduceMul, Nat.reduceLeDiff, Nat.reduceLT, Int.reduceLT, Int.reduceLE, Int.reduceEq, Int.reduceNeg, Int.reduceToNat, Nat.reducePow, reduceIte, reduceCtorEq, Cells, and_true, i0, i7]))|((with_reducible apply xs_guard_no);(case hi=>rfl);(case hy=>rfl);(case hS=>assumption))|((first|((with_reducible apply xs_op);(case hi=>rfl))|((with_reducible apply xs_op_yes);(case hi=>rfl);(case hy=>rfl)));(case hr=>rfl);intro K hK; simp only [go_sem, Nat.reduceEqDiff, Nat.reduceAdd, Nat.reduceMul, Nat.reduceLeDiff, Nat.reduceLT, Int.reduceLT, Int.reduceLE, Int.reduceEq, Int.reduceNeg, Int.reduceToNat, Nat.reducePow, reduceIte, reduceCtorEq, i0, i7])|(with_reducible first|refine jA ?_|(refine hK _ _ ?_;clear hK K)|refine jJ fun K hK=>?_|refine jK ?_|refine jL ?_|refine jM ?_|refine jN ?_|refine jO ?_|refine jP ?_|refine jQ ?_|(refine jB ?_;clear hK K)|(refine jC ?_;clear hK K)|refine jD ?_|refine jE ?_|refine jG ?_|refine jH ?_|refine jI ?_)|((with_reducible refine jR ?hq ?_);case hq=>rfl)|((first|(with_reducible first|refine jS fun K hK=>?_|refine jT ?_|refine jU ?_)|((with_reducible refine jV ?hy fun K hK=>?_);case hy=>rfl));simp only [go_sem, Nat.reduceEqDiff, Nat.reduceAdd, Nat.reduceMul, Nat.reduceLeDiff, Nat.reduceLT, Int.reduceLT, Int.reduceLE, Int.reduceEq, Int.reduceNeg, Int.reduceToNat, Nat.reducePow, reduceIte, reduceCtorEq, i0, i7])|((with_reducible first|refine jW ?hy ?_|refine jY ?hy ?_);case hy=>rfl)|((with_reducible first|refine jX ?hy ?_|refine jZ ?hy ?_);case hy=>rfl)|((with_reducible refine jF ?hy ?_);case hy=>decide))
  refine behind_ok (l := []) (k := kx) (r := M ++ ky :: L2) h6 (by simp) fun H7 h7 hf7 => ?_
  have qc7 : Cells [(t, 0, .pointer (some ⟨f, 0, none⟩))] H7 := ⟨h7.hd.cellOf (i := 0) rfl, trivial⟩
  rw [show (M ++ ky :: L2).headD 0 = j by rw [hMj]; rfl]
  repeat' (first|(with_reducible refine xs_nil ?_)|((first|((with_reducible apply xs_rd);case hi=>rfl)|((with_reducible apply xs_guard_yes);(case hi=>rfl);(case hy=>rfl)));(case hr=>rfl);(case h1=>intro H' hS'; (try simp only [Cells, and_true] at hS');simp only [go_sem, Nat.reduceEqDiff, Nat.reduceAdd, Nat.reduceMul, Nat.reduceLeDiff, Nat.reduceLT, Int.reduceLT, Int.reduceLE, Int.reduceEq, Int.reduceNeg, Int.reduceToNat, Nat.reducePow, reduceIte, reduceCtorEq, qc7, hS']; rfl))|((with_reducible refine xs_tail ?hz ?_);case hz=>rfl)|((with_reducible refine xs_keep ?hz ?_);case hz=>first|(with_reducible assumption)|assumption|(simp only [go_sem, Nat.reduceEqDiff, Nat.reduceAdd, Nat.reduceMul, Nat.reduceLeDiff, Nat.reduceLT, Int.reduceLT, Int.reduceLE, Int.reduceEq, Int.reduceNeg, Int.reduceToNat, Nat.reducePow, reduceIte, reduceCtorEq, Cells, and_true, qc7]))|((with_reducible apply xs_guard_no);(case hi=>rfl);(case hy=>rfl);(case hS=>assumption))|((first|((with_reducible apply xs_op);(case hi=>rfl))|((with_reducible apply xs_op_yes);(case hi=>rfl);(case hy=>rfl)));(case hr=>rfl);intro K hK; simp only [go_sem, Nat.reduceEqDiff, Nat.reduceAdd, Nat.reduceMul, Nat.reduceLeDiff, Nat.reduceLT, Int.reduceLT, Int.reduceLE, Int.reduceEq, Int.reduceNeg, Int.reduceToNat, Nat.reducePow, reduceIte, reduceCtorEq, qc7])|(with_reducible first|refine jA ?_|(refine hK _ _ ?_;clear hK K)|refine jJ fun K hK=>?_|refine jK ?_|refine jL ?_|refine jM ?_|refine jN ?_|refine jO ?_|refine jP ?_|refine jQ ?_|(refine jB ?_;clear hK K)|(refine jC ?_;clear hK K)|refine jD ?_|refine jE ?_|refine jG ?_|refine jH ?_|refine jI ?_)|((with_reducible refine jR ?hq ?_);case hq=>rfl)|((first|(with_reducible first|refine jS fun K hK=>?_|refine jT ?_|refine jU ?_)|((with_reducible refine jV ?hy fun K hK=>?_);case hy=>rfl));simp only [go_sem, Nat.reduceEqDiff, Nat.reduceAdd, Nat.reduceMul, Nat.reduceLeDiff, Nat.reduceLT, Int.reduceLT, Int.reduceLE, Int.reduceEq, Int.reduceNeg, Int.reduceToNat, Nat.reducePow, reduceIte, reduceCtorEq, qc7])|((with_reducible first|refine jW ?hy ?_|refine jY ?hy ?_);case hy=>rfl)|((with_reducible first|refine jX ?hy ?_|refine jZ ?hy ?_);case hy=>rfl)|((with_reducible refine jF ?hy ?_);case hy=>decide))
  refine m_split (l := [kx]) (k := j) (r := M' ++ ky :: L2) (R := oL L1 ++ R) h7.fo (by rw [hMj]; exact List.perm_iff_count.2 fun z => by simp only [List.count_cons, List.count_append, List.singleton_append, List.cons_append, List.nil_append]; omega) (by simp) fun H8 hF8 hf8 => ?_
  have h8 := h7.op hF8 hf8
  have e0 := h8.hd.cellOf (i := 0) rfl
  have qc8 : Cells [(t, 0, .pointer (some ⟨f, 0, none⟩))] H8 := ⟨e0, trivial⟩
  repeat' (first|(with_reducible refine xs_nil ?_)|((first|((with_reducible apply xs_rd);case hi=>rfl)|((with_reducible apply xs_guard_yes);(case hi=>rfl);(case hy=>rfl)));(case hr=>rfl);(case h1=>intro H' hS'; (try simp only [Cells, and_true] at hS');simp only [go_sem, Nat.reduceEqDiff, Nat.reduceAdd, Nat.reduceMul, Nat.reduceLeDiff, Nat.reduceLT, Int.reduceLT, Int.reduceLE, Int.reduceEq, Int.reduceNeg, Int.reduceToNat, Nat.reducePow, reduceIte, reduceCtorEq, qc8, i0, i9, e0, hS']; rfl))|((with_reducible refine xs_tail ?hz ?_);case hz=>rfl)|((with_reducible refine xs_keep ?hz ?_);case hz=>first|(with_reducible assumption)|assumption|(simp only [go_sem, Nat.reduceEqDiff, Nat.reduceAdd, Nat.reduceMul, Nat.reduceLeDiff, Nat.reduceLT, Int.reduceLT, Int.reduceLE, Int.reduceEq, Int.reduceNeg, Int.reduceToNat, Nat.reducePow, reduceIte, reduceCtorEq, Cells, and_true, qc8, i0, i9, e0]))|((with_reducible apply xs_guard_no);(case hi=>rfl);(case hy=>rfl);(case hS=>assumption))|((first|((with_reducible apply xs_op);(case hi=>rfl))|((with_reducible apply xs_op_yes);(case hi=>rfl);(case hy=>rfl)));(case hr=>rfl);intro K hK; simp only [go_sem, Nat.reduceEqDiff, Nat.reduceAdd, Nat.reduceMul, Nat.reduceLeDiff, Nat.reduceLT, Int.reduceLT, Int.reduceLE, Int.reduceEq, Int.reduceNeg, Int.reduceToNat, Nat.reducePow, reduceIte, reduceCtorEq, qc8, i0, i9, e0])|(with_reducible first|refine jA ?_|(refine hK _ _ ?_;clear hK K)|refine jJ fun K hK=>?_|refine jK ?_|refine jL ?_|refine jM ?_|refine jN ?_|refine jO ?_|refine jP ?_|refine jQ ?_|(refine jB ?_;clear hK K)|(refine jC ?_;clear hK K)|refine jD ?_|refine jE ?_|refine jG ?_|refine jH ?_|refine jI ?_)|((with_reducible refine jR ?hq ?_);case hq=>rfl)|((first|(with_reducible first|refine jS fun K hK=>?_|refine jT ?_|refine jU ?_)|((with_reducible refine jV ?hy fun K hK=>?_);case hy=>rfl));simp only [go_sem, Nat.reduceEqDiff, Nat.reduceAdd, Nat.reduceMul, Nat.reduceLeDiff, Nat.reduceLT, Int.reduceLT, Int.reduceLE, Int.reduceEq, Int.reduceNeg, Int.reduceToNat, Nat.reducePow, reduceIte, reduceCtorEq, qc8, i0, i9, e0])|((with_reducible first|refine jW ?hy ?_|refine jY ?hy ?_);case hy=>rfl)|((with_reducible first|refine jX ?hy ?_|refine jZ ?hy ?_);case hy=>rfl)|((with_reducible refine jF ?hy ?_);case hy=>decide))
  refine m_split (l := j :: M') (k := ky) (r := L2) (R := [kx] :: (oL L1 ++ R)) h8.fo (List.perm_iff_count.2 fun z => by simp only [List.count_cons, List.cons_append]; omega) (by simp) fun H9 hF9 hf9 => ?_
  have h9 := h8.op hF9 hf9
  rw [← hMj] at h9
  have e0 := h9.hd.cellOf (i := 0) rfl
  have hfr9 : Fr (ToFt t Tf B r1 r2) H H9 := (((((hfr3.trans (hf4.mono fun b _ hb => .fo hb)).trans (hf5.mono fun b _ hb => .fo hb)).trans (hf6.mono fun b _ hb => .fo hb)).trans (hf7.mono fun b _ hb => .fo hb)).trans (hf8.mono fun b _ hb => .fo hb)).trans (hf9.mono fun b _ hb => .fo hb)
  repeat' (first|(with_reducible first|refine jA ?_|(refine hK _ _ ?_;clear hK K)|refine jJ fun K hK=>?_|refine jK ?_|refine jL ?_|refine jM ?_|refine jN ?_|refine jO ?_|refine jP ?_|refine jQ ?_|(refine jB ?_;clear hK K)|(refine jC ?_;clear hK K)|refine jD ?_|refine jE ?_|refine jG ?_|refine jH ?_|refine jI ?_)|((with_reducible refine jR ?hq ?_);case hq=>rfl)|((first|(with_reducible first|refine jS fun K hK=>?_|refine jT ?_|refine jU ?_)|((with_reducible refine jV ?hy fun K hK=>?_);case hy=>rfl));simp only [go_sem, Nat.reduceEqDiff, Nat.reduceAdd, Nat.reduceMul, Nat.reduceLeDiff, Nat.reduceLT, Int.reduceLT, Int.reduceLE, Int.reduceEq, Int.reduceNeg, Int.reduceToNat, Nat.reducePow, reduceIte, reduceCtorEq])|((with_reducible first|refine jW ?hy ?_|refine jY ?hy ?_);case hy=>rfl)|((with_reducible first|refine jX ?hy ?_|refine jZ ?hy ?_);case hy=>rfl)|((with_reducible refine jF ?hy ?_);case hy=>decide))
  have pX : pr (kx : Int) = some X := (hR.pro _ _).2 ⟨kx, rfl, hX⟩
  have pY : updK pr (kx : Int) none (ky : Int) = some Y := by
   unfold updK
   rw [if_neg (by omega)]
   exact (hR.pro _ _).2 ⟨ky, rfl, hY⟩
  have perm6 : ({ S with rows := M :: (L1 ++ L2) :: [kx] :: [ky] :: R } : Sq).rows.Perm ([kx] :: M :: (L1 ++ L2) :: [ky] :: R) := List.perm_iff_count.2 fun z => by simp only [List.count_cons]; omega
  have perm7 : (Sq.freed { S with rows := M :: (L1 ++ L2) :: [kx] :: [ky] :: R } kx (M :: (L1 ++ L2) :: [ky] :: R)).rows.Perm ([ky] :: M :: (L1 ++ L2) :: R) := by
   show (M :: (L1 ++ L2) :: [ky] :: R).Perm _
   exact List.perm_iff_count.2 fun z => by simp only [List.count_cons]; omega
  have hne12 : L1 = [] → L2 ≠ [] := fun e1 e2 => by
   have ht := hR.ok.tour u hu
   have hn2 := hR.ok.nd u hu
   rw [hl] at ht hn2
   have : Tour (l1 ++ l2) := by
    rcases hxy with ⟨rfl, rfl⟩ | ⟨rfl, rfl⟩
    ·exact (Tour.cut huv (by simpa using hn2) (by simpa using ht)).2
    ·exact (Tour.cut huv.symm (by simpa using hn2) (by simpa using ht)).2
   obtain ⟨r, hr⟩ := this.some_stop
   rw [eL1, List.map_eq_nil_iff] at e1
   rw [eL2, List.map_eq_nil_iff] at e2
   rw [e1, e2] at hr
   cases hr
  have done : ∀ (S' : Sq) (H' : Heap), ToAt H' t f Tf S' B c r1 r2 Q.n (updK (updK st X none) Y none) (updK (updK pr (kx : Int) none) (ky : Int) none) → S'.it = S.it → S'.room = S.room → S'.rows = M :: (L1 ++ L2) :: R → Fr (ToFt t Tf B r1 r2) H H' → L (.int .i64 0) H' := by
   intro S' H' h' hi hr hrw hf'
   have hRel := hR.cut (S' := S') (st' := updK (updK st X none) Y none) (pr' := updK (updK pr (kx : Int) none) (ky : Int) none) hu huv hxy hl hRR h.fo.nodup hr hi (by rw [hrw, List.map_append, ← eL1, ← eM, ← eL2]) (fun p => by
    rw [← eX, ← eY]
    unfold updK
    by_cases e1 : p = X <;> by_cases e2 : p = Y <;> simp [e1, e2]) (fun k => by
    rw [← ekx, ← eky]
    unfold updK
    by_cases e1 : k = (kx : Int) <;> by_cases e2 : k = (ky : Int) <;> simp [e1, e2])
   exact ToM.after h3 h4 (Q' := Q.cutTo u v m (l1 ++ l2)) h' hRel hf' (fun b hb => .inl hb) fun T'' a b c => fin H' T'' x y l1 m l2 hxy hl a b c
  have tail2 : ∀ (e' : Env) (H5 : Heap), e' 0 = .pointer (some ⟨t, 0, none⟩) → e' 7 = .int .i64 (kx : Nat) → e' 9 = .int .i64 (ky : Nat) → e' 14 = .int .i64 (L1.headD kx : Nat) → e' 15 = .int .i64 (L2.headD 0 : Nat) →
    ToAt H5 t f Tf { S with rows := [ky] :: (oL L2 ++ M :: [kx] :: (oL L1 ++ R)) } B c r1 r2 Q.n st pr → Fr (ToFt t Tf B r1 r2) H H5 → K e' H5 := by
   intro e' H5 i0 i7 i9 i14 i15 h5 hf5
   refine hK _ _ ?_
   clear hK K
   have e0 := h5.hd.cellOf (i := 0) rfl
   by_cases hz1 : L1 = []
   ·have t1 : ((L1.headD kx : Nat) != (kx : Int)) = false := by rw [hz1]; simp
    repeat' (first|(with_reducible first|refine jA ?_|(refine hK _ _ ?_;clear hK K)|refine jJ fun K hK=>?_|refine jK ?_|refine jL ?_|refine jM ?_|refine jN ?_|refine jO ?_|refine jP ?_|refine jQ ?_|(refine jB ?_;clear hK K)|(refine jC ?_;clear hK K)|refine jD ?_|refine jE ?_|refine jG ?_|refine jH ?_|refine jI ?_)|((with_reducible refine jR ?hq ?_);case hq=>rfl)|((first|(with_reducible first|refine jS fun K hK=>?_|refine jT ?_|refine jU ?_)|((with_reducible refine jV ?hy fun K hK=>?_);case hy=>rfl));simp only [go_sem, Nat.reduceEqDiff, Nat.reduceAdd, Nat.reduceMul, Nat.reduceLeDiff, Nat.reduceLT, Int.reduceLT, Int.reduceLE, Int.reduceEq, Int.reduceNeg, Int.reduceToNat, Nat.reducePow, reduceIte, reduceCtorEq, i0, i7, i14, i15, t1])|((with_reducible first|refine jW ?hy ?_|refine jY ?hy ?_);case hy=>rfl)|((with_reducible first|refine jX ?hy ?_|refine jZ ?hy ?_);case hy=>rfl)|((with_reducible refine jF ?hy ?_);case hy=>decide))
    have h6 : ToAt H5 t f Tf { S with rows := M :: (L1 ++ L2) :: [kx] :: [ky] :: R } B c r1 r2 Q.n st pr := by
     refine h5.op (h5.fo.perm ?_) (.refl _ _)
     have hL2 : L2 ≠ [] := hne12 hz1
     rw [hz1]
     simp only [oL, if_true, if_neg hL2, List.nil_append, List.singleton_append]
     exact List.perm_iff_count.2 fun z => by simp only [List.count_cons]; omega
    repeat' (first|(with_reducible first|refine jA ?_|(refine hK _ _ ?_;clear hK K)|refine jJ fun K hK=>?_|refine jK ?_|refine jL ?_|refine jM ?_|refine jN ?_|refine jO ?_|refine jP ?_|refine jQ ?_|(refine jB ?_;clear hK K)|(refine jC ?_;clear hK K)|refine jD ?_|refine jE ?_|refine jG ?_|refine jH ?_|refine jI ?_)|((with_reducible refine jR ?hq ?_);case hq=>rfl)|((first|(with_reducible first|refine jS fun K hK=>?_|refine jT ?_|refine jU ?_)|((with_reducible refine jV ?hy fun K hK=>?_);case hy=>rfl));simp only [go_sem, Nat.reduceEqDiff, Nat.reduceAdd, Nat.reduceMul, Nat.reduceLeDiff, Nat.reduceLT, Int.reduceLT, Int.reduceLE, Int.reduceEq, Int.reduceNeg, Int.reduceToNat, Nat.reducePow, reduceIte, reduceCtorEq, i0, i7])|((with_reducible first|refine jW ?hy ?_|refine jY ?hy ?_);case hy=>rfl)|((with_reducible first|refine jX ?hy ?_|refine jZ ?hy ?_);case hy=>rfl)|((with_reducible refine jF ?hy ?_);case hy=>decide))
    refine gone_ok (p := X) (R := M :: (L1 ++ L2) :: [ky] :: R) h6 pX perm6 fun H7 h7 hf7 => ?_
    repeat' (first|(with_reducible first|refine jA ?_|(refine hK _ _ ?_;clear hK K)|refine jJ fun K hK=>?_|refine jK ?_|refine jL ?_|refine jM ?_|refine jN ?_|refine jO ?_|refine jP ?_|refine jQ ?_|(refine jB ?_;clear hK K)|(refine jC ?_;clear hK K)|refine jD ?_|refine jE ?_|refine jG ?_|refine jH ?_|refine jI ?_)|((with_reducible refine jR ?hq ?_);case hq=>rfl)|((first|(with_reducible first|refine jS fun K hK=>?_|refine jT ?_|refine jU ?_)|((with_reducible refine jV ?hy fun K hK=>?_);case hy=>rfl));simp only [go_sem, Nat.reduceEqDiff, Nat.reduceAdd, Nat.reduceMul, Nat.reduceLeDiff, Nat.reduceLT, Int.reduceLT, Int.reduceLE, Int.reduceEq, Int.reduceNeg, Int.reduceToNat, Nat.reducePow, reduceIte, reduceCtorEq, i0, i9])|((with_reducible first|refine jW ?hy ?_|refine jY ?hy ?_);case hy=>rfl)|((with_reducible first|refine jX ?hy ?_|refine jZ ?hy ?_);case hy=>rfl)|((with_reducible refine jF ?hy ?_);case hy=>decide))
    refine gone_ok (p := Y) (R := M :: (L1 ++ L2) :: R) h7 pY perm7 fun H8 h8 hf8 => ?_
    repeat' (first|(with_reducible first|refine jA ?_|(refine hK _ _ ?_;clear hK K)|refine jJ fun K hK=>?_|refine jK ?_|refine jL ?_|refine jM ?_|refine jN ?_|refine jO ?_|refine jP ?_|refine jQ ?_|(refine jB ?_;clear hK K)|(refine jC ?_;clear hK K)|refine jD ?_|refine jE ?_|refine jG ?_|refine jH ?_|refine jI ?_)|((with_reducible refine jR ?hq ?_);case hq=>rfl)|((first|(with_reducible first|refine jS fun K hK=>?_|refine jT ?_|refine jU ?_)|((with_reducible refine jV ?hy fun K hK=>?_);case hy=>rfl));simp only [go_sem, Nat.reduceEqDiff, Nat.reduceAdd, Nat.reduceMul, Nat.reduceLeDiff, Nat.reduceLT, Int.reduceLT, Int.reduceLE, Int.reduceEq, Int.reduceNeg, Int.reduceToNat, Nat.reducePow, reduceIte, reduceCtorEq])|((with_reducible first|refine jW ?hy ?_|refine jY ?hy ?_);case hy=>rfl)|((with_reducible first|refine jX ?hy ?_|refine jZ ?hy ?_);case hy=>rfl)|((with_reducible refine jF ?hy ?_);case hy=>decide))
    exact done _ _ h8 rfl rfl rfl ((hf5.trans hf7).trans hf8)
   ·obtain ⟨a1, L1', eL1'⟩ : ∃ a1 L1', L1 = a1 :: L1' := by
     cases hL : L1 with
     | nil => exact absurd hL hz1
     | cons a b => exact ⟨a, b, rfl⟩
    have hane : a1 ≠ kx := fun e => by
     rw [eL1', e] at hndx
     simp at hndx
    have t1 : ((L1.headD kx : Nat) != (kx : Int)) = true := by rw [eL1']; simp; omega
    by_cases hz2 : L2 = []
    ·have t2 : (((L2.headD 0 : Nat) : Int) != 0) = false := by rw [hz2]; rfl
     repeat' (first|(with_reducible first|refine jA ?_|(refine hK _ _ ?_;clear hK K)|refine jJ fun K hK=>?_|refine jK ?_|refine jL ?_|refine jM ?_|refine jN ?_|refine jO ?_|refine jP ?_|refine jQ ?_|(refine jB ?_;clear hK K)|(refine jC ?_;clear hK K)|refine jD ?_|refine jE ?_|refine jG ?_|refine jH ?_|refine jI ?_)|((with_reducible refine jR ?hq ?_);case hq=>rfl)|((first|(with_reducible first|refine jS fun K hK=>?_|refine jT ?_|refine jU ?_)|((with_reducible refine jV ?hy fun K hK=>?_);case hy=>rfl));simp only [go_sem, Nat.reduceEqDiff, Nat.reduceAdd, Nat.reduceMul, Nat.reduceLeDiff, Nat.reduceLT, Int.reduceLT, Int.reduceLE, Int.reduceEq, Int.reduceNeg, Int.reduceToNat, Nat.reducePow, reduceIte, reduceCtorEq, i0, i7, i14, i15, t1, t2])|((with_reducible first|refine jW ?hy ?_|refine jY ?hy ?_);case hy=>rfl)|((with_reducible first|refine jX ?hy ?_|refine jZ ?hy ?_);case hy=>rfl)|((with_reducible refine jF ?hy ?_);case hy=>decide))
     have h6 : ToAt H5 t f Tf { S with rows := M :: (L1 ++ L2) :: [kx] :: [ky] :: R } B c r1 r2 Q.n st pr := by
      refine h5.op (h5.fo.perm ?_) (.refl _ _)
      rw [hz2]
      simp only [oL, if_true, if_neg hz1, List.nil_append, List.singleton_append, List.append_nil]
      exact List.perm_iff_count.2 fun z => by simp only [List.count_cons]; omega
     repeat' (first|(with_reducible first|refine jA ?_|(refine hK _ _ ?_;clear hK K)|refine jJ fun K hK=>?_|refine jK ?_|refine jL ?_|refine jM ?_|refine jN ?_|refine jO ?_|refine jP ?_|refine jQ ?_|(refine jB ?_;clear hK K)|(refine jC ?_;clear hK K)|refine jD ?_|refine jE ?_|refine jG ?_|refine jH ?_|refine jI ?_)|((with_reducible refine jR ?hq ?_);case hq=>rfl)|((first|(with_reducible first|refine jS fun K hK=>?_|refine jT ?_|refine jU ?_)|((with_reducible refine jV ?hy fun K hK=>?_);case hy=>rfl));simp only [go_sem, Nat.reduceEqDiff, Nat.reduceAdd, Nat.reduceMul, Nat.reduceLeDiff, Nat.reduceLT, Int.reduceLT, Int.reduceLE, Int.reduceEq, Int.reduceNeg, Int.reduceToNat, Nat.reducePow, reduceIte, reduceCtorEq, i0, i7])|((with_reducible first|refine jW ?hy ?_|refine jY ?hy ?_);case hy=>rfl)|((with_reducible first|refine jX ?hy ?_|refine jZ ?hy ?_);case hy=>rfl)|((with_reducible refine jF ?hy ?_);case hy=>decide))
     refine gone_ok (p := X) (R := M :: (L1 ++ L2) :: [ky] :: R) h6 pX perm6 fun H7 h7 hf7 => ?_
     repeat' (first|(with_reducible first|refine jA ?_|(refine hK _ _ ?_;clear hK K)|refine jJ fun K hK=>?_|refine jK ?_|refine jL ?_|refine jM ?_|refine jN ?_|refine jO ?_|refine jP ?_|refine jQ ?_|(refine jB ?_;clear hK K)|(refine jC ?_;clear hK K)|refine jD ?_|refine jE ?_|refine jG ?_|refine jH ?_|refine jI ?_)|((with_reducible refine jR ?hq ?_);case hq=>rfl)|((first|(with_reducible first|refine jS fun K hK=>?_|refine jT ?_|refine jU ?_)|((with_reducible refine jV ?hy fun K hK=>?_);case hy=>rfl));simp only [go_sem, Nat.reduceEqDiff, Nat.reduceAdd, Nat.reduceMul, Nat.reduceLeDiff, Nat.reduceLT, Int.reduceLT, Int.reduceLE, Int.reduceEq, Int.reduceNeg, Int.reduceToNat, Nat.reducePow, reduceIte, reduceCtorEq, i0, i9])|((with_reducible first|refine jW ?hy ?_|refine jY ?hy ?_);case hy=>rfl)|((with_reducible first|refine jX ?hy ?_|refine jZ ?hy ?_);case hy=>rfl)|((with_reducible refine jF ?hy ?_);case hy=>decide))
     refine gone_ok (p := Y) (R := M :: (L1 ++ L2) :: R) h7 pY perm7 fun H8 h8 hf8 => ?_
     repeat' (first|(with_reducible first|refine jA ?_|(refine hK _ _ ?_;clear hK K)|refine jJ fun K hK=>?_|refine jK ?_|refine jL ?_|refine jM ?_|refine jN ?_|refine jO ?_|refine jP ?_|refine jQ ?_|(refine jB ?_;clear hK K)|(refine jC ?_;clear hK K)|refine jD ?_|refine jE ?_|refine jG ?_|refine jH ?_|refine jI ?_)|((with_reducible refine jR ?hq ?_);case hq=>rfl)|((first|(with_reducible first|refine jS fun K hK=>?_|refine jT ?_|refine jU ?_)|((with_reducible refine jV ?hy fun K hK=>?_);case hy=>rfl));simp only [go_sem, Nat.reduceEqDiff, Nat.reduceAdd, Nat.reduceMul, Nat.reduceLeDiff, Nat.reduceLT, Int.reduceLT, Int.reduceLE, Int.reduceEq, Int.reduceNeg, Int.reduceToNat, Nat.reducePow, reduceIte, reduceCtorEq])|((with_reducible first|refine jW ?hy ?_|refine jY ?hy ?_);case hy=>rfl)|((with_reducible first|refine jX ?hy ?_|refine jZ ?hy ?_);case hy=>rfl)|((with_reducible refine jF ?hy ?_);case hy=>decide))
     exact done _ _ h8 rfl rfl rfl ((hf5.trans hf7).trans hf8)
    ·obtain ⟨b1, L2', eL2'⟩ : ∃ b1 L2', L2 = b1 :: L2' := by
      cases hL : L2 with
      | nil => exact absurd hL hz2
      | cons a b => exact ⟨a, b, rfl⟩
     have hb1 : 1 ≤ b1 := h.fo.pos (List.mem_flatten.2 ⟨_, hmem, by rw [eL2']; simp⟩)
     have t2 : (((L2.headD 0 : Nat) : Int) != 0) = true := by rw [eL2']; simp; omega
     repeat' (first|(with_reducible first|refine jA ?_|(refine hK _ _ ?_;clear hK K)|refine jJ fun K hK=>?_|refine jK ?_|refine jL ?_|refine jM ?_|refine jN ?_|refine jO ?_|refine jP ?_|refine jQ ?_|(refine jB ?_;clear hK K)|(refine jC ?_;clear hK K)|refine jD ?_|refine jE ?_|refine jG ?_|refine jH ?_|refine jI ?_)|((with_reducible refine jR ?hq ?_);case hq=>rfl)|((first|(with_reducible first|refine jS fun K hK=>?_|refine jT ?_|refine jU ?_)|((with_reducible refine jV ?hy fun K hK=>?_);case hy=>rfl));simp only [go_sem, Nat.reduceEqDiff, Nat.reduceAdd, Nat.reduceMul, Nat.reduceLeDiff, Nat.reduceLT, Int.reduceLT, Int.reduceLE, Int.reduceEq, Int.reduceNeg, Int.reduceToNat, Nat.reducePow, reduceIte, reduceCtorEq, i0, i7, i14, i15, t1, t2, e0])|((with_reducible first|refine jW ?hy ?_|refine jY ?hy ?_);case hy=>rfl)|((with_reducible first|refine jX ?hy ?_|refine jZ ?hy ?_);case hy=>rfl)|((with_reducible refine jF ?hy ?_);case hy=>decide))
     refine m_join (k := L1.headD kx) (j := L2.headD 0) (xs := L1) (ys := L2) (R := M :: [kx] :: [ky] :: R) h5.fo (by
      simp only [oL, if_neg hz1, if_neg hz2, List.singleton_append]
      exact List.perm_iff_count.2 fun z => by simp only [List.count_cons]; omega) (by rw [eL1']; exact .head _) (by rw [eL2']; exact .head _) fun H6 hF6 hf6 => ?_
     have h6' := h5.op hF6 hf6
     have h6 : ToAt H6 t f Tf { S with rows := M :: (L1 ++ L2) :: [kx] :: [ky] :: R } B c r1 r2 Q.n st pr := h6'.op (h6'.fo.perm (List.perm_iff_count.2 fun z => by simp only [List.count_cons]; omega)) (.refl _ _)
     repeat' (first|(with_reducible first|refine jA ?_|(refine hK _ _ ?_;clear hK K)|refine jJ fun K hK=>?_|refine jK ?_|refine jL ?_|refine jM ?_|refine jN ?_|refine jO ?_|refine jP ?_|refine jQ ?_|(refine jB ?_;clear hK K)|(refine jC ?_;clear hK K)|refine jD ?_|refine jE ?_|refine jG ?_|refine jH ?_|refine jI ?_)|((with_reducible refine jR ?hq ?_);case hq=>rfl)|((first|(with_reducible first|refine jS fun K hK=>?_|refine jT ?_|refine jU ?_)|((with_reducible refine jV ?hy fun K hK=>?_);case hy=>rfl));simp only [go_sem, Nat.reduceEqDiff, Nat.reduceAdd, Nat.reduceMul, Nat.reduceLeDiff, Nat.reduceLT, Int.reduceLT, Int.reduceLE, Int.reduceEq, Int.reduceNeg, Int.reduceToNat, Nat.reducePow, reduceIte, reduceCtorEq, i0, i7])|((with_reducible first|refine jW ?hy ?_|refine jY ?hy ?_);case hy=>rfl)|((with_reducible first|refine jX ?hy ?_|refine jZ ?hy ?_);case hy=>rfl)|((with_reducible refine jF ?hy ?_);case hy=>decide))
     refine gone_ok (p := X) (R := M :: (L1 ++ L2) :: [ky] :: R) h6 pX perm6 fun H7 h7 hf7 => ?_
     repeat' (first|(with_reducible first|refine jA ?_|(refine hK _ _ ?_;clear hK K)|refine jJ fun K hK=>?_|refine jK ?_|refine jL ?_|refine jM ?_|refine jN ?_|refine jO ?_|refine jP ?_|refine jQ ?_|(refine jB ?_;clear hK K)|(refine jC ?_;clear hK K)|refine jD ?_|refine jE ?_|refine jG ?_|refine jH ?_|refine jI ?_)|((with_reducible refine jR ?hq ?_);case hq=>rfl)|((first|(with_reducible first|refine jS fun K hK=>?_|refine jT ?_|refine jU ?_)|((with_reducible refine jV ?hy fun K hK=>?_);case hy=>rfl));simp only [go_sem, Nat.reduceEqDiff, Nat.reduceAdd, Nat.reduceMul, Nat.reduceLeDiff, Nat.reduceLT, Int.reduceLT, Int.reduceLE, Int.reduceEq, Int.reduceNeg, Int.reduceToNat, Nat.reducePow, reduceIte, reduceCtorEq, i0, i9])|((with_reducible first|refine jW ?hy ?_|refine jY ?hy ?_);case hy=>rfl)|((with_reducible first|refine jX ?hy ?_|refine jZ ?hy ?_);case hy=>rfl)|((with_reducible refine jF ?hy ?_);case hy=>decide))
     refine gone_ok (p := Y) (R := M :: (L1 ++ L2) :: R) h7 pY perm7 fun H8 h8 hf8 => ?_
     repeat' (first|(with_reducible first|refine jA ?_|(refine hK _ _ ?_;clear hK K)|refine jJ fun K hK=>?_|refine jK ?_|refine jL ?_|refine jM ?_|refine jN ?_|refine jO ?_|refine jP ?_|refine jQ ?_|(refine jB ?_;clear hK K)|(refine jC ?_;clear hK K)|refine jD ?_|refine jE ?_|refine jG ?_|refine jH ?_|refine jI ?_)|((with_reducible refine jR ?hq ?_);case hq=>rfl)|((first|(with_reducible first|refine jS fun K hK=>?_|refine jT ?_|refine jU ?_)|((with_reducible refine jV ?hy fun K hK=>?_);case hy=>rfl));simp only [go_sem, Nat.reduceEqDiff, Nat.reduceAdd, Nat.reduceMul, Nat.reduceLeDiff, Nat.reduceLT, Int.reduceLT, Int.reduceLE, Int.reduceEq, Int.reduceNeg, Int.reduceToNat, Nat.reducePow, reduceIte, reduceCtorEq])|((with_reducible first|refine jW ?hy ?_|refine jY ?hy ?_);case hy=>rfl)|((with_reducible first|refine jX ?hy ?_|refine jZ ?hy ?_);case hy=>rfl)|((with_reducible refine jF ?hy ?_);case hy=>decide))
     exact done _ _ h8 rfl rfl rfl (((hf5.trans (hf6.mono fun b _ hb => .fo hb)).trans hf7).trans hf8)
  have hl2p : ∀ j ∈ L2, 1 ≤ j := fun j hj => h.fo.pos (List.mem_flatten.2 ⟨_, hmem, by simp [hj]⟩)
  refine x_cond (t := (((L2.headD 0 : Nat) : Int) != 0)) rfl (fun ht => ?_) (fun ht => ?_)
  ·obtain ⟨b1, L2', eL2'⟩ : ∃ b1 L2', L2 = b1 :: L2' := by
    cases hL : L2 with
    | nil => rw [hL] at ht; simp at ht
    | cons a b => exact ⟨a, b, rfl⟩
   repeat' (first|(with_reducible first|refine jA ?_|(refine hK _ _ ?_;clear hK K)|refine jJ fun K hK=>?_|refine jK ?_|refine jL ?_|refine jM ?_|refine jN ?_|refine jO ?_|refine jP ?_|refine jQ ?_|(refine jB ?_;clear hK K)|(refine jC ?_;clear hK K)|refine jD ?_|refine jE ?_|refine jG ?_|refine jH ?_|refine jI ?_)|((with_reducible refine jR ?hq ?_);case hq=>rfl)|((first|(with_reducible first|refine jS fun K hK=>?_|refine jT ?_|refine jU ?_)|((with_reducible refine jV ?hy fun K hK=>?_);case hy=>rfl));simp only [go_sem, Nat.reduceEqDiff, Nat.reduceAdd, Nat.reduceMul, Nat.reduceLeDiff, Nat.reduceLT, Int.reduceLT, Int.reduceLE, Int.reduceEq, Int.reduceNeg, Int.reduceToNat, Nat.reducePow, reduceIte, reduceCtorEq, i0, e0])|((with_reducible first|refine jW ?hy ?_|refine jY ?hy ?_);case hy=>rfl)|((with_reducible first|refine jX ?hy ?_|refine jZ ?hy ?_);case hy=>rfl)|((with_reducible refine jF ?hy ?_);case hy=>decide))
   refine m_split (l := [ky]) (k := L2.headD 0) (r := L2') (R := M :: [kx] :: (oL L1 ++ R)) h9.fo (by
    rw [eL2']
    exact List.perm_iff_count.2 fun z => by simp only [List.count_cons, List.singleton_append, List.headD_cons]; omega) (by simp) fun H10 hF10 hf10 => ?_
   have h10 := h9.op hF10 hf10
   repeat' (first|(with_reducible first|refine jA ?_|(refine hK _ _ ?_;clear hK K)|refine jJ fun K hK=>?_|refine jK ?_|refine jL ?_|refine jM ?_|refine jN ?_|refine jO ?_|refine jP ?_|refine jQ ?_|(refine jB ?_;clear hK K)|(refine jC ?_;clear hK K)|refine jD ?_|refine jE ?_|refine jG ?_|refine jH ?_|refine jI ?_)|((with_reducible refine jR ?hq ?_);case hq=>rfl)|((first|(with_reducible first|refine jS fun K hK=>?_|refine jT ?_|refine jU ?_)|((with_reducible refine jV ?hy fun K hK=>?_);case hy=>rfl));simp only [go_sem, Nat.reduceEqDiff, Nat.reduceAdd, Nat.reduceMul, Nat.reduceLeDiff, Nat.reduceLT, Int.reduceLT, Int.reduceLE, Int.reduceEq, Int.reduceNeg, Int.reduceToNat, Nat.reducePow, reduceIte, reduceCtorEq])|((with_reducible first|refine jW ?hy ?_|refine jY ?hy ?_);case hy=>rfl)|((with_reducible first|refine jX ?hy ?_|refine jZ ?hy ?_);case hy=>rfl)|((with_reducible refine jF ?hy ?_);case hy=>decide))
   refine tail2 _ _ i0 i7 i9 rfl rfl ?_ (hfr9.trans (hf10.mono fun b _ hb => .fo hb))
   have hL2 : L2 ≠ [] := by rw [eL2']; simp
   refine h10.op (h10.fo.perm ?_) (.refl _ _)
   simp only [oL, if_neg hL2, List.singleton_append]
   rw [eL2']
   exact List.Perm.refl _
  ·have hz : L2 = [] := by
    cases hL : L2 with
    | nil => rfl
    | cons a b =>
     have := hl2p a (by rw [hL]; exact .head _)
     rw [hL] at ht
     simp at ht
     omega
   repeat' (first|(with_reducible first|refine jA ?_|(refine hK _ _ ?_;clear hK K)|refine jJ fun K hK=>?_|refine jK ?_|refine jL ?_|refine jM ?_|refine jN ?_|refine jO ?_|refine jP ?_|refine jQ ?_|(refine jB ?_;clear hK K)|(refine jC ?_;clear hK K)|refine jD ?_|refine jE ?_|refine jG ?_|refine jH ?_|refine jI ?_)|((with_reducible refine jR ?hq ?_);case hq=>rfl)|((first|(with_reducible first|refine jS fun K hK=>?_|refine jT ?_|refine jU ?_)|((with_reducible refine jV ?hy fun K hK=>?_);case hy=>rfl));simp only [go_sem, Nat.reduceEqDiff, Nat.reduceAdd, Nat.reduceMul, Nat.reduceLeDiff, Nat.reduceLT, Int.reduceLT, Int.reduceLE, Int.reduceEq, Int.reduceNeg, Int.reduceToNat, Nat.reducePow, reduceIte, reduceCtorEq])|((with_reducible first|refine jW ?hy ?_|refine jY ?hy ?_);case hy=>rfl)|((with_reducible first|refine jX ?hy ?_|refine jZ ?hy ?_);case hy=>rfl)|((with_reducible refine jF ?hy ?_);case hy=>decide))
   refine tail2 _ _ i0 i7 i9 rfl rfl ?_ hfr9
   refine h9.op (h9.fo.perm ?_) (.refl _ _)
   rw [hz]
   simp only [oL, if_true, List.nil_append]
   exact List.perm_iff_count.2 fun z => by simp only [List.count_cons]; omega
 refine x_cond (t := decide (q1.length < (p1.map (hd st)).length)) rfl (fun ht => ?_) (fun ht => ?_)
 ·rw [decide_eq_true_iff, List.length_map] at ht
  obtain ⟨m, hm2⟩ := order_split (hq.symm.trans hp) ht
  repeat' (first|(with_reducible first|refine jA ?_|(refine hK _ _ ?_;clear hK K)|refine jJ fun K hK=>?_|refine jK ?_|refine jL ?_|refine jM ?_|refine jN ?_|refine jO ?_|refine jP ?_|refine jQ ?_|(refine jB ?_;clear hK K)|(refine jC ?_;clear hK K)|refine jD ?_|refine jE ?_|refine jG ?_|refine jH ?_|refine jI ?_)|((with_reducible refine jR ?hq ?_);case hq=>rfl)|((first|(with_reducible first|refine jS fun K hK=>?_|refine jT ?_|refine jU ?_)|((with_reducible refine jV ?hy fun K hK=>?_);case hy=>rfl));simp only [go_sem, Nat.reduceEqDiff, Nat.reduceAdd, Nat.reduceMul, Nat.reduceLeDiff, Nat.reduceLT, Int.reduceLT, Int.reduceLE, Int.reduceEq, Int.reduceNeg, Int.reduceToNat, Nat.reducePow, reduceIte, reduceCtorEq])|((with_reducible first|refine jW ?hy ?_|refine jY ?hy ?_);case hy=>rfl)|((with_reducible first|refine jX ?hy ?_|refine jZ ?hy ?_);case hy=>rfl)|((with_reducible refine jF ?hy ?_);case hy=>decide))
  exact tail (v, u) (u, v) q1 m p2 _ (.inr ⟨rfl, rfl⟩) (by rw [← hm2]; exact hq) rfl (by rw [hd2]; rfl) (by rw [hd1]; rfl)
 ·rw [decide_eq_false_iff_not, List.length_map] at ht
  have hne : p1.length ≠ q1.length := fun e => by
   have := ne_len (hp.symm.trans hq) e
   exact huv (Prod.mk.inj this).1
  obtain ⟨m, hm2⟩ := order_split (hp.symm.trans hq) (by omega)
  repeat' (first|(with_reducible first|refine jA ?_|(refine hK _ _ ?_;clear hK K)|refine jJ fun K hK=>?_|refine jK ?_|refine jL ?_|refine jM ?_|refine jN ?_|refine jO ?_|refine jP ?_|refine jQ ?_|(refine jB ?_;clear hK K)|(refine jC ?_;clear hK K)|refine jD ?_|refine jE ?_|refine jG ?_|refine jH ?_|refine jI ?_)|((with_reducible refine jR ?hq ?_);case hq=>rfl)|((first|(with_reducible first|refine jS fun K hK=>?_|refine jT ?_|refine jU ?_)|((with_reducible refine jV ?hy fun K hK=>?_);case hy=>rfl));simp only [go_sem, Nat.reduceEqDiff, Nat.reduceAdd, Nat.reduceMul, Nat.reduceLeDiff, Nat.reduceLT, Int.reduceLT, Int.reduceLE, Int.reduceEq, Int.reduceNeg, Int.reduceToNat, Nat.reducePow, reduceIte, reduceCtorEq])|((with_reducible first|refine jW ?hy ?_|refine jY ?hy ?_);case hy=>rfl)|((with_reducible first|refine jX ?hy ?_|refine jZ ?hy ?_);case hy=>rfl)|((with_reducible refine jF ?hy ?_);case hy=>decide))
  exact tail (u, v) (v, u) p1 m q2 _ (.inl ⟨rfl, rfl⟩) (by rw [← hm2]; exact hp) rfl (by rw [hd1]; rfl) (by rw [hd2]; rfl)
end
end Go.Proofs.Ytnlafhnbakipmaa
namespace Go.Sp
open Go Go.Hp
set_option linter.unusedVariables false
def Sq.hasB (S : Sq) (i : Int) : Bool := decide (0 ≤ i) && S.rows.flatten.contains i.toNat
def Sq.rowOf (S : Sq) (k : Nat) : List Nat := (S.rows.find? fun xs => xs.contains k).getD []
theorem Sq.hasB_iff {S : Sq} {i : Int} : S.hasB i = true ↔ S.Has i := by
 unfold Sq.hasB Sq.Has
 rw [Bool.and_eq_true, decide_eq_true_iff, List.contains_iff_mem]
 constructor
 ·rintro ⟨h1, h2⟩
  exact ⟨i.toNat, by omega, h2⟩
 ·rintro ⟨k, rfl, h⟩
  exact ⟨by omega, by simpa using h⟩
theorem Sq.rowOf_spec {S : Sq} {k : Nat} (h : k ∈ S.rows.flatten) : S.rowOf k ∈ S.rows ∧ k ∈ S.rowOf k := by
 obtain ⟨xs, hx, hk⟩ := List.mem_flatten.1 h
 unfold Sq.rowOf
 cases hf : S.rows.find? fun xs => xs.contains k with
 | none => exact absurd (by simpa using hk) (List.find?_eq_none.1 hf xs hx)
 | some ys =>
  have h1 := List.mem_of_find?_eq_some hf
  have h2 := List.find?_some hf
  exact ⟨h1, by simpa using h2⟩
def Sq.getQ (S : Sq) (i : Int) : Item × Int := if S.hasB i then (S.it i.toNat, 0) else (Item.zero, 31)
def Sq.sameQ (S : Sq) (a b : Int) : Bool × Int := if S.hasB a && S.hasB b then (decide (S.rowOf b.toNat = S.rowOf a.toNat), 0) else (false, 31)
def Sq.rankQ (S : Sq) (i : Int) : Int × Int := if S.hasB i then (((S.rowOf i.toNat).idxOf i.toNat : Nat), 0) else (0, 31)
def Sq.atQ (S : Sq) (i n : Int) : Int × Int := if S.hasB i then (if 0 ≤ n then match (S.rowOf i.toNat)[n.toNat]? with | some j => ((j : Int), 0) | none => (0, 34) else (0, 34)) else (0, 31)
def Sq.sumQ (S : Sq) (i : Int) : Agg × Int := if S.hasB i then (aggOf S.it (S.rowOf i.toNat), 0) else (Agg.zero, 31)
def Sq.flaggedQ (S : Sq) (i n : Int) : Int × Int := if S.hasB i then (if 0 ≤ n ∧ n < 256 then match firstF S.it n.toNat (S.rowOf i.toNat) with | some j => ((j : Int), 0) | none => (0, 35) else (0, 1)) else (0, 31)
def Sq.allQ (S : Sq) (i : Int) : List Nat × Int := if S.hasB i then (S.rowOf i.toNat, 0) else ([], 31)
end Go.Sp
namespace Go.Proofs.Ytnlafhnbakipmaa
open Go Go.Hp Go.Sp
set_option linter.all false
set_option maxRecDepth 100000
set_option maxHeartbeats 1600000

def Sq.makeQ (S : Sq) (x : Sp.Item) : (Int × Int) × Sq := if mayB x = false then ((0, 1), S) else if S.rows.flatten.length = S.room then ((0, 30), S) else (((S.next : Nat), 0), S.made x)
def Sq.freeQ (S : Sq) (i : Int) : Int × Sq := if S.hasB i then (if S.rowOf i.toNat = [i.toNat] then (0, S.freed i.toNat (S.rows.erase [i.toNat])) else (32, S)) else (31, S)
def Sq.setQ (S : Sq) (i : Int) (x : Sp.Item) : Int × Sq := if S.hasB i then (if mayB x = false then (1, S) else (0, { S with it := fun j => if j = i.toNat then x else S.it j })) else (31, S)
def Sq.joinQ (S : Sq) (a b : Int) : Int × Sq := if S.hasB a && S.hasB b then (if S.rowOf a.toNat = S.rowOf b.toNat then (33, S) else (0, { S with rows := (S.rowOf a.toNat ++ S.rowOf b.toNat) :: (S.rows.erase (S.rowOf a.toNat)).erase (S.rowOf b.toNat) })) else (31, S)
def Sq.splitQ (S : Sq) (i : Int) : Int × Sq := if S.hasB i then (if (S.rowOf i.toNat).idxOf i.toNat = 0 then (0, S) else (0, { S with rows := (S.rowOf i.toNat).take ((S.rowOf i.toNat).idxOf i.toNat) :: (S.rowOf i.toNat).drop ((S.rowOf i.toNat).idxOf i.toNat) :: S.rows.erase (S.rowOf i.toNat) })) else (31, S)
section
variable {H H' : Heap} {f : Nat} {T : Nat → Prop} {S : Sq} {K : Value → Heap → Prop} {k j : Nat}
theorem idx_split {xs : List Nat} {k : Nat} (h : k ∈ xs) : xs = xs.take (xs.idxOf k) ++ k :: xs.drop (xs.idxOf k + 1) ∧ (xs.take (xs.idxOf k)).length = xs.idxOf k ∧ xs.drop (xs.idxOf k) = k :: xs.drop (xs.idxOf k + 1) := by
 have hlt := List.idxOf_lt_length_of_mem h
 have he : xs[xs.idxOf k] = k := List.getElem_idxOf hlt
 have hd : xs.drop (xs.idxOf k) = k :: xs.drop (xs.idxOf k + 1) := by rw [List.drop_eq_getElem_cons hlt, he]
 exact ⟨by rw [← hd, List.take_append_drop], by rw [List.length_take]; omega, hd⟩
theorem no_has {i : Int} (h : S.hasB i = false) : ¬ S.Has i := fun hh => by rw [Sq.hasB_iff.2 hh] at h; cases h
theorem has_nat {i : Int} (h : S.hasB i = true) : ∃ k : Nat, i = (k : Int) ∧ k ∈ S.rows.flatten ∧ i.toNat = k := by
 obtain ⟨k, hk, h2⟩ := Sq.hasB_iff.1 h
 exact ⟨k, hk, h2, by omega⟩
theorem q_get {i : Int} (hM : FoM H f T S) (fin : ∀ H', FoM H' f T S → Fr T H H' → K (.tuple #[(S.getQ i).1.val, .int .i64 (S.getQ i).2]) H') : CallsH Try.prog 76 #[.pointer (some ⟨f, 0, none⟩), .int .i64 i] H K := by
 unfold Sq.getQ at fin
 cases h : S.hasB i with
 | false => rw [h] at fin; exact m_get_none hM (no_has h) fin
 | true =>
  obtain ⟨k, rfl, hk, e⟩ := has_nat h
  rw [h] at fin
  simp only [if_true, e] at fin
  exact m_get hM hk fin
theorem q_same {a b : Int} (hM : FoM H f T S) (fin : ∀ H', FoM H' f T S → Fr T H H' → K (.tuple #[.bool (S.sameQ a b).1, .int .i64 (S.sameQ a b).2]) H') : CallsH Try.prog 33 #[.pointer (some ⟨f, 0, none⟩), .int .i64 a, .int .i64 b] H K := by
 unfold Sq.sameQ at fin
 cases h : S.hasB a with
 | false => rw [h] at fin; exact m_same_none hM (.inl (no_has h)) (fin H hM (.refl _ _))
 | true =>
  cases h' : S.hasB b with
  | false => rw [h, h'] at fin; exact m_same_none hM (.inr (no_has h')) (fin H hM (.refl _ _))
  | true =>
   obtain ⟨k, rfl, hk, e⟩ := has_nat h
   obtain ⟨j, rfl, hj, e'⟩ := has_nat h'
   rw [h, h'] at fin
   simp only [Bool.and_self, if_true, e, e'] at fin
   obtain ⟨h1, h2⟩ := Sq.rowOf_spec hk
   obtain ⟨h3, h4⟩ := Sq.rowOf_spec hj
   refine m_same hM h1 h2 h3 h4 fun H' b hF hf hb => ?_
   have : b = decide (S.rowOf j = S.rowOf k) := by
    cases b with
    | true => rw [hb.1 rfl]; simp
    | false =>
     have : ¬ S.rowOf j = S.rowOf k := fun h => by have := hb.2 h; cases this
     simp [this]
   rw [this]
   exact fin H' hF hf
theorem q_rank {i : Int} (hM : FoM H f T S) (fin : ∀ H', FoM H' f T S → Fr T H H' → K (.tuple #[.int .i64 (S.rankQ i).1, .int .i64 (S.rankQ i).2]) H') : CallsH Try.prog 41 #[.pointer (some ⟨f, 0, none⟩), .int .i64 i] H K := by
 unfold Sq.rankQ at fin
 cases h : S.hasB i with
 | false => rw [h] at fin; exact m_rank_none hM (no_has h) (fin H hM (.refl _ _))
 | true =>
  obtain ⟨k, rfl, hk, e⟩ := has_nat h
  rw [h] at fin
  simp only [if_true, e] at fin
  obtain ⟨h1, h2⟩ := Sq.rowOf_spec hk
  obtain ⟨h3, h4, _⟩ := idx_split h2
  refine m_rank hM h1 h3 fun H' hF hf => ?_
  rw [h4]
  exact fin H' hF hf
theorem q_at {i n : Int} (hM : FoM H f T S) (fin : ∀ H', FoM H' f T S → Fr T H H' → K (.tuple #[.int .i64 (S.atQ i n).1, .int .i64 (S.atQ i n).2]) H') : CallsH Try.prog 69 #[.pointer (some ⟨f, 0, none⟩), .int .i64 i, .int .i64 n] H K := by
 unfold Sq.atQ at fin
 cases h : S.hasB i with
 | false => rw [h] at fin; exact m_at_none hM (no_has h) (fin H hM (.refl _ _))
 | true =>
  obtain ⟨k, rfl, hk, e⟩ := has_nat h
  rw [h] at fin
  simp only [if_true, e] at fin
  obtain ⟨h1, h2⟩ := Sq.rowOf_spec hk
  by_cases hn : 0 ≤ n
  ·rw [if_pos hn] at fin
   obtain ⟨m, rfl⟩ := Int.eq_ofNat_of_zero_le hn
   rw [Int.toNat_natCast] at fin
   cases hj : (S.rowOf k)[m]? with
   | none =>
    rw [hj] at fin
    refine m_at_bad hM h1 h2 (.inr ?_) fin
    have := List.getElem?_eq_none_iff.1 hj
    omega
   | some j =>
    rw [hj] at fin
    exact m_at hM h1 h2 hj fin
  ·rw [if_neg hn] at fin
   exact m_at_bad hM h1 h2 (.inl (by omega)) fin
theorem q_sum {i : Int} (hM : FoM H f T S) (fin : ∀ H', FoM H' f T S → Fr T H H' → K (.tuple #[(S.sumQ i).1.val, .int .i64 (S.sumQ i).2]) H') : CallsH Try.prog 50 #[.pointer (some ⟨f, 0, none⟩), .int .i64 i] H K := by
 unfold Sq.sumQ at fin
 cases h : S.hasB i with
 | false => rw [h] at fin; exact m_sum_none hM (no_has h) fin
 | true =>
  obtain ⟨k, rfl, hk, e⟩ := has_nat h
  rw [h] at fin
  simp only [if_true, e] at fin
  obtain ⟨h1, h2⟩ := Sq.rowOf_spec hk
  exact m_sum hM h1 h2 fin
theorem q_flagged {i n : Int} (hM : FoM H f T S) (hn1 : -9223372036854775808 ≤ n) (hn2 : n ≤ 9223372036854775807) (fin : ∀ H', FoM H' f T S → Fr T H H' → K (.tuple #[.int .i64 (S.flaggedQ i n).1, .int .i64 (S.flaggedQ i n).2]) H') : CallsH Try.prog 49 #[.pointer (some ⟨f, 0, none⟩), .int .i64 i, .int .i64 n] H K := by
 unfold Sq.flaggedQ at fin
 cases h : S.hasB i with
 | false => rw [h] at fin; exact m_flagged_none hM (no_has h) (fin H hM (.refl _ _))
 | true =>
  obtain ⟨k, rfl, hk, e⟩ := has_nat h
  rw [h] at fin
  simp only [if_true, e] at fin
  obtain ⟨h1, h2⟩ := Sq.rowOf_spec hk
  by_cases hn : 0 ≤ n ∧ n < 256
  ·rw [if_pos hn] at fin
   obtain ⟨fl, rfl⟩ := Int.eq_ofNat_of_zero_le hn.1
   rw [Int.toNat_natCast] at fin
   refine m_flagged hM h1 h2 (by omega) fun H' hF hf => ?_
   have := fin H' hF hf
   cases hj : firstF S.it fl (S.rowOf k) with
   | none => rw [hj] at this; exact this
   | some j => rw [hj] at this; exact this
  ·rw [if_neg hn] at fin
   exact m_flagged_bad hM hk hn1 hn2 hn (fin H hM (.refl _ _))
theorem q_all {i : Int} (hM : FoM H f T S) (fin : ∀ H' B v, FoM H' f T S → IR H' B v ((S.allQ i).1.map Int.ofNat) → (∀ b, B = some b → H.size ≤ b) → Fr T H H' → K (.tuple #[v, .int .i64 (S.allQ i).2]) H') : CallsH Try.prog 39 #[.pointer (some ⟨f, 0, none⟩), .int .i64 i] H K := by
 unfold Sq.allQ at fin
 cases h : S.hasB i with
 | false => rw [h] at fin; exact m_all_none hM (no_has h) (fin H none _ hM (IR.nil H) (fun b h => by cases h) (.refl _ _))
 | true =>
  obtain ⟨k, rfl, hk, e⟩ := has_nat h
  rw [h] at fin
  simp only [if_true, e] at fin
  obtain ⟨h1, h2⟩ := Sq.rowOf_spec hk
  exact m_all hM h1 h2 fin
theorem q_make {x : Sp.Item} (hM : FoM H f T S) (hx : Fits x) (fin : ∀ H' T', FoM H' f T' (Sq.makeQ S x).2 → Fr T H H' → (∀ b, T' b → T b ∨ H.size ≤ b) → K (.tuple #[.int .i64 (Sq.makeQ S x).1.1, .int .i64 (Sq.makeQ S x).1.2]) H') :
  CallsH Try.prog 31 #[.pointer (some ⟨f, 0, none⟩), x.val] H K := by
 unfold Sq.makeQ at fin
 cases hm : mayB x with
 | false =>
  rw [hm] at fin
  refine make_bad hM hx (fun h => by rw [mayB_iff.2 h] at hm; cases hm) fun H' hf => fin H' T (hM.grow hf) (hf.mono fun _ _ h => h.elim) fun b hb => .inl hb
 | true =>
  rw [hm] at fin
  simp only [Bool.true_eq_false, if_false] at fin
  by_cases hr : S.rows.flatten.length = S.room
  ·rw [if_pos hr] at fin
   exact make_full hM hx (mayB_iff.1 hm) hr fun H' hf => fin H' T (hM.grow hf) (hf.mono fun _ _ h => h.elim) fun b hb => .inl hb
  ·rw [if_neg hr] at fin
   have := hM.room.1
   exact make_ok hM hx (mayB_iff.1 hm) (by omega) fun H' T' hF hf hT _ => fin H' T' hF hf hT
theorem q_free {i : Int} (hM : FoM H f T S) (fin : ∀ H', FoM H' f T (Sq.freeQ S i).2 → Fr T H H' → K (.int .i64 (Sq.freeQ S i).1) H') : CallsH Try.prog 75 #[.pointer (some ⟨f, 0, none⟩), .int .i64 i] H K := by
 unfold Sq.freeQ at fin
 cases h : S.hasB i with
 | false => rw [h] at fin; exact free_none hM (no_has h) (fin H hM (.refl _ _))
 | true =>
  obtain ⟨k, rfl, hk, e⟩ := has_nat h
  rw [h] at fin
  simp only [if_true, e] at fin
  obtain ⟨h1, h2⟩ := Sq.rowOf_spec hk
  by_cases hr : S.rowOf k = [k]
  ·rw [if_pos hr] at fin
   rw [hr] at h1
   exact free_ok hM (List.perm_cons_erase h1) fin
  ·rw [if_neg hr] at fin
   refine free_busy hM h1 h2 ?_ fin
   rcases Nat.lt_or_ge 1 (S.rowOf k).length with h | h
   ·exact h
   ·have : (S.rowOf k).length = 1 := by have := List.length_pos_of_mem h2; omega
    obtain ⟨y, hy⟩ := List.length_eq_one_iff.1 this
    rw [hy] at h2 hr
    simp at h2
    exact absurd (by rw [h2]) hr
theorem q_set {i : Int} {x : Sp.Item} (hM : FoM H f T S) (hx : Fits x) (fin : ∀ H', FoM H' f T (Sq.setQ S i x).2 → Fr T H H' → K (.int .i64 (Sq.setQ S i x).1) H') : CallsH Try.prog 77 #[.pointer (some ⟨f, 0, none⟩), .int .i64 i, x.val] H K := by
 unfold Sq.setQ at fin
 cases h : S.hasB i with
 | false => rw [h] at fin; exact m_set_none hM (no_has h) fin
 | true =>
  obtain ⟨k, rfl, hk, e⟩ := has_nat h
  rw [h] at fin
  simp only [if_true, e] at fin
  cases hm : mayB x with
  | false =>
   rw [hm] at fin
   exact m_set_bad hM hk hx (fun h => by rw [mayB_iff.2 h] at hm; cases hm) fin
  | true =>
   rw [hm] at fin
   exact m_set hM hk hx (mayB_iff.1 hm) fin
theorem q_join {a b : Int} (hM : FoM H f T S) (fin : ∀ H', FoM H' f T (Sq.joinQ S a b).2 → Fr T H H' → K (.int .i64 (Sq.joinQ S a b).1) H') : CallsH Try.prog 38 #[.pointer (some ⟨f, 0, none⟩), .int .i64 a, .int .i64 b] H K := by
 unfold Sq.joinQ at fin
 cases h : S.hasB a with
 | false => rw [h] at fin; exact m_join_none hM (.inl (no_has h)) (fin H hM (.refl _ _))
 | true =>
  cases h' : S.hasB b with
  | false => rw [h, h'] at fin; exact m_join_none hM (.inr (no_has h')) (fin H hM (.refl _ _))
  | true =>
   obtain ⟨k, rfl, hk, e⟩ := has_nat h
   obtain ⟨j, rfl, hj, e'⟩ := has_nat h'
   rw [h, h'] at fin
   simp only [Bool.and_self, if_true, e, e'] at fin
   obtain ⟨h1, h2⟩ := Sq.rowOf_spec hk
   obtain ⟨h3, h4⟩ := Sq.rowOf_spec hj
   by_cases hr : S.rowOf k = S.rowOf j
   ·rw [if_pos hr] at fin
    exact m_join_same hM h1 h2 (by rw [hr]; exact h4) fin
   ·rw [if_neg hr] at fin
    refine m_join hM ?_ h2 h4 fin
    refine (List.perm_cons_erase h1).trans (List.Perm.cons _ (List.perm_cons_erase ?_))
    exact (List.mem_erase_of_ne (fun h => hr h.symm)).2 h3
theorem q_split {i : Int} (hM : FoM H f T S) (fin : ∀ H', FoM H' f T (Sq.splitQ S i).2 → Fr T H H' → K (.int .i64 (Sq.splitQ S i).1) H') : CallsH Try.prog 36 #[.pointer (some ⟨f, 0, none⟩), .int .i64 i] H K := by
 unfold Sq.splitQ at fin
 cases h : S.hasB i with
 | false => rw [h] at fin; exact m_split_none hM (no_has h) (fin H hM (.refl _ _))
 | true =>
  obtain ⟨k, rfl, hk, e⟩ := has_nat h
  rw [h] at fin
  simp only [if_true, e] at fin
  obtain ⟨h1, h2⟩ := Sq.rowOf_spec hk
  obtain ⟨h3, h4, h5⟩ := idx_split h2
  by_cases h0 : (S.rowOf k).idxOf k = 0
  ·rw [if_pos h0] at fin
   refine m_split_first (r := (S.rowOf k).drop 1) hM ?_ fin
   rw [h0] at h5
   rw [List.drop_zero] at h5
   rw [← h5]
   exact h1
  ·rw [if_neg h0, h5] at fin
   refine m_split hM ((List.perm_cons_erase h1).trans (by rw [← h3])) (fun hh => ?_) fin
   rw [hh] at h4
   exact h0 h4.symm
end
end Go.Proofs.Ytnlafhnbakipmaa
namespace Go.To
open Go Go.Hp Go.Sp Go.Proofs.Ytnlafhnbakipmaa
def Tq.item (Q : Tq) (x : St) : Sp.Item := if x.1 = x.2 then stopIt (Q.val x.1) (Q.on x.1) else stepIt (Q.em x.1 x.2)
def Tq.linkQ (Q : Tq) (u v : Int) : Int × Tq := if inB Q.n u && inB Q.n v then (if (v.toNat, v.toNat) ∈ Q.row u.toNat then (41, Q) else (0, Q.lay (Q.linkRow u.toNat v.toNat))) else (40, Q)
def Tq.rerootQ (Q : Tq) (v : Int) : Int × Tq := if inB Q.n v then (0, Q.lay (turnedL (Q.row v.toNat) v.toNat)) else (40, Q)
def Tq.sameQ (Q : Tq) (u v : Int) : Bool × Int := if inB Q.n u && inB Q.n v then (decide ((v.toNat, v.toNat) ∈ Q.row u.toNat), 0) else (false, 40)
def Tq.setQ (Q : Tq) (v x : Int) : Int × Tq := if inB Q.n v then (if -1099511627776 ≤ x ∧ x ≤ 1099511627776 then (0, { Q with val := fun w => if w = v.toNat then x else Q.val w }) else (1, Q)) else (40, Q)
def Tq.sumQ (Q : Tq) (v : Int) : Agg × Int := if inB Q.n v then (aggL ((Q.row v.toNat).map Q.item), 0) else (Agg.zero, 40)
def Tq.markQ (Q : Tq) (v : Int) (b : Bool) : Int × Tq := if inB Q.n v then (0, { Q with on := fun w => if w = v.toNat then b else Q.on w }) else (40, Q)
def Tq.walkL (Q : Tq) (v : Nat) : List Int := ((Q.row v).filter fun x => x.1 == x.2).map fun x => (x.1 : Int)
def Tq.walkQ (Q : Tq) (v : Int) : List Int × Int := if inB Q.n v then (Q.walkL v.toNat, 0) else ([], 40)
def Tq.markedQ (Q : Tq) (v : Int) : Int × Int := if inB Q.n v then (match (Q.row v.toNat).find? fun x => x.1 == x.2 && Q.on x.1 with | some x => ((x.1 : Int), 0) | none => (0, 43)) else (0, 40)
def Tq.markEQ (Q : Tq) (u v : Int) (b : Bool) : Int × Tq :=
 if inB Q.n u && inB Q.n v then (if u ≠ v ∧ (u.toNat, v.toNat) ∈ Q.row u.toNat then (0, { Q with em := fun a c => if (a, c) = (u.toNat, v.toNat) ∨ (a, c) = (v.toNat, u.toNat) then b else Q.em a c }) else (42, Q)) else (40, Q)
def Tq.markedEQ (Q : Tq) (v : Int) : (Int × Int) × Int := if inB Q.n v then (match (Q.row v.toNat).find? fun x => x.1 != x.2 && Q.em x.1 x.2 with | some x => (((x.1 : Int), (x.2 : Int)), 0) | none => ((0, 0), 43)) else ((0, 0), 40)
section
variable {S : Sq} {Q : Tq} {st : Int × Int → Option Nat} {pr : Int → Option (Int × Int)}
theorem Rel.it_hd (h : Rel S Q st pr) {w : Nat} (hw : w < Q.n) {x : St} (hx : x ∈ Q.row w) : S.it (hd st x) = Q.item x := by
 obtain ⟨a, b⟩ := x
 unfold Tq.item
 simp only
 by_cases hab : a = b
 ·subst hab
  rw [if_pos rfl, hd_stop]
  exact h.itv a (h.ok.of_mem hw hx).1
 ·rw [if_neg hab]
  obtain ⟨k, h1, h2, _⟩ := h.step_of hw hab hx
  rw [h2]
  exact h.its a b k h1
theorem Rel.agg (h : Rel S Q st pr) {w : Nat} (hw : w < Q.n) : aggOf S.it ((Q.row w).map (hd st)) = aggL ((Q.row w).map Q.item) := by
 unfold aggOf
 rw [List.map_map]
 congr 1
 exact List.map_congr_left fun x hx => h.it_hd hw hx
theorem val_upd {x y : Int} {v w : Nat} (hx : -1099511627776 ≤ x ∧ x ≤ 1099511627776) (hy : -1099511627776 ≤ y ∧ y ≤ 1099511627776) : -1099511627776 ≤ (if w = v then x else y) ∧ (if w = v then x else y) ≤ 1099511627776 := by
 split
 ·exact hx
 ·exact hy
theorem Rel.lay (h : Rel S Q st pr) {v : Nat} (hv : v < Q.n) {x : Int} {b : Bool} (hx : -1099511627776 ≤ x ∧ x ≤ 1099511627776) :
  Rel { S with it := fun i => if i = v + 1 then stopIt x b else S.it i } { Q with val := fun w => if w = v then x else Q.val w, on := fun w => if w = v then b else Q.on w } st pr where
 ok := { h.ok with val := fun w hw => val_upd hx (h.ok.val w hw) }
 room := h.room
 sto := h.sto
 ts := h.ts
 pro := h.pro
 rows := h.rows
 itv w hw := by
  show (if w + 1 = v + 1 then stopIt x b else S.it (w + 1)) = stopIt (if w = v then x else Q.val w) (if w = v then b else Q.on w)
  by_cases e : w = v
  ·rw [if_pos (by omega), if_pos e, if_pos e]
  ·rw [if_neg (by omega), if_neg e, if_neg e]
   exact h.itv w hw
 its a c k hk := by
  obtain ⟨_, _, _, _, _, _, h6⟩ := h.sto _ k hk
  show (if k = v + 1 then stopIt x b else S.it k) = _
  rw [if_neg (by have h6 : Q.n < k := h6; omega)]
  exact h.its a c k hk
end
end Go.To
namespace Go.Proofs.Ytnlafhnbakipmaa
open Go Go.Hp Go.Sp Go.To
set_option linter.all false
set_option maxRecDepth 100000
set_option maxHeartbeats 1600000
section
variable {H H' : Heap} {t f : Nat} {T Tf T' : Nat → Prop} {S S' : Sq} {Q Q' : Tq} {B c r1 r2 n : Nat} {st st' : Int × Int → Option Nat} {pr pr' : Int → Option (Int × Int)} {K L : Value → Heap → Prop}
theorem store5 {H : Heap} {b : Nat} {x0 x1 x2 x3 x4 : Value} (hb : Blk H b [x0, x1, x2, x3, x4]) (v0 v1 v2 v3 v4 : Value) :
  Blk (hset (hset (hset (hset (hset H ⟨b, 0, none⟩ v0) ⟨b, 1, none⟩ v1) ⟨b, 2, none⟩ v2) ⟨b, 3, none⟩ v3) ⟨b, 4, none⟩ v4) b [v0, v1, v2, v3, v4] ∧
   Fr (· = b) H (hset (hset (hset (hset (hset H ⟨b, 0, none⟩ v0) ⟨b, 1, none⟩ v1) ⟨b, 2, none⟩ v2) ⟨b, 3, none⟩ v3) ⟨b, 4, none⟩ v4) :=
 ⟨((((hb.set_same 0 _).set_same 1 _).set_same 2 _).set_same 3 _).set_same 4 _,
  Fr.set (S := (· = b)) (Fr.set (S := (· = b)) (Fr.set (S := (· = b)) (Fr.set (S := (· = b)) (Fr.set (S := (· = b)) (Fr.refl _ H) (.inl rfl) _) (.inl rfl) _) (.inl rfl) _) (.inl rfl) _) (.inl rfl) _⟩
theorem ToM.same' {v : Value} (hM : ToM H' t T Q) (hf : Fr (fun _ => False) H H') (fin : ∀ T', ToM H' t T' Q → Fr T H H' → (∀ b, T' b → T b ∨ H.size ≤ b) → L v H') : L v H' :=
 fin T hM (hf.mono fun _ _ h => h.elim) fun b hb => .inl hb
theorem tq_link {u v : Int} (hM : ToM H t T Q) (fin : ∀ H' T', ToM H' t T' (Q.linkQ u v).2 → Fr T H H' → (∀ b, T' b → T b ∨ H.size ≤ b) → L (.int .i64 (Q.linkQ u v).1) H') :
  CallsH Try.prog 11 #[.pointer (some ⟨t, 0, none⟩), .int .i64 u, .int .i64 v] H L := by
 unfold Tq.linkQ at fin
 by_cases hb : inB Q.n u = true ∧ inB Q.n v = true
 ·rw [hb.1, hb.2] at fin
  obtain ⟨a, rfl, ha⟩ := inB_nat hb.1
  obtain ⟨b, rfl, hb'⟩ := inB_nat hb.2
  simp only [Bool.and_self, if_true, Int.toNat_natCast] at fin
  by_cases hs : (b, b) ∈ Q.row a
  ·rw [if_pos hs] at fin
   obtain ⟨f, Tf, S, B, c, r1, r2, st, pr, h, hR, h3, h4⟩ := hM
   refine call11 (by simp) ?_
   simp only [Try.f11, Option.getD_some]
   repeat' (first|(with_reducible first|refine jA ?_|(refine hK _ _ ?_;clear hK K)|refine jJ fun K hK=>?_|refine jK ?_|refine jL ?_|refine jM ?_|refine jN ?_|refine jO ?_|refine jP ?_|refine jQ ?_|(refine jB ?_;clear hK K)|(refine jC ?_;clear hK K)|refine jD ?_|refine jE ?_|refine jG ?_|refine jH ?_|refine jI ?_)|((with_reducible refine jR ?hq ?_);case hq=>rfl)|((first|(with_reducible first|refine jS fun K hK=>?_|refine jT ?_|refine jU ?_)|((with_reducible refine jV ?hy fun K hK=>?_);case hy=>rfl));simp only [go_sem, Nat.reduceEqDiff, Nat.reduceAdd, Nat.reduceMul, Nat.reduceLeDiff, Nat.reduceLT, Int.reduceLT, Int.reduceLE, Int.reduceEq, Int.reduceNeg, Int.reduceToNat, Nat.reducePow, reduceIte, reduceCtorEq])|((with_reducible first|refine jW ?hy ?_|refine jY ?hy ?_);case hy=>rfl)|((with_reducible first|refine jX ?hy ?_|refine jZ ?hy ?_);case hy=>rfl)|((with_reducible refine jF ?hy ?_);case hy=>decide))
   refine has2 h fun H1 h1 hf1 => ?_
   rw [inB_of ha, inB_of hb']
   have d0 := h1.hd.cellOf (i := 0) rfl
   have d1 := h1.hd.cellOf (i := 1) rfl
   have du := h1.stop ha
   have dv := h1.stop hb'
   repeat' (first|(with_reducible first|refine jA ?_|(refine hK _ _ ?_;clear hK K)|refine jJ fun K hK=>?_|refine jK ?_|refine jL ?_|refine jM ?_|refine jN ?_|refine jO ?_|refine jP ?_|refine jQ ?_|(refine jB ?_;clear hK K)|(refine jC ?_;clear hK K)|refine jD ?_|refine jE ?_|refine jG ?_|refine jH ?_|refine jI ?_)|((with_reducible refine jR ?hq ?_);case hq=>rfl)|((first|(with_reducible first|refine jS fun K hK=>?_|refine jT ?_|refine jU ?_)|((with_reducible refine jV ?hy fun K hK=>?_);case hy=>rfl));simp only [go_sem, Nat.reduceEqDiff, Nat.reduceAdd, Nat.reduceMul, Nat.reduceLeDiff, Nat.reduceLT, Int.reduceLT, Int.reduceLE, Int.reduceEq, Int.reduceNeg, Int.reduceToNat, Nat.reducePow, reduceIte, reduceCtorEq, Bool.and_self, d0, d1, du, dv, ha, hb'])|((with_reducible first|refine jW ?hy ?_|refine jY ?hy ?_);case hy=>rfl)|((with_reducible first|refine jX ?hy ?_|refine jZ ?hy ?_);case hy=>rfl)|((with_reducible refine jF ?hy ?_);case hy=>decide))
   refine m_same h1.fo (hR.row_mem ha) (hR.stop_in ha) (hR.row_mem hb') (hR.stop_in hb') fun H2 b2 hF2 hf2 hb2 => ?_
   obtain rfl : b2 = true := hb2.2 ((hR.same_iff ha hb').2 hs).symm
   have h2 := h1.op hF2 hf2
   repeat' (first|(with_reducible first|refine jA ?_|(refine hK _ _ ?_;clear hK K)|refine jJ fun K hK=>?_|refine jK ?_|refine jL ?_|refine jM ?_|refine jN ?_|refine jO ?_|refine jP ?_|refine jQ ?_|(refine jB ?_;clear hK K)|(refine jC ?_;clear hK K)|refine jD ?_|refine jE ?_|refine jG ?_|refine jH ?_|refine jI ?_)|((with_reducible refine jR ?hq ?_);case hq=>rfl)|((first|(with_reducible first|refine jS fun K hK=>?_|refine jT ?_|refine jU ?_)|((with_reducible refine jV ?hy fun K hK=>?_);case hy=>rfl));simp only [go_sem, Nat.reduceEqDiff, Nat.reduceAdd, Nat.reduceMul, Nat.reduceLeDiff, Nat.reduceLT, Int.reduceLT, Int.reduceLE, Int.reduceEq, Int.reduceNeg, Int.reduceToNat, Nat.reducePow, reduceIte, reduceCtorEq])|((with_reducible first|refine jW ?hy ?_|refine jY ?hy ?_);case hy=>rfl)|((with_reducible first|refine jX ?hy ?_|refine jZ ?hy ?_);case hy=>rfl)|((with_reducible refine jF ?hy ?_);case hy=>decide))
   exact ToM.after h3 h4 h2 hR ((hf1.mono fun _ _ h => h.elim).trans (hf2.mono fun b _ hb => .fo hb)) (fun b hb => .inl hb) fun T'' a b c => fin _ T'' a b c
  ·rw [if_neg hs] at fin
   exact t_link hM ha hb' hs fin
 ·rw [inB_no hb] at fin
  obtain ⟨f, Tf, S, B, c, r1, r2, st, pr, h, hR, h3, h4⟩ := hM
  refine call11 (by simp) ?_
  simp only [Try.f11, Option.getD_some]
  repeat' (first|(with_reducible first|refine jA ?_|(refine hK _ _ ?_;clear hK K)|refine jJ fun K hK=>?_|refine jK ?_|refine jL ?_|refine jM ?_|refine jN ?_|refine jO ?_|refine jP ?_|refine jQ ?_|(refine jB ?_;clear hK K)|(refine jC ?_;clear hK K)|refine jD ?_|refine jE ?_|refine jG ?_|refine jH ?_|refine jI ?_)|((with_reducible refine jR ?hq ?_);case hq=>rfl)|((first|(with_reducible first|refine jS fun K hK=>?_|refine jT ?_|refine jU ?_)|((with_reducible refine jV ?hy fun K hK=>?_);case hy=>rfl));simp only [go_sem, Nat.reduceEqDiff, Nat.reduceAdd, Nat.reduceMul, Nat.reduceLeDiff, Nat.reduceLT, Int.reduceLT, Int.reduceLE, Int.reduceEq, Int.reduceNeg, Int.reduceToNat, Nat.reducePow, reduceIte, reduceCtorEq])|((with_reducible first|refine jW ?hy ?_|refine jY ?hy ?_);case hy=>rfl)|((with_reducible first|refine jX ?hy ?_|refine jZ ?hy ?_);case hy=>rfl)|((with_reducible refine jF ?hy ?_);case hy=>decide))
  refine has2 h fun H1 h1 hf1 => ?_
  rw [inB_no hb]
  repeat' (first|(with_reducible first|refine jA ?_|(refine hK _ _ ?_;clear hK K)|refine jJ fun K hK=>?_|refine jK ?_|refine jL ?_|refine jM ?_|refine jN ?_|refine jO ?_|refine jP ?_|refine jQ ?_|(refine jB ?_;clear hK K)|(refine jC ?_;clear hK K)|refine jD ?_|refine jE ?_|refine jG ?_|refine jH ?_|refine jI ?_)|((with_reducible refine jR ?hq ?_);case hq=>rfl)|((first|(with_reducible first|refine jS fun K hK=>?_|refine jT ?_|refine jU ?_)|((with_reducible refine jV ?hy fun K hK=>?_);case hy=>rfl));simp only [go_sem, Nat.reduceEqDiff, Nat.reduceAdd, Nat.reduceMul, Nat.reduceLeDiff, Nat.reduceLT, Int.reduceLT, Int.reduceLE, Int.reduceEq, Int.reduceNeg, Int.reduceToNat, Nat.reducePow, reduceIte, reduceCtorEq])|((with_reducible first|refine jW ?hy ?_|refine jY ?hy ?_);case hy=>rfl)|((with_reducible first|refine jX ?hy ?_|refine jZ ?hy ?_);case hy=>rfl)|((with_reducible refine jF ?hy ?_);case hy=>decide))
  exact ToM.after h3 h4 h1 hR (hf1.mono fun _ _ h => h.elim) (fun b hb => .inl hb) fun T'' a b c => fin _ T'' a b c
theorem tq_reroot {v : Int} (hM : ToM H t T Q) (fin : ∀ H' T', ToM H' t T' (Q.rerootQ v).2 → Fr T H H' → (∀ b, T' b → T b ∨ H.size ≤ b) → L (.int .i64 (Q.rerootQ v).1) H') :
  CallsH Try.prog 12 #[.pointer (some ⟨t, 0, none⟩), .int .i64 v] H L := by
 obtain ⟨f, Tf, S, B, c, r1, r2, st, pr, h, hR, h3, h4⟩ := hM
 unfold Tq.rerootQ at fin
 refine call12 (by simp) ?_
 simp only [Try.f12, Option.getD_some]
 repeat' (first|(with_reducible first|refine jA ?_|(refine hK _ _ ?_;clear hK K)|refine jJ fun K hK=>?_|refine jK ?_|refine jL ?_|refine jM ?_|refine jN ?_|refine jO ?_|refine jP ?_|refine jQ ?_|(refine jB ?_;clear hK K)|(refine jC ?_;clear hK K)|refine jD ?_|refine jE ?_|refine jG ?_|refine jH ?_|refine jI ?_)|((with_reducible refine jR ?hq ?_);case hq=>rfl)|((first|(with_reducible first|refine jS fun K hK=>?_|refine jT ?_|refine jU ?_)|((with_reducible refine jV ?hy fun K hK=>?_);case hy=>rfl));simp only [go_sem, Nat.reduceEqDiff, Nat.reduceAdd, Nat.reduceMul, Nat.reduceLeDiff, Nat.reduceLT, Int.reduceLT, Int.reduceLE, Int.reduceEq, Int.reduceNeg, Int.reduceToNat, Nat.reducePow, reduceIte, reduceCtorEq])|((with_reducible first|refine jW ?hy ?_|refine jY ?hy ?_);case hy=>rfl)|((with_reducible first|refine jX ?hy ?_|refine jZ ?hy ?_);case hy=>rfl)|((with_reducible refine jF ?hy ?_);case hy=>decide))
 refine has1 h fun H1 h1 hf1 => ?_
 cases hb : inB Q.n v with
 | false =>
  rw [hb] at fin
  repeat' (first|(with_reducible first|refine jA ?_|(refine hK _ _ ?_;clear hK K)|refine jJ fun K hK=>?_|refine jK ?_|refine jL ?_|refine jM ?_|refine jN ?_|refine jO ?_|refine jP ?_|refine jQ ?_|(refine jB ?_;clear hK K)|(refine jC ?_;clear hK K)|refine jD ?_|refine jE ?_|refine jG ?_|refine jH ?_|refine jI ?_)|((with_reducible refine jR ?hq ?_);case hq=>rfl)|((first|(with_reducible first|refine jS fun K hK=>?_|refine jT ?_|refine jU ?_)|((with_reducible refine jV ?hy fun K hK=>?_);case hy=>rfl));simp only [go_sem, Nat.reduceEqDiff, Nat.reduceAdd, Nat.reduceMul, Nat.reduceLeDiff, Nat.reduceLT, Int.reduceLT, Int.reduceLE, Int.reduceEq, Int.reduceNeg, Int.reduceToNat, Nat.reducePow, reduceIte, reduceCtorEq])|((with_reducible first|refine jW ?hy ?_|refine jY ?hy ?_);case hy=>rfl)|((with_reducible first|refine jX ?hy ?_|refine jZ ?hy ?_);case hy=>rfl)|((with_reducible refine jF ?hy ?_);case hy=>decide))
  exact ToM.after h3 h4 h1 hR (hf1.mono fun _ _ h => h.elim) (fun b hb => .inl hb) fun T'' a b c => fin _ T'' a b c
 | true =>
  rw [hb] at fin
  obtain ⟨a, rfl, ha⟩ := inB_nat hb
  simp only [if_true, Int.toNat_natCast] at fin
  obtain ⟨l, r, hl⟩ : ∃ l r, Q.row a = l ++ (a, a) :: r := ⟨_, _, (split_idx (hR.ok.self a ha)).1⟩
  rw [turnedL_eq (hR.ok.nd a ha) hl] at fin
  obtain ⟨R, hRR⟩ : ∃ R, S.rows.Perm ((Q.row a).map (hd st) :: R) := ⟨_, List.perm_cons_erase (hR.row_mem ha)⟩
  have hrow : (Q.row a).map (hd st) = l.map (hd st) ++ (a + 1) :: r.map (hd st) := by rw [hl, List.map_append, List.map_cons, hd_stop]
  repeat' (first|(with_reducible first|refine jA ?_|(refine hK _ _ ?_;clear hK K)|refine jJ fun K hK=>?_|refine jK ?_|refine jL ?_|refine jM ?_|refine jN ?_|refine jO ?_|refine jP ?_|refine jQ ?_|(refine jB ?_;clear hK K)|(refine jC ?_;clear hK K)|refine jD ?_|refine jE ?_|refine jG ?_|refine jH ?_|refine jI ?_)|((with_reducible refine jR ?hq ?_);case hq=>rfl)|((first|(with_reducible first|refine jS fun K hK=>?_|refine jT ?_|refine jU ?_)|((with_reducible refine jV ?hy fun K hK=>?_);case hy=>rfl));simp only [go_sem, Nat.reduceEqDiff, Nat.reduceAdd, Nat.reduceMul, Nat.reduceLeDiff, Nat.reduceLT, Int.reduceLT, Int.reduceLE, Int.reduceEq, Int.reduceNeg, Int.reduceToNat, Nat.reducePow, reduceIte, reduceCtorEq])|((with_reducible first|refine jW ?hy ?_|refine jY ?hy ?_);case hy=>rfl)|((with_reducible first|refine jX ?hy ?_|refine jZ ?hy ?_);case hy=>rfl)|((with_reducible refine jF ?hy ?_);case hy=>decide))
  refine turn_ok' h1 ha (by rw [← hrow]; exact hRR) fun H2 h2 hf2 => ?_
  repeat' (first|(with_reducible first|refine jA ?_|(refine hK _ _ ?_;clear hK K)|refine jJ fun K hK=>?_|refine jK ?_|refine jL ?_|refine jM ?_|refine jN ?_|refine jO ?_|refine jP ?_|refine jQ ?_|(refine jB ?_;clear hK K)|(refine jC ?_;clear hK K)|refine jD ?_|refine jE ?_|refine jG ?_|refine jH ?_|refine jI ?_)|((with_reducible refine jR ?hq ?_);case hq=>rfl)|((first|(with_reducible first|refine jS fun K hK=>?_|refine jT ?_|refine jU ?_)|((with_reducible refine jV ?hy fun K hK=>?_);case hy=>rfl));simp only [go_sem, Nat.reduceEqDiff, Nat.reduceAdd, Nat.reduceMul, Nat.reduceLeDiff, Nat.reduceLT, Int.reduceLT, Int.reduceLE, Int.reduceEq, Int.reduceNeg, Int.reduceToNat, Nat.reducePow, reduceIte, reduceCtorEq])|((with_reducible first|refine jW ?hy ?_|refine jY ?hy ?_);case hy=>rfl)|((with_reducible first|refine jX ?hy ?_|refine jZ ?hy ?_);case hy=>rfl)|((with_reducible refine jF ?hy ?_);case hy=>decide))
  exact ToM.after h3 h4 (Q' := Q.lay _) h2 (hR.turn ha hl hRR h.fo.nodup) ((hf1.mono fun _ _ h => h.elim).trans (hf2.mono fun b _ hb => .fo hb)) (fun b hb => .inl hb) fun T'' a b c => fin _ T'' a b c
theorem tq_same {u v : Int} (hM : ToM H t T Q) (fin : ∀ H' T', ToM H' t T' Q → Fr T H H' → (∀ b, T' b → T b ∨ H.size ≤ b) → L (.tuple #[.bool (Q.sameQ u v).1, .int .i64 (Q.sameQ u v).2]) H') :
  CallsH Try.prog 14 #[.pointer (some ⟨t, 0, none⟩), .int .i64 u, .int .i64 v] H L := by
 obtain ⟨f, Tf, S, B, c, r1, r2, st, pr, h, hR, h3, h4⟩ := hM
 unfold Tq.sameQ at fin
 refine call14 (by simp) ?_
 simp only [Try.f14, Option.getD_some]
 repeat' (first|(with_reducible first|refine jA ?_|(refine hK _ _ ?_;clear hK K)|refine jJ fun K hK=>?_|refine jK ?_|refine jL ?_|refine jM ?_|refine jN ?_|refine jO ?_|refine jP ?_|refine jQ ?_|(refine jB ?_;clear hK K)|(refine jC ?_;clear hK K)|refine jD ?_|refine jE ?_|refine jG ?_|refine jH ?_|refine jI ?_)|((with_reducible refine jR ?hq ?_);case hq=>rfl)|((first|(with_reducible first|refine jS fun K hK=>?_|refine jT ?_|refine jU ?_)|((with_reducible refine jV ?hy fun K hK=>?_);case hy=>rfl));simp only [go_sem, Nat.reduceEqDiff, Nat.reduceAdd, Nat.reduceMul, Nat.reduceLeDiff, Nat.reduceLT, Int.reduceLT, Int.reduceLE, Int.reduceEq, Int.reduceNeg, Int.reduceToNat, Nat.reducePow, reduceIte, reduceCtorEq])|((with_reducible first|refine jW ?hy ?_|refine jY ?hy ?_);case hy=>rfl)|((with_reducible first|refine jX ?hy ?_|refine jZ ?hy ?_);case hy=>rfl)|((with_reducible refine jF ?hy ?_);case hy=>decide))
 refine has2 h fun H1 h1 hf1 => ?_
 by_cases hb : inB Q.n u = true ∧ inB Q.n v = true
 ·rw [hb.1, hb.2] at fin ⊢
  obtain ⟨a, rfl, ha⟩ := inB_nat hb.1
  obtain ⟨b, rfl, hb'⟩ := inB_nat hb.2
  simp only [Bool.and_self, if_true, Int.toNat_natCast] at fin
  have d0 := h1.hd.cellOf (i := 0) rfl
  have d1 := h1.hd.cellOf (i := 1) rfl
  have du := h1.stop ha
  have dv := h1.stop hb'
  repeat' (first|(with_reducible first|refine jA ?_|(refine hK _ _ ?_;clear hK K)|refine jJ fun K hK=>?_|refine jK ?_|refine jL ?_|refine jM ?_|refine jN ?_|refine jO ?_|refine jP ?_|refine jQ ?_|(refine jB ?_;clear hK K)|(refine jC ?_;clear hK K)|refine jD ?_|refine jE ?_|refine jG ?_|refine jH ?_|refine jI ?_)|((with_reducible refine jR ?hq ?_);case hq=>rfl)|((first|(with_reducible first|refine jS fun K hK=>?_|refine jT ?_|refine jU ?_)|((with_reducible refine jV ?hy fun K hK=>?_);case hy=>rfl));simp only [go_sem, Nat.reduceEqDiff, Nat.reduceAdd, Nat.reduceMul, Nat.reduceLeDiff, Nat.reduceLT, Int.reduceLT, Int.reduceLE, Int.reduceEq, Int.reduceNeg, Int.reduceToNat, Nat.reducePow, reduceIte, reduceCtorEq, Bool.and_self, d0, d1, du, dv, ha, hb'])|((with_reducible first|refine jW ?hy ?_|refine jY ?hy ?_);case hy=>rfl)|((with_reducible first|refine jX ?hy ?_|refine jZ ?hy ?_);case hy=>rfl)|((with_reducible refine jF ?hy ?_);case hy=>decide))
  refine m_same h1.fo (hR.row_mem ha) (hR.stop_in ha) (hR.row_mem hb') (hR.stop_in hb') fun H2 b2 hF2 hf2 hb2 => ?_
  have e : b2 = decide ((b, b) ∈ Q.row a) := by
   have hiff := hR.same_iff ha hb'
   cases b2 with
   | true => exact (decide_eq_true (hiff.1 (hb2.1 rfl).symm)).symm
   | false =>
    refine (decide_eq_false fun hm => ?_).symm
    have := hb2.2 (hiff.2 hm).symm
    cases this
  have h2 := h1.op hF2 hf2
  rw [e]
  repeat' (first|(with_reducible first|refine jA ?_|(refine hK _ _ ?_;clear hK K)|refine jJ fun K hK=>?_|refine jK ?_|refine jL ?_|refine jM ?_|refine jN ?_|refine jO ?_|refine jP ?_|refine jQ ?_|(refine jB ?_;clear hK K)|(refine jC ?_;clear hK K)|refine jD ?_|refine jE ?_|refine jG ?_|refine jH ?_|refine jI ?_)|((with_reducible refine jR ?hq ?_);case hq=>rfl)|((first|(with_reducible first|refine jS fun K hK=>?_|refine jT ?_|refine jU ?_)|((with_reducible refine jV ?hy fun K hK=>?_);case hy=>rfl));simp only [go_sem, Nat.reduceEqDiff, Nat.reduceAdd, Nat.reduceMul, Nat.reduceLeDiff, Nat.reduceLT, Int.reduceLT, Int.reduceLE, Int.reduceEq, Int.reduceNeg, Int.reduceToNat, Nat.reducePow, reduceIte, reduceCtorEq])|((with_reducible first|refine jW ?hy ?_|refine jY ?hy ?_);case hy=>rfl)|((with_reducible first|refine jX ?hy ?_|refine jZ ?hy ?_);case hy=>rfl)|((with_reducible refine jF ?hy ?_);case hy=>decide))
  exact ToM.after h3 h4 h2 hR ((hf1.mono fun _ _ h => h.elim).trans (hf2.mono fun b _ hb => .fo hb)) (fun b hb => .inl hb) fun T'' a b c => fin _ T'' a b c
 ·rw [inB_no hb] at fin ⊢
  repeat' (first|(with_reducible first|refine jA ?_|(refine hK _ _ ?_;clear hK K)|refine jJ fun K hK=>?_|refine jK ?_|refine jL ?_|refine jM ?_|refine jN ?_|refine jO ?_|refine jP ?_|refine jQ ?_|(refine jB ?_;clear hK K)|(refine jC ?_;clear hK K)|refine jD ?_|refine jE ?_|refine jG ?_|refine jH ?_|refine jI ?_)|((with_reducible refine jR ?hq ?_);case hq=>rfl)|((first|(with_reducible first|refine jS fun K hK=>?_|refine jT ?_|refine jU ?_)|((with_reducible refine jV ?hy fun K hK=>?_);case hy=>rfl));simp only [go_sem, Nat.reduceEqDiff, Nat.reduceAdd, Nat.reduceMul, Nat.reduceLeDiff, Nat.reduceLT, Int.reduceLT, Int.reduceLE, Int.reduceEq, Int.reduceNeg, Int.reduceToNat, Nat.reducePow, reduceIte, reduceCtorEq])|((with_reducible first|refine jW ?hy ?_|refine jY ?hy ?_);case hy=>rfl)|((with_reducible first|refine jX ?hy ?_|refine jZ ?hy ?_);case hy=>rfl)|((with_reducible refine jF ?hy ?_);case hy=>decide))
  exact ToM.after h3 h4 h1 hR (hf1.mono fun _ _ h => h.elim) (fun b hb => .inl hb) fun T'' a b c => fin _ T'' a b c
theorem tq_sum {v : Int} (hM : ToM H t T Q) (fin : ∀ H' T', ToM H' t T' Q → Fr T H H' → (∀ b, T' b → T b ∨ H.size ≤ b) → L (.tuple #[(Q.sumQ v).1.val, .int .i64 (Q.sumQ v).2]) H') :
  CallsH Try.prog 25 #[.pointer (some ⟨t, 0, none⟩), .int .i64 v] H L := by
 obtain ⟨f, Tf, S, B, c, r1, r2, st, pr, h, hR, h3, h4⟩ := hM
 unfold Tq.sumQ at fin
 refine call25 (by simp) ?_
 simp only [Try.f25, Option.getD_some]
 repeat' (first|(with_reducible first|refine jA ?_|(refine hK _ _ ?_;clear hK K)|refine jJ fun K hK=>?_|refine jK ?_|refine jL ?_|refine jM ?_|refine jN ?_|refine jO ?_|refine jP ?_|refine jQ ?_|(refine jB ?_;clear hK K)|(refine jC ?_;clear hK K)|refine jD ?_|refine jE ?_|refine jG ?_|refine jH ?_|refine jI ?_)|((with_reducible refine jR ?hq ?_);case hq=>rfl)|((first|(with_reducible first|refine jS fun K hK=>?_|refine jT ?_|refine jU ?_)|((with_reducible refine jV ?hy fun K hK=>?_);case hy=>rfl));simp only [go_sem, Nat.reduceEqDiff, Nat.reduceAdd, Nat.reduceMul, Nat.reduceLeDiff, Nat.reduceLT, Int.reduceLT, Int.reduceLE, Int.reduceEq, Int.reduceNeg, Int.reduceToNat, Nat.reducePow, reduceIte, reduceCtorEq])|((with_reducible first|refine jW ?hy ?_|refine jY ?hy ?_);case hy=>rfl)|((with_reducible first|refine jX ?hy ?_|refine jZ ?hy ?_);case hy=>rfl)|((with_reducible refine jF ?hy ?_);case hy=>decide))
 generalize hH0 : H.push _ = H0
 have hf0 : Fr (fun _ => False) H H0 := by rw [← hH0]; exact (by ((repeat (first | refine Fr.set ?_ (by simp) _ | refine Fr.push ?_ _)); exact Fr.refl _ _))
 have h0 := h.grow hf0
 have b0 : Blk H0 H.size [.int .i64 0, .int .i64 0, .int .i64 0, .int .i64 0, .int .i64 0] := by rw [← hH0]; exact Blk.new H [.int .i64 0, .int .i64 0, .int .i64 0, .int .i64 0, .int .i64 0] _
 clear hH0
 refine has1 h0 fun H1 h1 hf1 => ?_
 have b1 := b0.frame hf1 fun h => h
 have hf01 := hf0.trans hf1
 cases hb : inB Q.n v with
 | false =>
  rw [hb] at fin
  have w0 := b1.okW (i := 0) (by simp)
  have w1 := b1.okW (i := 1) (by simp)
  have w2 := b1.okW (i := 2) (by simp)
  have w3 := b1.okW (i := 3) (by simp)
  have w4 := b1.okW (i := 4) (by simp)
  repeat' (first|(with_reducible first|refine jA ?_|(refine hK _ _ ?_;clear hK K)|refine jJ fun K hK=>?_|refine jK ?_|refine jL ?_|refine jM ?_|refine jN ?_|refine jO ?_|refine jP ?_|refine jQ ?_|(refine jB ?_;clear hK K)|(refine jC ?_;clear hK K)|refine jD ?_|refine jE ?_|refine jG ?_|refine jH ?_|refine jI ?_)|((with_reducible refine jR ?hq ?_);case hq=>rfl)|((first|(with_reducible first|refine jS fun K hK=>?_|refine jT ?_|refine jU ?_)|((with_reducible refine jV ?hy fun K hK=>?_);case hy=>rfl));simp only [go_sem, Nat.reduceEqDiff, Nat.reduceAdd, Nat.reduceMul, Nat.reduceLeDiff, Nat.reduceLT, Int.reduceLT, Int.reduceLE, Int.reduceEq, Int.reduceNeg, Int.reduceToNat, Nat.reducePow, reduceIte, reduceCtorEq, w0, w1, w2, w3, w4, okW_hset])|((with_reducible first|refine jW ?hy ?_|refine jY ?hy ?_);case hy=>rfl)|((with_reducible first|refine jX ?hy ?_|refine jZ ?hy ?_);case hy=>rfl)|((with_reducible refine jF ?hy ?_);case hy=>decide))
  obtain ⟨b3, hf3⟩ := store5 b1 (.int .i64 0) (.int .i64 0) (.int .i64 0) (.int .i64 0) (.int .i64 0)
  generalize hset _ _ _ = H3 at b3 hf3 ⊢
  have c0 := b3.cellOf (i := 0) rfl
  have c1 := b3.cellOf (i := 1) rfl
  have c2 := b3.cellOf (i := 2) rfl
  have c3 := b3.cellOf (i := 3) rfl
  have c4 := b3.cellOf (i := 4) rfl
  simp only [go_sem, Nat.reduceEqDiff, Nat.reduceAdd, Nat.reduceMul, Nat.reduceLeDiff, Nat.reduceLT, Int.reduceLT, Int.reduceLE, Int.reduceEq, Int.reduceNeg, Int.reduceToNat, Nat.reducePow, reduceIte, reduceCtorEq, c0, c1, c2, c3, c4]
  have h3' := h1.frame hf3 fun b hb (e : b = H.size) => by have := h.lt b hb; omega
  exact ToM.after h3 h4 h3' hR ((hf01.trans' hf3 fun b hb (e : b = H.size) => by omega).mono fun _ _ h => h.elim) (fun b hb => .inl hb) fun T'' a b c => fin _ T'' a b c
 | true =>
  rw [hb] at fin
  obtain ⟨a, rfl, ha⟩ := inB_nat hb
  simp only [if_true, Int.toNat_natCast] at fin
  rw [← hR.agg ha] at fin
  have d0 := h1.hd.cellOf (i := 0) rfl
  have d1 := h1.hd.cellOf (i := 1) rfl
  have da := h1.stop ha
  repeat' (first|(with_reducible first|refine jA ?_|(refine hK _ _ ?_;clear hK K)|refine jJ fun K hK=>?_|refine jK ?_|refine jL ?_|refine jM ?_|refine jN ?_|refine jO ?_|refine jP ?_|refine jQ ?_|(refine jB ?_;clear hK K)|(refine jC ?_;clear hK K)|refine jD ?_|refine jE ?_|refine jG ?_|refine jH ?_|refine jI ?_)|((with_reducible refine jR ?hq ?_);case hq=>rfl)|((first|(with_reducible first|refine jS fun K hK=>?_|refine jT ?_|refine jU ?_)|((with_reducible refine jV ?hy fun K hK=>?_);case hy=>rfl));simp only [go_sem, Nat.reduceEqDiff, Nat.reduceAdd, Nat.reduceMul, Nat.reduceLeDiff, Nat.reduceLT, Int.reduceLT, Int.reduceLE, Int.reduceEq, Int.reduceNeg, Int.reduceToNat, Nat.reducePow, reduceIte, reduceCtorEq, d0, d1, da, ha])|((with_reducible first|refine jW ?hy ?_|refine jY ?hy ?_);case hy=>rfl)|((with_reducible first|refine jX ?hy ?_|refine jZ ?hy ?_);case hy=>rfl)|((with_reducible refine jF ?hy ?_);case hy=>decide))
  refine m_sum h1.fo (hR.row_mem ha) (hR.stop_in ha) fun H2 hF2 hf2 => ?_
  have h2 := h1.op hF2 hf2
  have b2 := b1.frame hf2 fun hb => by have := h.fo.lt hb; omega
  have w0 := b2.okW (i := 0) (by simp)
  have w1 := b2.okW (i := 1) (by simp)
  have w2 := b2.okW (i := 2) (by simp)
  have w3 := b2.okW (i := 3) (by simp)
  have w4 := b2.okW (i := 4) (by simp)
  obtain ⟨ag, eag⟩ : ∃ ag, ag = aggOf S.it ((Q.row a).map (hd st)) := ⟨_, rfl⟩
  rw [← eag] at fin ⊢
  obtain ⟨g0, g1, g2, g3, g4⟩ := ag
  simp only [Agg.val] at fin ⊢
  repeat' (first|(with_reducible first|refine jA ?_|(refine hK _ _ ?_;clear hK K)|refine jJ fun K hK=>?_|refine jK ?_|refine jL ?_|refine jM ?_|refine jN ?_|refine jO ?_|refine jP ?_|refine jQ ?_|(refine jB ?_;clear hK K)|(refine jC ?_;clear hK K)|refine jD ?_|refine jE ?_|refine jG ?_|refine jH ?_|refine jI ?_)|((with_reducible refine jR ?hq ?_);case hq=>rfl)|((first|(with_reducible first|refine jS fun K hK=>?_|refine jT ?_|refine jU ?_)|((with_reducible refine jV ?hy fun K hK=>?_);case hy=>rfl));simp only [go_sem, Nat.reduceEqDiff, Nat.reduceAdd, Nat.reduceMul, Nat.reduceLeDiff, Nat.reduceLT, Int.reduceLT, Int.reduceLE, Int.reduceEq, Int.reduceNeg, Int.reduceToNat, Nat.reducePow, reduceIte, reduceCtorEq, w0, w1, w2, w3, w4, okW_hset])|((with_reducible first|refine jW ?hy ?_|refine jY ?hy ?_);case hy=>rfl)|((with_reducible first|refine jX ?hy ?_|refine jZ ?hy ?_);case hy=>rfl)|((with_reducible refine jF ?hy ?_);case hy=>decide))
  obtain ⟨b3, hf3⟩ := store5 b2 (.int .i64 g0) (.int .i64 g1) (.int .i64 g2) (.int .i64 g3) (.int .i64 g4)
  generalize hset _ _ _ = H3 at b3 hf3 ⊢
  have c0 := b3.cellOf (i := 0) rfl
  have c1 := b3.cellOf (i := 1) rfl
  have c2 := b3.cellOf (i := 2) rfl
  have c3 := b3.cellOf (i := 3) rfl
  have c4 := b3.cellOf (i := 4) rfl
  simp only [go_sem, Nat.reduceEqDiff, Nat.reduceAdd, Nat.reduceMul, Nat.reduceLeDiff, Nat.reduceLT, Int.reduceLT, Int.reduceLE, Int.reduceEq, Int.reduceNeg, Int.reduceToNat, Nat.reducePow, reduceIte, reduceCtorEq, c0, c1, c2, c3, c4]
  have h3' := h2.frame hf3 fun b hb (e : b = H.size) => by have := h.lt b hb; omega
  refine ToM.after h3 h4 h3' hR ?_ (fun b hb => .inl hb) fun T'' a b c => fin _ T'' a b c
  exact ((hf01.mono fun _ _ h => h.elim).trans (hf2.mono fun b _ hb => .fo hb)).trans' (S' := fun b => b = H.size) hf3 fun b hb (e : b = H.size) => by omega
end
end Go.Proofs.Ytnlafhnbakipmaa
namespace Go.To
open Go Go.Hp Go.Sp Go.Proofs.Ytnlafhnbakipmaa
section
variable {S : Sq} {Q : Tq} {st : Int × Int → Option Nat} {pr : Int → Option (Int × Int)}
theorem Rel.mark2 (h : Rel S Q st pr) {u v : Nat} (hu : u < Q.n) (huv : u ≠ v) (hm : (u, v) ∈ Q.row u) {k1 k2 : Nat} (h1 : st ((u : Int), (v : Int)) = some k1) (h2 : st ((v : Int), (u : Int)) = some k2) {b : Bool} :
  Rel { S with it := fun i => if i = k2 then stepIt b else if i = k1 then stepIt b else S.it i } { Q with em := fun a c => if (a, c) = (u, v) ∨ (a, c) = (v, u) then b else Q.em a c } st pr where
 ok := { h.ok with
  sym := fun a c => by
   show (if (a, c) = (u, v) ∨ (a, c) = (v, u) then b else Q.em a c) = (if (c, a) = (u, v) ∨ (c, a) = (v, u) then b else Q.em c a)
   have : ((a, c) = (u, v) ∨ (a, c) = (v, u)) ↔ ((c, a) = (u, v) ∨ (c, a) = (v, u)) := by
    simp only [Prod.mk.injEq]
    constructor
    ·rintro (⟨h1, h2⟩ | ⟨h1, h2⟩)
     ·exact .inr ⟨h2, h1⟩
     ·exact .inl ⟨h2, h1⟩
    ·rintro (⟨h1, h2⟩ | ⟨h1, h2⟩)
     ·exact .inr ⟨h2, h1⟩
     ·exact .inl ⟨h2, h1⟩
   simp only [this, h.ok.sym a c]
  em := fun a c e => by
   have e : (if (a, c) = (u, v) ∨ (a, c) = (v, u) then b else Q.em a c) = true := e
   split at e
   ·rename_i hac
    rcases hac with hac | hac
    ·obtain ⟨rfl, rfl⟩ := Prod.mk.inj hac
     exact ⟨hu, huv, hm⟩
    ·obtain ⟨rfl, rfl⟩ := Prod.mk.inj hac
     obtain ⟨_, g2, _, g4⟩ := h.ok.of_mem hu hm
     exact ⟨g2, huv.symm, by
      show (a, c) ∈ Q.row a
      rw [g4]; exact (h.ok.tour _ hu).pair hm⟩
   ·exact h.ok.em a c e }
 room := h.room
 sto := h.sto
 ts := h.ts
 pro := h.pro
 rows := h.rows
 itv w hw := by
  obtain ⟨_, _, _, _, _, _, g1⟩ := h.sto _ k1 h1
  obtain ⟨_, _, _, _, _, _, g2⟩ := h.sto _ k2 h2
  have hw : w < Q.n := hw
  show (if w + 1 = k2 then stepIt b else if w + 1 = k1 then stepIt b else S.it (w + 1)) = _
  rw [if_neg (by omega), if_neg (by omega)]
  exact h.itv w hw
 its a c k hk := by
  show (if k = k2 then stepIt b else if k = k1 then stepIt b else S.it k) = stepIt (if (a, c) = (u, v) ∨ (a, c) = (v, u) then b else Q.em a c)
  by_cases e2 : k = k2
  ·subst e2
   have := h.inj_st hk h2
   simp only [Prod.mk.injEq, Int.natCast_inj] at this
   rw [if_pos rfl, if_pos (.inr (by rw [this.1, this.2]))]
  ·rw [if_neg e2]
   by_cases e1 : k = k1
   ·subst e1
    have := h.inj_st hk h1
    simp only [Prod.mk.injEq, Int.natCast_inj] at this
    rw [if_pos rfl, if_pos (.inl (by rw [this.1, this.2]))]
   ·rw [if_neg e1, if_neg]
    ·exact h.its a c k hk
    ·rintro (e | e)
     ·obtain ⟨rfl, rfl⟩ := Prod.mk.inj e
      rw [h1] at hk
      exact e1 (Option.some.inj hk).symm
     ·obtain ⟨rfl, rfl⟩ := Prod.mk.inj e
      rw [h2] at hk
      exact e2 (Option.some.inj hk).symm
end
end Go.To
namespace Go.Proofs.Ytnlafhnbakipmaa
open Go Go.Hp Go.Sp Go.To
set_option linter.all false
set_option maxRecDepth 100000
set_option maxHeartbeats 1600000
section
variable {H H' : Heap} {t f : Nat} {T Tf T' : Nat → Prop} {S S' : Sq} {Q Q' : Tq} {B c r1 r2 n : Nat} {st st' : Int × Int → Option Nat} {pr pr' : Int → Option (Int × Int)} {K L : Value → Heap → Prop}
theorem store3 {H : Heap} {b : Nat} {x0 x1 x2 : Value} (hb : Blk H b [x0, x1, x2]) (v0 v1 v2 : Value) :
  Blk (hset (hset (hset H ⟨b, 0, none⟩ v0) ⟨b, 1, none⟩ v1) ⟨b, 2, none⟩ v2) b [v0, v1, v2] ∧ Fr (· = b) H (hset (hset (hset H ⟨b, 0, none⟩ v0) ⟨b, 1, none⟩ v1) ⟨b, 2, none⟩ v2) :=
 ⟨((hb.set_same 0 _).set_same 1 _).set_same 2 _, Fr.set (S := (· = b)) (Fr.set (S := (· = b)) (Fr.set (S := (· = b)) (Fr.refl _ H) (.inl rfl) _) (.inl rfl) _) (.inl rfl) _⟩
theorem lay_ok {fc k b5 : Nat} {w : Value} {y : Sp.Item} (h : ToAt H t f Tf S B c r1 r2 n st pr) (hk : k ∈ S.rows.flatten) (hw : hcell H ⟨b5, 0, none⟩ = some w) (hb5 : ¬ Tf b5) (hy : Fits y)
  (hc : ∀ (H1 : Heap) (q : Nat) (M : Value → Heap → Prop), Blk H1 q (S.it k).cells → hcell H1 ⟨b5, 0, none⟩ = some w → q ≠ b5 → (∀ H2, Blk H2 q y.cells → Fr (· = q) H1 H2 → M (.tuple #[]) H2) → CallsH Try.prog fc #[.pointer (some ⟨q, 0, none⟩), .pointer (some ⟨b5, 0, none⟩)] H1 M)
  (fin : ∀ H', ToAt H' t f Tf (if mayB y then { S with it := fun i => if i = k then y else S.it i } else S) B c r1 r2 n st pr → Fr Tf H H' → L (.int .i64 (if mayB y then 0 else 1)) H') :
  CallsH Try.prog 44 #[.pointer (some ⟨t, 0, none⟩), .int .i64 (k : Nat), .func (.func fc) #[] #[.pointer (some ⟨b5, 0, none⟩)]] H L := by
 have c0 := h.hd.cellOf (i := 0) rfl
 refine call44 (by simp) ?_
 simp only [Try.f44, Option.getD_some]
 repeat' (first|(with_reducible first|refine jA ?_|(refine hK _ _ ?_;clear hK K)|refine jJ fun K hK=>?_|refine jK ?_|refine jL ?_|refine jM ?_|refine jN ?_|refine jO ?_|refine jP ?_|refine jQ ?_|(refine jB ?_;clear hK K)|(refine jC ?_;clear hK K)|refine jD ?_|refine jE ?_|refine jG ?_|refine jH ?_|refine jI ?_)|((with_reducible refine jR ?hq ?_);case hq=>rfl)|((first|(with_reducible first|refine jS fun K hK=>?_|refine jT ?_|refine jU ?_)|((with_reducible refine jV ?hy fun K hK=>?_);case hy=>rfl));simp only [go_sem, Nat.reduceEqDiff, Nat.reduceAdd, Nat.reduceMul, Nat.reduceLeDiff, Nat.reduceLT, Int.reduceLT, Int.reduceLE, Int.reduceEq, Int.reduceNeg, Int.reduceToNat, Nat.reducePow, reduceIte, reduceCtorEq, c0])|((with_reducible first|refine jW ?hy ?_|refine jY ?hy ?_);case hy=>rfl)|((with_reducible first|refine jX ?hy ?_|refine jZ ?hy ?_);case hy=>rfl)|((with_reducible refine jF ?hy ?_);case hy=>decide))
 refine m_get h.fo hk fun H1 hF1 hf1 => ?_
 have h1 := h.op hF1 hf1
 have hw1 : hcell H1 ⟨b5, 0, none⟩ = some w := by rw [hf1.cell (hcell_lt hw) hb5]; exact hw
 have lb5 := hcell_lt hw1
 obtain ⟨x, ex⟩ : ∃ x, x = S.it k := ⟨_, rfl⟩
 rw [← ex] at hc ⊢
 obtain ⟨x0, x1, x2⟩ := x
 simp only [Sp.Item.val]
 have bn := Blk.new H1 [.int .i64 0, .bool false, .int .i64 0] 79
 have fn : Fr (fun _ => False) H1 (H1.push (.cells #[.int .i64 0, .bool false, .int .i64 0] 79)) := (Fr.refl _ H1).push _
 have w0 := bn.okW (i := 0) (by simp)
 have w1 := bn.okW (i := 1) (by simp)
 have w2 := bn.okW (i := 2) (by simp)
 repeat' (first|(with_reducible first|refine jA ?_|(refine hK _ _ ?_;clear hK K)|refine jJ fun K hK=>?_|refine jK ?_|refine jL ?_|refine jM ?_|refine jN ?_|refine jO ?_|refine jP ?_|refine jQ ?_|(refine jB ?_;clear hK K)|(refine jC ?_;clear hK K)|refine jD ?_|refine jE ?_|refine jG ?_|refine jH ?_|refine jI ?_)|((with_reducible refine jR ?hq ?_);case hq=>rfl)|((first|(with_reducible first|refine jS fun K hK=>?_|refine jT ?_|refine jU ?_)|((with_reducible refine jV ?hy fun K hK=>?_);case hy=>rfl));simp only [go_sem, Nat.reduceEqDiff, Nat.reduceAdd, Nat.reduceMul, Nat.reduceLeDiff, Nat.reduceLT, Int.reduceLT, Int.reduceLE, Int.reduceEq, Int.reduceNeg, Int.reduceToNat, Nat.reducePow, reduceIte, reduceCtorEq, w0, w1, w2, okW_hset])|((with_reducible first|refine jW ?hy ?_|refine jY ?hy ?_);case hy=>rfl)|((with_reducible first|refine jX ?hy ?_|refine jZ ?hy ?_);case hy=>rfl)|((with_reducible refine jF ?hy ?_);case hy=>decide))
 obtain ⟨b2, f2⟩ := store3 bn (.int .i64 x0) (.bool x1) (.int .i64 x2)
 generalize hset _ _ _ = H2 at b2 f2 ⊢
 have f12 : Fr (fun _ => False) H1 H2 := fn.trans' f2 fun b hb (e : b = H1.size) => by omega
 have h2 := h1.grow f12
 have hw2 : hcell H2 ⟨b5, 0, none⟩ = some w := by rw [f12.cell lb5 (fun h => h)]; exact hw1
 refine hc H2 H1.size _ b2 hw2 (by have : b5 < H1.size := lb5; omega) fun H3 b3 f3 => ?_
 have f13 : Fr (fun _ => False) H1 H3 := f12.trans' f3 fun b hb (e : b = H1.size) => by omega
 have h3 := h1.grow f13
 obtain ⟨y0, y1, y2⟩ := y
 have d0 := h3.hd.cellOf (i := 0) rfl
 have g0 := b3.cellOf (i := 0) rfl
 have g1 := b3.cellOf (i := 1) rfl
 have g2 := b3.cellOf (i := 2) rfl
 simp only at g0 g1 g2
 repeat' (first|(with_reducible first|refine jA ?_|(refine hK _ _ ?_;clear hK K)|refine jJ fun K hK=>?_|refine jK ?_|refine jL ?_|refine jM ?_|refine jN ?_|refine jO ?_|refine jP ?_|refine jQ ?_|(refine jB ?_;clear hK K)|(refine jC ?_;clear hK K)|refine jD ?_|refine jE ?_|refine jG ?_|refine jH ?_|refine jI ?_)|((with_reducible refine jR ?hq ?_);case hq=>rfl)|((first|(with_reducible first|refine jS fun K hK=>?_|refine jT ?_|refine jU ?_)|((with_reducible refine jV ?hy fun K hK=>?_);case hy=>rfl));simp only [go_sem, Nat.reduceEqDiff, Nat.reduceAdd, Nat.reduceMul, Nat.reduceLeDiff, Nat.reduceLT, Int.reduceLT, Int.reduceLE, Int.reduceEq, Int.reduceNeg, Int.reduceToNat, Nat.reducePow, reduceIte, reduceCtorEq, d0, g0, g1, g2])|((with_reducible first|refine jW ?hy ?_|refine jY ?hy ?_);case hy=>rfl)|((with_reducible first|refine jX ?hy ?_|refine jZ ?hy ?_);case hy=>rfl)|((with_reducible refine jF ?hy ?_);case hy=>decide))
 cases hm : mayB ⟨y0, y1, y2⟩ with
 | true =>
  rw [hm] at fin
  refine m_set (x := ⟨y0, y1, y2⟩) h3.fo hk hy (mayB_iff.1 hm) fun H4 hF4 hf4 => ?_
  have h4 := h3.op hF4 hf4
  repeat' (first|(with_reducible first|refine jA ?_|(refine hK _ _ ?_;clear hK K)|refine jJ fun K hK=>?_|refine jK ?_|refine jL ?_|refine jM ?_|refine jN ?_|refine jO ?_|refine jP ?_|refine jQ ?_|(refine jB ?_;clear hK K)|(refine jC ?_;clear hK K)|refine jD ?_|refine jE ?_|refine jG ?_|refine jH ?_|refine jI ?_)|((with_reducible refine jR ?hq ?_);case hq=>rfl)|((first|(with_reducible first|refine jS fun K hK=>?_|refine jT ?_|refine jU ?_)|((with_reducible refine jV ?hy fun K hK=>?_);case hy=>rfl));simp only [go_sem, Nat.reduceEqDiff, Nat.reduceAdd, Nat.reduceMul, Nat.reduceLeDiff, Nat.reduceLT, Int.reduceLT, Int.reduceLE, Int.reduceEq, Int.reduceNeg, Int.reduceToNat, Nat.reducePow, reduceIte, reduceCtorEq])|((with_reducible first|refine jW ?hy ?_|refine jY ?hy ?_);case hy=>rfl)|((with_reducible first|refine jX ?hy ?_|refine jZ ?hy ?_);case hy=>rfl)|((with_reducible refine jF ?hy ?_);case hy=>decide))
  exact fin _ h4 ((hf1.trans (f13.mono fun _ _ h => h.elim)).trans hf4)
 | false =>
  rw [hm] at fin
  refine m_set_bad (x := ⟨y0, y1, y2⟩) h3.fo hk hy (fun hh => by rw [mayB_iff.2 hh] at hm; cases hm) fun H4 hF4 hf4 => ?_
  have h4 := h3.op hF4 hf4
  repeat' (first|(with_reducible first|refine jA ?_|(refine hK _ _ ?_;clear hK K)|refine jJ fun K hK=>?_|refine jK ?_|refine jL ?_|refine jM ?_|refine jN ?_|refine jO ?_|refine jP ?_|refine jQ ?_|(refine jB ?_;clear hK K)|(refine jC ?_;clear hK K)|refine jD ?_|refine jE ?_|refine jG ?_|refine jH ?_|refine jI ?_)|((with_reducible refine jR ?hq ?_);case hq=>rfl)|((first|(with_reducible first|refine jS fun K hK=>?_|refine jT ?_|refine jU ?_)|((with_reducible refine jV ?hy fun K hK=>?_);case hy=>rfl));simp only [go_sem, Nat.reduceEqDiff, Nat.reduceAdd, Nat.reduceMul, Nat.reduceLeDiff, Nat.reduceLT, Int.reduceLT, Int.reduceLE, Int.reduceEq, Int.reduceNeg, Int.reduceToNat, Nat.reducePow, reduceIte, reduceCtorEq])|((with_reducible first|refine jW ?hy ?_|refine jY ?hy ?_);case hy=>rfl)|((with_reducible first|refine jX ?hy ?_|refine jZ ?hy ?_);case hy=>rfl)|((with_reducible refine jF ?hy ?_);case hy=>decide))
  exact fin _ h4 ((hf1.trans (f13.mono fun _ _ h => h.elim)).trans hf4)
theorem setV_ok {q b5 : Nat} {x : Sp.Item} {z : Int} {M : Value → Heap → Prop} (hb : Blk H q x.cells) (hw : hcell H ⟨b5, 0, none⟩ = some (.int .i64 z)) (fin : ∀ H2, Blk H2 q (Sp.Item.mk z x.counts x.flags).cells → Fr (· = q) H H2 → M (.tuple #[]) H2) :
  CallsH Try.prog 45 #[.pointer (some ⟨q, 0, none⟩), .pointer (some ⟨b5, 0, none⟩)] H M := by
 have w0 := hb.okW (i := 0) (by simp [Sp.Item.cells])
 refine call45 (by simp) ?_
 simp only [Try.f45, Option.getD_some]
 repeat' (first|(with_reducible first|refine jA ?_|(refine hK _ _ ?_;clear hK K)|refine jJ fun K hK=>?_|refine jK ?_|refine jL ?_|refine jM ?_|refine jN ?_|refine jO ?_|refine jP ?_|refine jQ ?_|(refine jB ?_;clear hK K)|(refine jC ?_;clear hK K)|refine jD ?_|refine jE ?_|refine jG ?_|refine jH ?_|refine jI ?_)|((with_reducible refine jR ?hq ?_);case hq=>rfl)|((first|(with_reducible first|refine jS fun K hK=>?_|refine jT ?_|refine jU ?_)|((with_reducible refine jV ?hy fun K hK=>?_);case hy=>rfl));simp only [go_sem, Nat.reduceEqDiff, Nat.reduceAdd, Nat.reduceMul, Nat.reduceLeDiff, Nat.reduceLT, Int.reduceLT, Int.reduceLE, Int.reduceEq, Int.reduceNeg, Int.reduceToNat, Nat.reducePow, reduceIte, reduceCtorEq, hw, w0])|((with_reducible first|refine jW ?hy ?_|refine jY ?hy ?_);case hy=>rfl)|((with_reducible first|refine jX ?hy ?_|refine jZ ?hy ?_);case hy=>rfl)|((with_reducible refine jF ?hy ?_);case hy=>decide))
 exact fin _ (hb.set_same 0 _) (Fr.set (S := (· = q)) (a := ⟨q, 0, none⟩) (Fr.refl _ H) (.inl rfl) _)
theorem flag_ok {b : Bool} {m : Int} {M : Value → Heap → Prop} (fin : M (.int .i64 (if b then m else 0)) H) : CallsH Try.prog 47 #[.bool b, .int .i64 m] H M := by
 refine call47 (by simp) ?_
 simp only [Try.f47, Option.getD_some]
 cases b with
 | true =>
  repeat' (first|(with_reducible first|refine jA ?_|(refine hK _ _ ?_;clear hK K)|refine jJ fun K hK=>?_|refine jK ?_|refine jL ?_|refine jM ?_|refine jN ?_|refine jO ?_|refine jP ?_|refine jQ ?_|(refine jB ?_;clear hK K)|(refine jC ?_;clear hK K)|refine jD ?_|refine jE ?_|refine jG ?_|refine jH ?_|refine jI ?_)|((with_reducible refine jR ?hq ?_);case hq=>rfl)|((first|(with_reducible first|refine jS fun K hK=>?_|refine jT ?_|refine jU ?_)|((with_reducible refine jV ?hy fun K hK=>?_);case hy=>rfl));simp only [go_sem, Nat.reduceEqDiff, Nat.reduceAdd, Nat.reduceMul, Nat.reduceLeDiff, Nat.reduceLT, Int.reduceLT, Int.reduceLE, Int.reduceEq, Int.reduceNeg, Int.reduceToNat, Nat.reducePow, reduceIte, reduceCtorEq])|((with_reducible first|refine jW ?hy ?_|refine jY ?hy ?_);case hy=>rfl)|((with_reducible first|refine jX ?hy ?_|refine jZ ?hy ?_);case hy=>rfl)|((with_reducible refine jF ?hy ?_);case hy=>decide))
  exact fin
 | false =>
  repeat' (first|(with_reducible first|refine jA ?_|(refine hK _ _ ?_;clear hK K)|refine jJ fun K hK=>?_|refine jK ?_|refine jL ?_|refine jM ?_|refine jN ?_|refine jO ?_|refine jP ?_|refine jQ ?_|(refine jB ?_;clear hK K)|(refine jC ?_;clear hK K)|refine jD ?_|refine jE ?_|refine jG ?_|refine jH ?_|refine jI ?_)|((with_reducible refine jR ?hq ?_);case hq=>rfl)|((first|(with_reducible first|refine jS fun K hK=>?_|refine jT ?_|refine jU ?_)|((with_reducible refine jV ?hy fun K hK=>?_);case hy=>rfl));simp only [go_sem, Nat.reduceEqDiff, Nat.reduceAdd, Nat.reduceMul, Nat.reduceLeDiff, Nat.reduceLT, Int.reduceLT, Int.reduceLE, Int.reduceEq, Int.reduceNeg, Int.reduceToNat, Nat.reducePow, reduceIte, reduceCtorEq])|((with_reducible first|refine jW ?hy ?_|refine jY ?hy ?_);case hy=>rfl)|((with_reducible first|refine jX ?hy ?_|refine jZ ?hy ?_);case hy=>rfl)|((with_reducible refine jF ?hy ?_);case hy=>decide))
  exact fin
theorem setM_ok {q b5 : Nat} {x : Sp.Item} {z : Bool} {M : Value → Heap → Prop} (hb : Blk H q x.cells) (hw : hcell H ⟨b5, 0, none⟩ = some (.bool z)) (fin : ∀ H2, Blk H2 q (Sp.Item.mk x.value x.counts (if z then 1 else 0)).cells → Fr (· = q) H H2 → M (.tuple #[]) H2) :
  CallsH Try.prog 46 #[.pointer (some ⟨q, 0, none⟩), .pointer (some ⟨b5, 0, none⟩)] H M := by
 have w2 := hb.okW (i := 2) (by simp [Sp.Item.cells])
 refine call46 (by simp) ?_
 simp only [Try.f46, Option.getD_some]
 repeat' (first|(with_reducible first|refine jA ?_|(refine hK _ _ ?_;clear hK K)|refine jJ fun K hK=>?_|refine jK ?_|refine jL ?_|refine jM ?_|refine jN ?_|refine jO ?_|refine jP ?_|refine jQ ?_|(refine jB ?_;clear hK K)|(refine jC ?_;clear hK K)|refine jD ?_|refine jE ?_|refine jG ?_|refine jH ?_|refine jI ?_)|((with_reducible refine jR ?hq ?_);case hq=>rfl)|((first|(with_reducible first|refine jS fun K hK=>?_|refine jT ?_|refine jU ?_)|((with_reducible refine jV ?hy fun K hK=>?_);case hy=>rfl));simp only [go_sem, Nat.reduceEqDiff, Nat.reduceAdd, Nat.reduceMul, Nat.reduceLeDiff, Nat.reduceLT, Int.reduceLT, Int.reduceLE, Int.reduceEq, Int.reduceNeg, Int.reduceToNat, Nat.reducePow, reduceIte, reduceCtorEq, hw])|((with_reducible first|refine jW ?hy ?_|refine jY ?hy ?_);case hy=>rfl)|((with_reducible first|refine jX ?hy ?_|refine jZ ?hy ?_);case hy=>rfl)|((with_reducible refine jF ?hy ?_);case hy=>decide))
 refine flag_ok ?_
 repeat' (first|(with_reducible first|refine jA ?_|(refine hK _ _ ?_;clear hK K)|refine jJ fun K hK=>?_|refine jK ?_|refine jL ?_|refine jM ?_|refine jN ?_|refine jO ?_|refine jP ?_|refine jQ ?_|(refine jB ?_;clear hK K)|(refine jC ?_;clear hK K)|refine jD ?_|refine jE ?_|refine jG ?_|refine jH ?_|refine jI ?_)|((with_reducible refine jR ?hq ?_);case hq=>rfl)|((first|(with_reducible first|refine jS fun K hK=>?_|refine jT ?_|refine jU ?_)|((with_reducible refine jV ?hy fun K hK=>?_);case hy=>rfl));simp only [go_sem, Nat.reduceEqDiff, Nat.reduceAdd, Nat.reduceMul, Nat.reduceLeDiff, Nat.reduceLT, Int.reduceLT, Int.reduceLE, Int.reduceEq, Int.reduceNeg, Int.reduceToNat, Nat.reducePow, reduceIte, reduceCtorEq, w2])|((with_reducible first|refine jW ?hy ?_|refine jY ?hy ?_);case hy=>rfl)|((with_reducible first|refine jX ?hy ?_|refine jZ ?hy ?_);case hy=>rfl)|((with_reducible refine jF ?hy ?_);case hy=>decide))
 exact fin _ (hb.set_same 2 _) (Fr.set (S := (· = q)) (a := ⟨q, 2, none⟩) (Fr.refl _ H) (.inl rfl) _)
theorem setE_ok {q b5 : Nat} {x : Sp.Item} {z : Bool} {M : Value → Heap → Prop} (hb : Blk H q x.cells) (hw : hcell H ⟨b5, 0, none⟩ = some (.bool z)) (fin : ∀ H2, Blk H2 q (Sp.Item.mk x.value x.counts (if z then 2 else 0)).cells → Fr (· = q) H H2 → M (.tuple #[]) H2) :
  CallsH Try.prog 48 #[.pointer (some ⟨q, 0, none⟩), .pointer (some ⟨b5, 0, none⟩)] H M := by
 have w2 := hb.okW (i := 2) (by simp [Sp.Item.cells])
 refine call48 (by simp) ?_
 simp only [Try.f48, Option.getD_some]
 repeat' (first|(with_reducible first|refine jA ?_|(refine hK _ _ ?_;clear hK K)|refine jJ fun K hK=>?_|refine jK ?_|refine jL ?_|refine jM ?_|refine jN ?_|refine jO ?_|refine jP ?_|refine jQ ?_|(refine jB ?_;clear hK K)|(refine jC ?_;clear hK K)|refine jD ?_|refine jE ?_|refine jG ?_|refine jH ?_|refine jI ?_)|((with_reducible refine jR ?hq ?_);case hq=>rfl)|((first|(with_reducible first|refine jS fun K hK=>?_|refine jT ?_|refine jU ?_)|((with_reducible refine jV ?hy fun K hK=>?_);case hy=>rfl));simp only [go_sem, Nat.reduceEqDiff, Nat.reduceAdd, Nat.reduceMul, Nat.reduceLeDiff, Nat.reduceLT, Int.reduceLT, Int.reduceLE, Int.reduceEq, Int.reduceNeg, Int.reduceToNat, Nat.reducePow, reduceIte, reduceCtorEq, hw])|((with_reducible first|refine jW ?hy ?_|refine jY ?hy ?_);case hy=>rfl)|((with_reducible first|refine jX ?hy ?_|refine jZ ?hy ?_);case hy=>rfl)|((with_reducible refine jF ?hy ?_);case hy=>decide))
 refine flag_ok ?_
 repeat' (first|(with_reducible first|refine jA ?_|(refine hK _ _ ?_;clear hK K)|refine jJ fun K hK=>?_|refine jK ?_|refine jL ?_|refine jM ?_|refine jN ?_|refine jO ?_|refine jP ?_|refine jQ ?_|(refine jB ?_;clear hK K)|(refine jC ?_;clear hK K)|refine jD ?_|refine jE ?_|refine jG ?_|refine jH ?_|refine jI ?_)|((with_reducible refine jR ?hq ?_);case hq=>rfl)|((first|(with_reducible first|refine jS fun K hK=>?_|refine jT ?_|refine jU ?_)|((with_reducible refine jV ?hy fun K hK=>?_);case hy=>rfl));simp only [go_sem, Nat.reduceEqDiff, Nat.reduceAdd, Nat.reduceMul, Nat.reduceLeDiff, Nat.reduceLT, Int.reduceLT, Int.reduceLE, Int.reduceEq, Int.reduceNeg, Int.reduceToNat, Nat.reducePow, reduceIte, reduceCtorEq, w2])|((with_reducible first|refine jW ?hy ?_|refine jY ?hy ?_);case hy=>rfl)|((with_reducible first|refine jX ?hy ?_|refine jZ ?hy ?_);case hy=>rfl)|((with_reducible refine jF ?hy ?_);case hy=>decide))
 exact fin _ (hb.set_same 2 _) (Fr.set (S := (· = q)) (a := ⟨q, 2, none⟩) (Fr.refl _ H) (.inl rfl) _)
theorem tq_set {v x : Int} (hM : ToM H t T Q) (hx : -9223372036854775808 ≤ x ∧ x ≤ 9223372036854775807) (fin : ∀ H' T', ToM H' t T' (Q.setQ v x).2 → Fr T H H' → (∀ b, T' b → T b ∨ H.size ≤ b) → L (.int .i64 (Q.setQ v x).1) H') :
  CallsH Try.prog 19 #[.pointer (some ⟨t, 0, none⟩), .int .i64 v, .int .i64 x] H L := by
 obtain ⟨f, Tf, S, B, c, r1, r2, st, pr, h, hR, h3, h4⟩ := hM
 unfold Tq.setQ at fin
 refine call19 (by simp) ?_
 simp only [Try.f19, Option.getD_some]
 repeat' (first|(with_reducible first|refine jA ?_|(refine hK _ _ ?_;clear hK K)|refine jJ fun K hK=>?_|refine jK ?_|refine jL ?_|refine jM ?_|refine jN ?_|refine jO ?_|refine jP ?_|refine jQ ?_|(refine jB ?_;clear hK K)|(refine jC ?_;clear hK K)|refine jD ?_|refine jE ?_|refine jG ?_|refine jH ?_|refine jI ?_)|((with_reducible refine jR ?hq ?_);case hq=>rfl)|((first|(with_reducible first|refine jS fun K hK=>?_|refine jT ?_|refine jU ?_)|((with_reducible refine jV ?hy fun K hK=>?_);case hy=>rfl));simp only [go_sem, Nat.reduceEqDiff, Nat.reduceAdd, Nat.reduceMul, Nat.reduceLeDiff, Nat.reduceLT, Int.reduceLT, Int.reduceLE, Int.reduceEq, Int.reduceNeg, Int.reduceToNat, Nat.reducePow, reduceIte, reduceCtorEq])|((with_reducible first|refine jW ?hy ?_|refine jY ?hy ?_);case hy=>rfl)|((with_reducible first|refine jX ?hy ?_|refine jZ ?hy ?_);case hy=>rfl)|((with_reducible refine jF ?hy ?_);case hy=>decide))
 generalize hH0 : H.push _ = H0
 have hf0 : Fr (fun _ => False) H H0 := by rw [← hH0]; exact (by ((repeat (first | refine Fr.set ?_ (by simp) _ | refine Fr.push ?_ _)); exact Fr.refl _ _))
 have h0 := h.grow hf0
 have b0 : Blk H0 H.size [.int .i64 x] := by rw [← hH0]; exact Blk.new H [.int .i64 x] _
 clear hH0
 refine has1 h0 fun H1 h1 hf1 => ?_
 have b1 := b0.frame hf1 fun h => h
 have hf01 := hf0.trans hf1
 cases hb : inB Q.n v with
 | false =>
  rw [hb] at fin
  repeat' (first|(with_reducible first|refine jA ?_|(refine hK _ _ ?_;clear hK K)|refine jJ fun K hK=>?_|refine jK ?_|refine jL ?_|refine jM ?_|refine jN ?_|refine jO ?_|refine jP ?_|refine jQ ?_|(refine jB ?_;clear hK K)|(refine jC ?_;clear hK K)|refine jD ?_|refine jE ?_|refine jG ?_|refine jH ?_|refine jI ?_)|((with_reducible refine jR ?hq ?_);case hq=>rfl)|((first|(with_reducible first|refine jS fun K hK=>?_|refine jT ?_|refine jU ?_)|((with_reducible refine jV ?hy fun K hK=>?_);case hy=>rfl));simp only [go_sem, Nat.reduceEqDiff, Nat.reduceAdd, Nat.reduceMul, Nat.reduceLeDiff, Nat.reduceLT, Int.reduceLT, Int.reduceLE, Int.reduceEq, Int.reduceNeg, Int.reduceToNat, Nat.reducePow, reduceIte, reduceCtorEq])|((with_reducible first|refine jW ?hy ?_|refine jY ?hy ?_);case hy=>rfl)|((with_reducible first|refine jX ?hy ?_|refine jZ ?hy ?_);case hy=>rfl)|((with_reducible refine jF ?hy ?_);case hy=>decide))
  exact ToM.after h3 h4 h1 hR (hf01.mono fun _ _ h => h.elim) (fun b hb => .inl hb) fun T'' a b c => fin _ T'' a b c
 | true =>
  rw [hb] at fin
  obtain ⟨a, rfl, ha⟩ := inB_nat hb
  simp only [if_true, Int.toNat_natCast] at fin
  have d1 := h1.hd.cellOf (i := 1) rfl
  have da := h1.stop ha
  repeat' (first|(with_reducible first|refine jA ?_|(refine hK _ _ ?_;clear hK K)|refine jJ fun K hK=>?_|refine jK ?_|refine jL ?_|refine jM ?_|refine jN ?_|refine jO ?_|refine jP ?_|refine jQ ?_|(refine jB ?_;clear hK K)|(refine jC ?_;clear hK K)|refine jD ?_|refine jE ?_|refine jG ?_|refine jH ?_|refine jI ?_)|((with_reducible refine jR ?hq ?_);case hq=>rfl)|((first|(with_reducible first|refine jS fun K hK=>?_|refine jT ?_|refine jU ?_)|((with_reducible refine jV ?hy fun K hK=>?_);case hy=>rfl));simp only [go_sem, Nat.reduceEqDiff, Nat.reduceAdd, Nat.reduceMul, Nat.reduceLeDiff, Nat.reduceLT, Int.reduceLT, Int.reduceLE, Int.reduceEq, Int.reduceNeg, Int.reduceToNat, Nat.reducePow, reduceIte, reduceCtorEq, d1, da, ha])|((with_reducible first|refine jW ?hy ?_|refine jY ?hy ?_);case hy=>rfl)|((with_reducible first|refine jX ?hy ?_|refine jZ ?hy ?_);case hy=>rfl)|((with_reducible refine jF ?hy ?_);case hy=>decide))
  refine lay_ok (y := stopIt x (Q.on a)) h1 (hR.stop_flat ha) (b1.cellOf (i := 0) rfl) (fun hb => by have := h.fo.lt hb; omega) ⟨hx, by simp only [stopIt]; split <;> omega, by simp only [stopIt]; split <;> omega⟩ (fun H1 q M hb hw _ hfin => ?_) fun H2 h2 hf2 => ?_
  ·rw [hR.itv a ha] at hb
   exact setV_ok hb hw hfin
  ·have hmay : mayB (stopIt x (Q.on a)) = decide (-1099511627776 ≤ x ∧ x ≤ 1099511627776) := by
    unfold mayB stopIt
    rw [decide_eq_decide]
    simp only
    constructor
    ·rintro ⟨g1, g2, _⟩; exact ⟨g1, g2⟩
    ·rintro ⟨g1, g2⟩
     refine ⟨g1, g2, ?_⟩
     split <;> omega
   rw [hmay] at h2 ⊢
   have hff : Fr (ToFt t Tf B r1 r2) H H2 := (hf01.mono fun _ _ h => h.elim).trans (hf2.mono fun b _ hb => .fo hb)
   by_cases hr : -1099511627776 ≤ x ∧ x ≤ 1099511627776
   ·rw [decide_eq_true hr] at h2 ⊢
    rw [if_pos hr] at fin
    repeat' (first|(with_reducible first|refine jA ?_|(refine hK _ _ ?_;clear hK K)|refine jJ fun K hK=>?_|refine jK ?_|refine jL ?_|refine jM ?_|refine jN ?_|refine jO ?_|refine jP ?_|refine jQ ?_|(refine jB ?_;clear hK K)|(refine jC ?_;clear hK K)|refine jD ?_|refine jE ?_|refine jG ?_|refine jH ?_|refine jI ?_)|((with_reducible refine jR ?hq ?_);case hq=>rfl)|((first|(with_reducible first|refine jS fun K hK=>?_|refine jT ?_|refine jU ?_)|((with_reducible refine jV ?hy fun K hK=>?_);case hy=>rfl));simp only [go_sem, Nat.reduceEqDiff, Nat.reduceAdd, Nat.reduceMul, Nat.reduceLeDiff, Nat.reduceLT, Int.reduceLT, Int.reduceLE, Int.reduceEq, Int.reduceNeg, Int.reduceToNat, Nat.reducePow, reduceIte, reduceCtorEq])|((with_reducible first|refine jW ?hy ?_|refine jY ?hy ?_);case hy=>rfl)|((with_reducible first|refine jX ?hy ?_|refine jZ ?hy ?_);case hy=>rfl)|((with_reducible refine jF ?hy ?_);case hy=>decide))
    have hRel := hR.lay ha hr (b := Q.on a)
    have eon : (fun w => if w = a then Q.on a else Q.on w) = Q.on := funext fun w => by by_cases e : w = a <;> simp [e]
    rw [eon] at hRel
    exact ToM.after h3 h4 (Q' := { Q with val := fun w => if w = a then x else Q.val w }) h2 hRel hff (fun b hb => .inl hb) fun T'' a b c => fin _ T'' a b c
   ·rw [decide_eq_false hr] at h2 ⊢
    rw [if_neg hr] at fin
    repeat' (first|(with_reducible first|refine jA ?_|(refine hK _ _ ?_;clear hK K)|refine jJ fun K hK=>?_|refine jK ?_|refine jL ?_|refine jM ?_|refine jN ?_|refine jO ?_|refine jP ?_|refine jQ ?_|(refine jB ?_;clear hK K)|(refine jC ?_;clear hK K)|refine jD ?_|refine jE ?_|refine jG ?_|refine jH ?_|refine jI ?_)|((with_reducible refine jR ?hq ?_);case hq=>rfl)|((first|(with_reducible first|refine jS fun K hK=>?_|refine jT ?_|refine jU ?_)|((with_reducible refine jV ?hy fun K hK=>?_);case hy=>rfl));simp only [go_sem, Nat.reduceEqDiff, Nat.reduceAdd, Nat.reduceMul, Nat.reduceLeDiff, Nat.reduceLT, Int.reduceLT, Int.reduceLE, Int.reduceEq, Int.reduceNeg, Int.reduceToNat, Nat.reducePow, reduceIte, reduceCtorEq])|((with_reducible first|refine jW ?hy ?_|refine jY ?hy ?_);case hy=>rfl)|((with_reducible first|refine jX ?hy ?_|refine jZ ?hy ?_);case hy=>rfl)|((with_reducible refine jF ?hy ?_);case hy=>decide))
    exact ToM.after h3 h4 h2 hR hff (fun b hb => .inl hb) fun T'' a b c => fin _ T'' a b c
theorem tq_mark {v : Int} {z : Bool} (hM : ToM H t T Q) (fin : ∀ H' T', ToM H' t T' (Q.markQ v z).2 → Fr T H H' → (∀ b, T' b → T b ∨ H.size ≤ b) → L (.int .i64 (Q.markQ v z).1) H') :
  CallsH Try.prog 20 #[.pointer (some ⟨t, 0, none⟩), .int .i64 v, .bool z] H L := by
 obtain ⟨f, Tf, S, B, c, r1, r2, st, pr, h, hR, h3, h4⟩ := hM
 unfold Tq.markQ at fin
 refine call20 (by simp) ?_
 simp only [Try.f20, Option.getD_some]
 repeat' (first|(with_reducible first|refine jA ?_|(refine hK _ _ ?_;clear hK K)|refine jJ fun K hK=>?_|refine jK ?_|refine jL ?_|refine jM ?_|refine jN ?_|refine jO ?_|refine jP ?_|refine jQ ?_|(refine jB ?_;clear hK K)|(refine jC ?_;clear hK K)|refine jD ?_|refine jE ?_|refine jG ?_|refine jH ?_|refine jI ?_)|((with_reducible refine jR ?hq ?_);case hq=>rfl)|((first|(with_reducible first|refine jS fun K hK=>?_|refine jT ?_|refine jU ?_)|((with_reducible refine jV ?hy fun K hK=>?_);case hy=>rfl));simp only [go_sem, Nat.reduceEqDiff, Nat.reduceAdd, Nat.reduceMul, Nat.reduceLeDiff, Nat.reduceLT, Int.reduceLT, Int.reduceLE, Int.reduceEq, Int.reduceNeg, Int.reduceToNat, Nat.reducePow, reduceIte, reduceCtorEq])|((with_reducible first|refine jW ?hy ?_|refine jY ?hy ?_);case hy=>rfl)|((with_reducible first|refine jX ?hy ?_|refine jZ ?hy ?_);case hy=>rfl)|((with_reducible refine jF ?hy ?_);case hy=>decide))
 generalize hH0 : H.push _ = H0
 have hf0 : Fr (fun _ => False) H H0 := by rw [← hH0]; exact (by ((repeat (first | refine Fr.set ?_ (by simp) _ | refine Fr.push ?_ _)); exact Fr.refl _ _))
 have h0 := h.grow hf0
 have b0 : Blk H0 H.size [.bool z] := by rw [← hH0]; exact Blk.new H [.bool z] _
 clear hH0
 refine has1 h0 fun H1 h1 hf1 => ?_
 have b1 := b0.frame hf1 fun h => h
 have hf01 := hf0.trans hf1
 cases hb : inB Q.n v with
 | false =>
  rw [hb] at fin
  repeat' (first|(with_reducible first|refine jA ?_|(refine hK _ _ ?_;clear hK K)|refine jJ fun K hK=>?_|refine jK ?_|refine jL ?_|refine jM ?_|refine jN ?_|refine jO ?_|refine jP ?_|refine jQ ?_|(refine jB ?_;clear hK K)|(refine jC ?_;clear hK K)|refine jD ?_|refine jE ?_|refine jG ?_|refine jH ?_|refine jI ?_)|((with_reducible refine jR ?hq ?_);case hq=>rfl)|((first|(with_reducible first|refine jS fun K hK=>?_|refine jT ?_|refine jU ?_)|((with_reducible refine jV ?hy fun K hK=>?_);case hy=>rfl));simp only [go_sem, Nat.reduceEqDiff, Nat.reduceAdd, Nat.reduceMul, Nat.reduceLeDiff, Nat.reduceLT, Int.reduceLT, Int.reduceLE, Int.reduceEq, Int.reduceNeg, Int.reduceToNat, Nat.reducePow, reduceIte, reduceCtorEq])|((with_reducible first|refine jW ?hy ?_|refine jY ?hy ?_);case hy=>rfl)|((with_reducible first|refine jX ?hy ?_|refine jZ ?hy ?_);case hy=>rfl)|((with_reducible refine jF ?hy ?_);case hy=>decide))
  exact ToM.after h3 h4 h1 hR (hf01.mono fun _ _ h => h.elim) (fun b hb => .inl hb) fun T'' a b c => fin _ T'' a b c
 | true =>
  rw [hb] at fin
  obtain ⟨a, rfl, ha⟩ := inB_nat hb
  simp only [if_true, Int.toNat_natCast] at fin
  have d1 := h1.hd.cellOf (i := 1) rfl
  have da := h1.stop ha
  have hval := hR.ok.val a ha
  repeat' (first|(with_reducible first|refine jA ?_|(refine hK _ _ ?_;clear hK K)|refine jJ fun K hK=>?_|refine jK ?_|refine jL ?_|refine jM ?_|refine jN ?_|refine jO ?_|refine jP ?_|refine jQ ?_|(refine jB ?_;clear hK K)|(refine jC ?_;clear hK K)|refine jD ?_|refine jE ?_|refine jG ?_|refine jH ?_|refine jI ?_)|((with_reducible refine jR ?hq ?_);case hq=>rfl)|((first|(with_reducible first|refine jS fun K hK=>?_|refine jT ?_|refine jU ?_)|((with_reducible refine jV ?hy fun K hK=>?_);case hy=>rfl));simp only [go_sem, Nat.reduceEqDiff, Nat.reduceAdd, Nat.reduceMul, Nat.reduceLeDiff, Nat.reduceLT, Int.reduceLT, Int.reduceLE, Int.reduceEq, Int.reduceNeg, Int.reduceToNat, Nat.reducePow, reduceIte, reduceCtorEq, d1, da, ha])|((with_reducible first|refine jW ?hy ?_|refine jY ?hy ?_);case hy=>rfl)|((with_reducible first|refine jX ?hy ?_|refine jZ ?hy ?_);case hy=>rfl)|((with_reducible refine jF ?hy ?_);case hy=>decide))
  refine lay_ok (y := stopIt (Q.val a) z) h1 (hR.stop_flat ha) (b1.cellOf (i := 0) rfl) (fun hb => by have := h.fo.lt hb; omega) ⟨by simp only [stopIt]; omega, by simp only [stopIt]; split <;> omega, by simp only [stopIt]; split <;> omega⟩ (fun H1 q M hb hw _ hfin => ?_) fun H2 h2 hf2 => ?_
  ·rw [hR.itv a ha] at hb
   exact setM_ok hb hw hfin
  ·have hmay : mayB (stopIt (Q.val a) z) = true := by
    rw [mayB_iff]
    exact ⟨hval.1, hval.2, by simp only [stopIt]; split <;> omega, by simp only [stopIt]; split <;> omega⟩
   rw [hmay] at h2 ⊢
   have hff : Fr (ToFt t Tf B r1 r2) H H2 := (hf01.mono fun _ _ h => h.elim).trans (hf2.mono fun b _ hb => .fo hb)
   repeat' (first|(with_reducible first|refine jA ?_|(refine hK _ _ ?_;clear hK K)|refine jJ fun K hK=>?_|refine jK ?_|refine jL ?_|refine jM ?_|refine jN ?_|refine jO ?_|refine jP ?_|refine jQ ?_|(refine jB ?_;clear hK K)|(refine jC ?_;clear hK K)|refine jD ?_|refine jE ?_|refine jG ?_|refine jH ?_|refine jI ?_)|((with_reducible refine jR ?hq ?_);case hq=>rfl)|((first|(with_reducible first|refine jS fun K hK=>?_|refine jT ?_|refine jU ?_)|((with_reducible refine jV ?hy fun K hK=>?_);case hy=>rfl));simp only [go_sem, Nat.reduceEqDiff, Nat.reduceAdd, Nat.reduceMul, Nat.reduceLeDiff, Nat.reduceLT, Int.reduceLT, Int.reduceLE, Int.reduceEq, Int.reduceNeg, Int.reduceToNat, Nat.reducePow, reduceIte, reduceCtorEq])|((with_reducible first|refine jW ?hy ?_|refine jY ?hy ?_);case hy=>rfl)|((with_reducible first|refine jX ?hy ?_|refine jZ ?hy ?_);case hy=>rfl)|((with_reducible refine jF ?hy ?_);case hy=>decide))
   have hRel := hR.lay ha hval (b := z)
   have ev : (fun w => if w = a then Q.val a else Q.val w) = Q.val := funext fun w => by by_cases e : w = a <;> simp [e]
   rw [ev] at hRel
   exact ToM.after h3 h4 (Q' := { Q with on := fun w => if w = a then z else Q.on w }) h2 hRel hff (fun b hb => .inl hb) fun T'' a b c => fin _ T'' a b c
end
end Go.Proofs.Ytnlafhnbakipmaa
