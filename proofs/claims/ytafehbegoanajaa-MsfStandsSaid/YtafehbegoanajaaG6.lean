/-
  A forest: the edges between both sides, one by one.
  A forest: an edge goes.
  Slices of edges that came in.
  The helpers of a law's package: pick, same.
  The law's first example.
  A forest of raw edges.
  A pick out of raw numbers; the insertion of an edge that was taken away.
  A part of a slice appended.
-/
import Derived.Test.YtafehbegoanajaaG5
import Derived.Test.YtafehbegoanajaaG0
import Derived.Test.YtafehbegoanajaaHpV
import Derived.Test.YtafehbegoanajaaTabM
namespace Go.Ms
open Go Go.Hp Go.Li Go.Br
def CrossF (F : List Ed) (x y : Ed) : Prop := ¬ (Cn (In F) y.u.toNat x.u.toNat ↔ Cn (In F) y.v.toNat x.u.toNat)
end Go.Ms
namespace Go.Proofs.Ytafehbegoanajaa
open Go Go.Hp Go.Li Go.Br Go.Ms
set_option linter.all false
set_option maxRecDepth 100000
set_option maxHeartbeats 3200000
section
variable {H0 H : Heap} {L : Value → Heap → Prop} {f r1 t n bF bX l2 : Nat} {Tt SJ : Nat → Prop} {F : List Ed} {M : List (Int × Ed)} {x : Ed}
theorem cross_ok {f : Nat} (fin : ∀ H', Fr (fun _ => False) H H' → Blk H' H.size [.pointer (some ⟨f, 0, none⟩)] → Blk H' (H.size + 1) x.cells → L (.func (.func 52) #[] #[.pointer (some ⟨H.size, 0, none⟩), .pointer (some ⟨H.size + 1, 0, none⟩)]) H') :
  CallsH Try.prog 36 #[.pointer (some ⟨f, 0, none⟩), x.val] H L := by
 simp only [Ed.val]
 have b1 := Blk.new H [.pointer (some ⟨f, 0, none⟩)] 25
 have f1 : Fr (fun _ => False) H (H.push (.cells ([.pointer (some ⟨f, 0, none⟩)] : List Value).toArray 25)) := (Fr.refl _ _).push _
 have s1 : (H.push (.cells ([.pointer (some ⟨f, 0, none⟩)] : List Value).toArray 25)).size = H.size + 1 := by simp
 have b2 := Blk.new (H.push (.cells ([.pointer (some ⟨f, 0, none⟩)] : List Value).toArray 25)) x.cells 30
 have f2 : Fr (fun _ => False) (H.push (.cells ([.pointer (some ⟨f, 0, none⟩)] : List Value).toArray 25)) ((H.push (.cells ([.pointer (some ⟨f, 0, none⟩)] : List Value).toArray 25)).push (.cells x.cells.toArray 30)) := (Fr.refl _ _).push _
 rw [s1] at b2
 refine call36 (by simp) ?_
 simp only [Try.f36, Option.getD_some]
 repeat' (first|(with_reducible first|refine jA ?_|(refine hK _ _ ?_;clear hK K)|refine jJ fun K hK=>?_|refine jK ?_|refine jL ?_|refine jM ?_|refine jN ?_|refine jO ?_|refine jP ?_|refine jQ ?_|(refine jB ?_;clear hK K)|(refine jC ?_;clear hK K)|refine jD ?_|refine jE ?_|refine jG ?_|refine jH ?_|refine jI ?_)|((with_reducible refine jR ?hq ?_);case hq=>rfl)|((first|(with_reducible first|refine jS fun K hK=>?_|refine jT ?_|refine jU ?_)|((with_reducible refine jV ?hy fun K hK=>?_);case hy=>rfl));simp only [go_sem, Nat.reduceEqDiff, Nat.reduceAdd, Nat.reduceMul, Nat.reduceLeDiff, Nat.reduceLT, Int.reduceLT, Int.reduceLE, Int.reduceEq, Int.reduceNeg, Int.reduceToNat, Nat.reducePow, reduceIte, reduceCtorEq, Array.size_push])|((with_reducible first|refine jW ?hy ?_|refine jY ?hy ?_);case hy=>rfl)|((with_reducible first|refine jX ?hy ?_|refine jZ ?hy ?_);case hy=>rfl)|((with_reducible refine jF ?hy ?_);case hy=>decide))
 exact fin _ (f1.trans f2) (b1.frame f2 fun h => h) b2
theorem crossing1_ok {u0 : Nat} (hl : MapL Ed.val H0 r1 M) (hends : ∀ (i : Nat) (x : Int × Ed), M[i]? = some x → ∃ u v : Nat, x.2.u = (u : Int) ∧ x.2.v = (v : Int) ∧ u < n ∧ v < n) (hT : TrM H0 t Tt n F) (hxu : x.u = (u0 : Int)) (hu0 : u0 < n)
  (cf : hcell H0 ⟨bF, 0, none⟩ = some (.pointer (some ⟨f, 0, none⟩))) (c1 : hcell H0 ⟨f, 1, none⟩ = some (.map (some r1))) (c3 : hcell H0 ⟨f, 3, none⟩ = some (.pointer (some ⟨t, 0, none⟩))) (cx : hcell H0 ⟨bX, 1, none⟩ = some (.int .i64 (u0 : Nat)))
  (nT : ¬ Tt f ∧ ¬ Tt r1 ∧ ¬ Tt bF ∧ ¬ Tt bX) (J : List Nat → Heap → Prop) (hSJ : ∀ c, SJ c → c < H0.size ∧ ¬ Tt c ∧ c ≠ f ∧ c ≠ r1 ∧ c ≠ bF ∧ c ≠ bX) (hJ0 : J [] H0)
  (hJ : ∀ D H' H'', J D H' → H0.size ≤ H'.size → Fr (fun c => Tt c ∨ H0.size ≤ c) H' H'' → J D H'')
  (hskip : ∀ D i (x' : Int × Ed) H', M[i]? = some x' → ¬ CrossF F x x'.2 → J D H' → J (i :: D) H')
  (hstep : ∀ D i (x' : Int × Ed) H' (K' : Value → Heap → Prop), M[i]? = some x' → CrossF F x x'.2 → J D H' → H0.size ≤ H'.size → (∀ H'', J (i :: D) H'' → Fr SJ H' H'' → K' (.bool true) H'') → semHp Try.prog (Instr.yield l2 #[x'.2.val]) H' (nextHp Try.prog K'))
  (fin : ∀ H' D, J D H' → TrM H' t Tt n F → (∀ i, i < M.length → i ∈ D) → (∀ i ∈ D, i < M.length) → Fr (fun c => SJ c ∨ Tt c) H0 H' → L (.tuple #[]) H') :
  CallsH Try.prog 52 #[.func (.yield l2) #[] #[], .pointer (some ⟨bF, 0, none⟩), .pointer (some ⟨bX, 0, none⟩)] H0 L := by
 have lF := hcell_lt cf
 have lf := hcell_lt c1
 have lx := hcell_lt cx
 simp only at lF lf lx
 have lr := hl.lt
 have hbl := hT.below
 refine callsH_top 48 [] (f := 52) (fn := Try.f52) (by kernel_rfl) (by kernel_rfl) (c := Try.f52.body.getD .skip) (by kernel_rfl) (by kernel_rfl) (by kernel_rfl) (by simp) ?_
 simp only [Try.f52, Option.getD_some]
 refine top_seq (top_of mixed [] (by kernel_rfl) ?_)
 repeat' (first|(with_reducible first|refine jA ?_|(refine hK _ _ ?_;clear hK K)|refine jJ fun K hK=>?_|refine jK ?_|refine jL ?_|refine jM ?_|refine jN ?_|refine jO ?_|refine jP ?_|refine jQ ?_|(refine jB ?_;clear hK K)|(refine jC ?_;clear hK K)|refine jD ?_|refine jE ?_|refine jG ?_|refine jH ?_|refine jI ?_)|((with_reducible refine jR ?hq ?_);case hq=>rfl)|((first|(with_reducible first|refine jS fun K hK=>?_|refine jT ?_|refine jU ?_)|((with_reducible refine jV ?hy fun K hK=>?_);case hy=>rfl));simp only [go_sem, Nat.reduceEqDiff, Nat.reduceAdd, Nat.reduceMul, Nat.reduceLeDiff, Nat.reduceLT, Int.reduceLT, Int.reduceLE, Int.reduceEq, Int.reduceNeg, Int.reduceToNat, Nat.reducePow, reduceIte, reduceCtorEq])|((with_reducible first|refine jW ?hy ?_|refine jY ?hy ?_);case hy=>rfl)|((with_reducible first|refine jX ?hy ?_|refine jZ ?hy ?_);case hy=>rfl)|((with_reducible refine jF ?hy ?_);case hy=>decide))
 intro hx_; clear hx_
 have hbY : Blk (H0.push (.cells #[.func (.yield l2) #[] #[]] 96)) H0.size [.func (.yield l2) #[] #[]] := Blk.new H0 _ _
 have f1 : Fr (fun _ => False) H0 (H0.push (.cells #[.func (.yield l2) #[] #[]] 96)) := (Fr.refl _ _).push _
 have s1 : (H0.push (.cells #[.func (.yield l2) #[] #[]] 96)).size = H0.size + 1 := by simp
 generalize H0.push (.cells #[.func (.yield l2) #[] #[]] 96) = H1 at hbY f1 s1 ⊢
 have mv1 : ∀ {a : Addr} {v : Value}, hcell H0 a = some v → hcell H1 a = some v := fun h => by rw [f1.cell (hcell_lt h) (fun h => h)]; exact h
 have cf1 := mv1 cf
 have c11 := mv1 c1
 refine top_seq (top_of mixed [] (by kernel_rfl) ?_)
 repeat' (first|(with_reducible first|refine jA ?_|(refine hK _ _ ?_;clear hK K)|refine jJ fun K hK=>?_|refine jK ?_|refine jL ?_|refine jM ?_|refine jN ?_|refine jO ?_|refine jP ?_|refine jQ ?_|(refine jB ?_;clear hK K)|(refine jC ?_;clear hK K)|refine jD ?_|refine jE ?_|refine jG ?_|refine jH ?_|refine jI ?_)|((with_reducible refine jR ?hq ?_);case hq=>rfl)|((first|(with_reducible first|refine jS fun K hK=>?_|refine jT ?_|refine jU ?_)|((with_reducible refine jV ?hy fun K hK=>?_);case hy=>rfl));simp only [go_sem, Nat.reduceEqDiff, Nat.reduceAdd, Nat.reduceMul, Nat.reduceLeDiff, Nat.reduceLT, Int.reduceLT, Int.reduceLE, Int.reduceEq, Int.reduceNeg, Int.reduceToNat, Nat.reducePow, reduceIte, reduceCtorEq, cf1, c11])|((with_reducible first|refine jW ?hy ?_|refine jY ?hy ?_);case hy=>rfl)|((with_reducible first|refine jX ?hy ?_|refine jZ ?hy ?_);case hy=>rfl)|((with_reducible refine jF ?hy ?_);case hy=>decide))
 refine values_ok fun H2 f2 hbx s2 => ?_
 repeat' (first|(with_reducible first|refine jA ?_|(refine hK _ _ ?_;clear hK K)|refine jJ fun K hK=>?_|refine jK ?_|refine jL ?_|refine jM ?_|refine jN ?_|refine jO ?_|refine jP ?_|refine jQ ?_|(refine jB ?_;clear hK K)|(refine jC ?_;clear hK K)|refine jD ?_|refine jE ?_|refine jG ?_|refine jH ?_|refine jI ?_)|((with_reducible refine jR ?hq ?_);case hq=>rfl)|((first|(with_reducible first|refine jS fun K hK=>?_|refine jT ?_|refine jU ?_)|((with_reducible refine jV ?hy fun K hK=>?_);case hy=>rfl));simp only [go_sem, Nat.reduceEqDiff, Nat.reduceAdd, Nat.reduceMul, Nat.reduceLeDiff, Nat.reduceLT, Int.reduceLT, Int.reduceLE, Int.reduceEq, Int.reduceNeg, Int.reduceToNat, Nat.reducePow, reduceIte, reduceCtorEq])|((with_reducible first|refine jW ?hy ?_|refine jY ?hy ?_);case hy=>rfl)|((with_reducible first|refine jX ?hy ?_|refine jZ ?hy ?_);case hy=>rfl)|((with_reducible refine jF ?hy ?_);case hy=>decide))
 intro hx_; clear hx_
 refine top_block (top_rangeN rfl fun r0 H4 hR hD hl0 hf4 s4 => ?_)
 have f04 := (f1.trans f2).trans hf4
 have mv4 : ∀ {a : Addr} {v : Value}, hcell H0 a = some v → hcell H4 a = some v := fun h => by rw [f04.cell (hcell_lt h) (fun h => h)]; exact h
 have hb4 : hcell H4 ⟨H1.size, 0, none⟩ = some (.map (some r1)) := by rw [hf4.cell (hcell_lt hbx) (fun h => h)]; exact hbx
 have hy4 : hcell H4 ⟨H0.size, 0, none⟩ = some (.func (.yield l2) #[] #[]) := ((hbY.frame f2 fun h => h).frame hf4 fun h => h).cellOf (i := 0) rfl
 obtain ⟨k, hk⟩ : ∃ k, k = H2.size + 1 := ⟨_, rfl⟩
 rw [← hk] at hl0 ⊢
 have hJ4 := hJ _ _ _ hJ0 (Nat.le_refl _) (f04.mono (S' := fun c => Tt c ∨ H0.size ≤ c) fun _ _ h => h.elim)
 have hT4 := hT.frame f04 fun _ _ h => h
 refine values1_ok (H0 := H4) (l0 := k) hb4 (hl.frame f04 fun h => h) (fun D H' => J D H' ∧ TrM H' t Tt n F ∧ H'[k]? = some (.loop r0) ∧ H'[H2.size]? = some (.deferred (some [])) ∧ Fr (fun c => SJ c ∨ Tt c ∨ c = k) H4 H') (S := fun c => SJ c ∨ Tt c ∨ c = k) ?_ ?_ ?_ ?_ ?_
 ·rintro c (h | h | h)
  ·have := hSJ c h
   exact ⟨by omega, by omega, this.2.2.2.1⟩
  ·have := hbl c h
   exact ⟨by omega, by omega, fun e => nT.2.1 (e ▸ h)⟩
  ·exact ⟨by omega, by omega, by omega⟩
 ·exact ⟨hJ4, hT4, hl0, hD, Fr.refl _ _⟩
 ·rintro D H' H'' q ⟨h1, h2, h3, h4, h5⟩ hq hf
  have s5 := h5.size
  refine ⟨hJ _ _ _ h1 (by omega) (hf.mono fun c _ (e : c = q) => .inr (by omega)), h2.frame hf fun c hc (e : c = q) => by have := hbl c hc; omega, by rw [hf.same _ (by omega) (by omega)]; exact h3, by rw [hf.same _ (by omega) (by omega)]; exact h4, h5.trans' hf fun c hc (e : c = q) => by omega⟩
 ·rintro D i x' H' K' hx hiD ⟨h1, h2, h3, h4, h5⟩ hs hkk
  have s5 := h5.size
  refine hp_roundB mixed [3, 4] hR h3 rfl (by simp) (by kernel_rfl) (by kernel_rfl) (fun e H5 => e 4 = .pointer (some ⟨H'.size, 0, none⟩) ∧ e 1 = .pointer (some ⟨bF, 0, none⟩) ∧ e 2 = .pointer (some ⟨bX, 0, none⟩) ∧ e 3 = .pointer (some ⟨H0.size, 0, none⟩) ∧ Blk H5 H'.size x'.2.cells ∧ Fr (fun _ => False) H' H5) ?_ ?_
  ·rw [show (#[14].zip #[x'.2.val]).toList = [(14, x'.2.val)] from by simp [Array.toList_zip]]
   simp only [List.foldl_cons, List.foldl_nil, Ed.val]
   repeat' (first|(with_reducible first|refine jA ?_|(refine hK _ _ ?_;clear hK K)|refine jJ fun K hK=>?_|refine jK ?_|refine jL ?_|refine jM ?_|refine jN ?_|refine jO ?_|refine jP ?_|refine jQ ?_|(refine jB ?_;clear hK K)|(refine jC ?_;clear hK K)|refine jD ?_|refine jE ?_|refine jG ?_|refine jH ?_|refine jI ?_)|((with_reducible refine jR ?hq ?_);case hq=>rfl)|((first|(with_reducible first|refine jS fun K hK=>?_|refine jT ?_|refine jU ?_)|((with_reducible refine jV ?hy fun K hK=>?_);case hy=>rfl));simp only [go_sem, Nat.reduceEqDiff, Nat.reduceAdd, Nat.reduceMul, Nat.reduceLeDiff, Nat.reduceLT, Int.reduceLT, Int.reduceLE, Int.reduceEq, Int.reduceNeg, Int.reduceToNat, Nat.reducePow, reduceIte, reduceCtorEq, hcell_push, hcell_top, okW_push, okW_top, hcell_hset_ne, hcell_hset_off, hcell_hset_eq, okW_hset, hset_size, Array.size_push, Nat.lt_add_one, ne_add_one, add_one_ne, Nat.add_assoc, add_same, add_lt_same, Nat.reduceEqDiff, lt_add_k, add_k_ne, ne_add_k])|((with_reducible first|refine jW ?hy ?_|refine jY ?hy ?_);case hy=>rfl)|((with_reducible first|refine jX ?hy ?_|refine jZ ?hy ?_);case hy=>rfl)|((with_reducible refine jF ?hy ?_);case hy=>decide))
   obtain ⟨b4, f4⟩ := edge_box (H := H') x'.2 (T0 := 30)
   exact ⟨rfl, by rw [f4.same _ (by omega) (fun h => h)]; exact h3, rfl, rfl, rfl, rfl, b4, f4⟩
  ·rintro e1 H5 ⟨j4, j1, j2, j3, bx, f5⟩
   have s6 := f5.size
   have hfb : Fr (· = k) H5 (H5.setIfInBounds k (.loop (busy r0))) := setIB_fr _ _ _
   have hlb : (H5.setIfInBounds k (.loop (busy r0)))[k]? = some (.loop (busy r0)) := by rw [Array.getElem?_setIfInBounds_self_of_lt (by omega)]
   have f5b : Fr (· = k) H' (H5.setIfInBounds k (.loop (busy r0))) := (f5.mono fun _ _ h => h.elim).trans hfb
   have bxb := bx.frame hfb (by omega)
   have h4b : (H5.setIfInBounds k (.loop (busy r0)))[H2.size]? = some (.deferred (some [])) := by rw [f5b.same _ (by omega) (by omega)]; exact h4
   generalize H5.setIfInBounds k (.loop (busy r0)) = Hb at hfb hlb f5b bxb h4b ⊢
   have sb := f5b.size
   have hTb := h2.frame f5b fun c hc (e : c = k) => by have := hbl c hc; omega
   have hJb := hJ _ _ _ h1 (by omega) (f5b.mono fun c _ (e : c = k) => .inr (by omega))
   have f4b : Fr (fun c => SJ c ∨ Tt c ∨ c = k) H4 Hb := h5.trans (f5b.mono fun c _ e => .inr (.inr e))
   have keep : ∀ {Hx : Heap} {a : Addr} {v : Value}, Fr (fun c => SJ c ∨ Tt c ∨ c = k) H4 Hx → hcell H0 a = some v → ¬ SJ a.block → ¬ Tt a.block → hcell Hx a = some v := fun hf h h1 h2 => by
    have := hcell_lt h
    rw [hf.cell (by omega) (fun h => h.elim h1 fun h => h.elim h2 fun h => by omega)]; exact mv4 h
   have nS : ∀ c, (c = f ∨ c = r1 ∨ c = bF ∨ c = bX) → ¬ SJ c := fun c hc h => by have := hSJ c h; omega
   have keepY : ∀ {Hx : Heap}, Fr (fun c => SJ c ∨ Tt c ∨ c = k) H4 Hx → hcell Hx ⟨H0.size, 0, none⟩ = some (.func (.yield l2) #[] #[]) := fun hf => by
    rw [hf.cell (by simp only; omega) (fun h => h.elim (fun h => by have := (hSJ _ h).1; simp only at this; omega) fun h => h.elim (fun h => by have := hbl _ h; simp only at this; omega) fun h => by simp only at h; omega)]; exact hy4
   obtain ⟨a, b, ea, eb, ha, hb⟩ := hends i x' hx
   have q1 := keep f4b cf (nS _ (.inr (.inr (.inl rfl)))) nT.2.2.1
   have q2 := keep f4b c3 (nS _ (.inl rfl)) nT.1
   have q3 := keep f4b cx (nS _ (.inr (.inr (.inr rfl)))) nT.2.2.2
   have x1 := bxb.cellOf (i := 1) rfl
   rw [ea] at x1
   repeat' (first|(with_reducible first|refine jA ?_|(refine hK _ _ ?_;clear hK K)|refine jJ fun K hK=>?_|refine jK ?_|refine jL ?_|refine jM ?_|refine jN ?_|refine jO ?_|refine jP ?_|refine jQ ?_|(refine jB ?_;clear hK K)|(refine jC ?_;clear hK K)|refine jD ?_|refine jE ?_|refine jG ?_|refine jH ?_|refine jI ?_)|((with_reducible refine jR ?hq ?_);case hq=>rfl)|((first|(with_reducible first|refine jS fun K hK=>?_|refine jT ?_|refine jU ?_)|((with_reducible refine jV ?hy fun K hK=>?_);case hy=>rfl));simp only [go_sem, Nat.reduceEqDiff, Nat.reduceAdd, Nat.reduceMul, Nat.reduceLeDiff, Nat.reduceLT, Int.reduceLT, Int.reduceLE, Int.reduceEq, Int.reduceNeg, Int.reduceToNat, Nat.reducePow, reduceIte, reduceCtorEq, j1, j2, j4, q1, q2, q3, x1])|((with_reducible first|refine jW ?hy ?_|refine jY ?hy ?_);case hy=>rfl)|((with_reducible first|refine jX ?hy ?_|refine jZ ?hy ?_);case hy=>rfl)|((with_reducible refine jF ?hy ?_);case hy=>decide))
   refine t_same hTb ha hu0 fun H6 p1 hp1 hT6 hf6 => ?_
   have f46 : Fr (fun c => SJ c ∨ Tt c ∨ c = k) H4 H6 := f4b.trans (hf6.mono fun c _ h => .inr (.inl h))
   have s7 := hf6.size
   have nTx : ∀ c, H0.size ≤ c → ¬ Tt c := fun c hc h => by have := hbl c h; omega
   have bx6 := bxb.frame hf6 (nTx _ (by omega))
   have q1 := keep f46 cf (nS _ (.inr (.inr (.inl rfl)))) nT.2.2.1
   have q2 := keep f46 c3 (nS _ (.inl rfl)) nT.1
   have q3 := keep f46 cx (nS _ (.inr (.inr (.inr rfl)))) nT.2.2.2
   have x2 := bx6.cellOf (i := 2) rfl
   rw [eb] at x2
   repeat' (first|(with_reducible first|refine jA ?_|(refine hK _ _ ?_;clear hK K)|refine jJ fun K hK=>?_|refine jK ?_|refine jL ?_|refine jM ?_|refine jN ?_|refine jO ?_|refine jP ?_|refine jQ ?_|(refine jB ?_;clear hK K)|(refine jC ?_;clear hK K)|refine jD ?_|refine jE ?_|refine jG ?_|refine jH ?_|refine jI ?_)|((with_reducible refine jR ?hq ?_);case hq=>rfl)|((first|(with_reducible first|refine jS fun K hK=>?_|refine jT ?_|refine jU ?_)|((with_reducible refine jV ?hy fun K hK=>?_);case hy=>rfl));simp only [go_sem, Nat.reduceEqDiff, Nat.reduceAdd, Nat.reduceMul, Nat.reduceLeDiff, Nat.reduceLT, Int.reduceLT, Int.reduceLE, Int.reduceEq, Int.reduceNeg, Int.reduceToNat, Nat.reducePow, reduceIte, reduceCtorEq, j1, j2, j4, q1, q2, q3, x2])|((with_reducible first|refine jW ?hy ?_|refine jY ?hy ?_);case hy=>rfl)|((with_reducible first|refine jX ?hy ?_|refine jZ ?hy ?_);case hy=>rfl)|((with_reducible refine jF ?hy ?_);case hy=>decide))
   refine t_same hT6 hb hu0 fun H7 p2 hp2 hT7 hf7 => ?_
   have f47 : Fr (fun c => SJ c ∨ Tt c ∨ c = k) H4 H7 := f46.trans (hf7.mono fun c _ h => .inr (.inl h))
   have s8 := hf7.size
   have hJ7 := hJ _ _ _ hJb (by omega) ((hf6.trans hf7).mono (S' := fun c => Tt c ∨ H0.size ≤ c) fun c _ h => .inl h)
   have bx7 := bx6.frame hf7 (nTx _ (by omega))
   have hl7 : H7[k]? = some (.loop (busy r0)) := by rw [hf7.same _ (by omega) (nTx _ (by omega)), hf6.same _ (by omega) (nTx _ (by omega))]; exact hlb
   have hd7 : H7[H2.size]? = some (.deferred (some [])) := by rw [hf7.same _ (by omega) (nTx _ (by omega)), hf6.same _ (by omega) (nTx _ (by omega))]; exact h4b
   have fz : ∀ {Hx : Heap}, Fr (fun c => SJ c ∨ Tt c ∨ c = k) H7 Hx → Fr (fun c => SJ c ∨ Tt c ∨ c = k) H' Hx := fun hf => (((f5b.mono fun c _ e => .inr (.inr e)).trans (hf6.mono fun c _ h => .inr (.inl h))).trans (hf7.mono fun c _ h => .inr (.inl h))).trans hf
   have fend : ∀ (H8 : Heap), J (i :: D) H8 → TrM H8 t Tt n F → H8[k]? = some (.loop (busy r0)) → H8[H2.size]? = some (.deferred (some [])) → Fr (fun c => SJ c ∨ Tt c ∨ c = k) H7 H8 → roundQ k r0 K' .normal e1 H8 := fun H8 g1 g2 g3 g4 g5 => by
    have s9 := g5.size
    have f8 := setIB_fr H8 k (.loop r0)
    refine roundQ_normal hR g3 (hkk _ ⟨hJ _ _ _ g1 (by omega) (f8.mono fun c _ (e : c = k) => .inr (by omega)), g2.frame f8 fun c hc (e : c = k) => by have := hbl c hc; omega, by rw [Array.getElem?_setIfInBounds_self_of_lt (by omega)], by rw [f8.same _ (by omega) (by omega)]; exact g4, h5.trans (fz (g5.trans (f8.mono fun c _ e => .inr (.inr e))))⟩ (fz (g5.trans (f8.mono fun c _ e => .inr (.inr e)))))
   have hcr : CrossF F x x'.2 ↔ (p1 == p2) = false := by
    unfold CrossF
    rw [ea, eb, hxu]
    simp only [Int.toNat_natCast]
    rw [← hp1, ← hp2]
    cases p1 <;> cases p2 <;> simp
   have y0 := keepY f47
   have x0 := bx7.cellOf (i := 0) rfl
   have x1 := bx7.cellOf (i := 1) rfl
   have x2 := bx7.cellOf (i := 2) rfl
   have x3 := bx7.cellOf (i := 3) rfl
   repeat' (first|(with_reducible first|refine jA ?_|(refine hK _ _ ?_;clear hK K)|refine jJ fun K hK=>?_|refine jK ?_|refine jL ?_|refine jM ?_|refine jN ?_|refine jO ?_|refine jP ?_|refine jQ ?_|(refine jB ?_;clear hK K)|(refine jC ?_;clear hK K)|refine jD ?_|refine jE ?_|refine jG ?_|refine jH ?_|refine jI ?_)|((with_reducible refine jR ?hq ?_);case hq=>rfl)|((first|(with_reducible first|refine jS fun K hK=>?_|refine jT ?_|refine jU ?_)|((with_reducible refine jV ?hy fun K hK=>?_);case hy=>rfl));simp only [go_sem, Nat.reduceEqDiff, Nat.reduceAdd, Nat.reduceMul, Nat.reduceLeDiff, Nat.reduceLT, Int.reduceLT, Int.reduceLE, Int.reduceEq, Int.reduceNeg, Int.reduceToNat, Nat.reducePow, reduceIte, reduceCtorEq])|((with_reducible first|refine jW ?hy ?_|refine jY ?hy ?_);case hy=>rfl)|((with_reducible first|refine jX ?hy ?_|refine jZ ?hy ?_);case hy=>rfl)|((with_reducible refine jF ?hy ?_);case hy=>decide))
   cases hpp : (p1 == p2) with
   | true =>
    simp only [Bool.not_true]
    repeat' (first|(with_reducible first|refine jA ?_|(refine hK _ _ ?_;clear hK K)|refine jJ fun K hK=>?_|refine jK ?_|refine jL ?_|refine jM ?_|refine jN ?_|refine jO ?_|refine jP ?_|refine jQ ?_|(refine jB ?_;clear hK K)|(refine jC ?_;clear hK K)|refine jD ?_|refine jE ?_|refine jG ?_|refine jH ?_|refine jI ?_)|((with_reducible refine jR ?hq ?_);case hq=>rfl)|((first|(with_reducible first|refine jS fun K hK=>?_|refine jT ?_|refine jU ?_)|((with_reducible refine jV ?hy fun K hK=>?_);case hy=>rfl));simp only [go_sem, Nat.reduceEqDiff, Nat.reduceAdd, Nat.reduceMul, Nat.reduceLeDiff, Nat.reduceLT, Int.reduceLT, Int.reduceLE, Int.reduceEq, Int.reduceNeg, Int.reduceToNat, Nat.reducePow, reduceIte, reduceCtorEq])|((with_reducible first|refine jW ?hy ?_|refine jY ?hy ?_);case hy=>rfl)|((with_reducible first|refine jX ?hy ?_|refine jZ ?hy ?_);case hy=>rfl)|((with_reducible refine jF ?hy ?_);case hy=>decide))
    exact fend H7 (hskip D i x' H7 hx (fun h => by rw [hcr, hpp] at h; cases h) hJ7) hT7 hl7 hd7 (Fr.refl _ _)
   | false =>
    simp only [Bool.not_false]
    repeat' (first|(with_reducible first|refine jA ?_|(refine hK _ _ ?_;clear hK K)|refine jJ fun K hK=>?_|refine jK ?_|refine jL ?_|refine jM ?_|refine jN ?_|refine jO ?_|refine jP ?_|refine jQ ?_|(refine jB ?_;clear hK K)|(refine jC ?_;clear hK K)|refine jD ?_|refine jE ?_|refine jG ?_|refine jH ?_|refine jI ?_)|((with_reducible refine jR ?hq ?_);case hq=>rfl)|((first|(with_reducible first|refine jS fun K hK=>?_|refine jT ?_|refine jU ?_)|((with_reducible refine jV ?hy fun K hK=>?_);case hy=>rfl));simp only [go_sem, Nat.reduceEqDiff, Nat.reduceAdd, Nat.reduceMul, Nat.reduceLeDiff, Nat.reduceLT, Int.reduceLT, Int.reduceLE, Int.reduceEq, Int.reduceNeg, Int.reduceToNat, Nat.reducePow, reduceIte, reduceCtorEq, j3, j4, y0, x0, x1, x2, x3])|((with_reducible first|refine jW ?hy ?_|refine jY ?hy ?_);case hy=>rfl)|((with_reducible first|refine jX ?hy ?_|refine jZ ?hy ?_);case hy=>rfl)|((with_reducible refine jF ?hy ?_);case hy=>decide))
    refine hstep D i x' H7 _ hx (hcr.2 hpp) hJ7 (by omega) fun H8 hJ8 hf8 => ?_
    have s9 := hf8.size
    repeat' (first|(with_reducible first|refine jA ?_|(refine hK _ _ ?_;clear hK K)|refine jJ fun K hK=>?_|refine jK ?_|refine jL ?_|refine jM ?_|refine jN ?_|refine jO ?_|refine jP ?_|refine jQ ?_|(refine jB ?_;clear hK K)|(refine jC ?_;clear hK K)|refine jD ?_|refine jE ?_|refine jG ?_|refine jH ?_|refine jI ?_)|((with_reducible refine jR ?hq ?_);case hq=>rfl)|((first|(with_reducible first|refine jS fun K hK=>?_|refine jT ?_|refine jU ?_)|((with_reducible refine jV ?hy fun K hK=>?_);case hy=>rfl));simp only [go_sem, Nat.reduceEqDiff, Nat.reduceAdd, Nat.reduceMul, Nat.reduceLeDiff, Nat.reduceLT, Int.reduceLT, Int.reduceLE, Int.reduceEq, Int.reduceNeg, Int.reduceToNat, Nat.reducePow, reduceIte, reduceCtorEq, Bool.not_true])|((with_reducible first|refine jW ?hy ?_|refine jY ?hy ?_);case hy=>rfl)|((with_reducible first|refine jX ?hy ?_|refine jZ ?hy ?_);case hy=>rfl)|((with_reducible refine jF ?hy ?_);case hy=>decide))
    exact fend H8 hJ8 (hT7.frame hf8 fun c hc h => (hSJ c h).2.1 hc) (by rw [hf8.same _ (by omega) (fun h => by have := (hSJ _ h).1; omega)]; exact hl7) (by rw [hf8.same _ (by omega) (fun h => by have := (hSJ _ h).1; omega)]; exact hd7) (hf8.mono fun c _ h => .inl h)
 ·rintro H5 D ⟨h1, h2, h3, h4, h5⟩ hnd hall hlt hf5
  refine ⟨h3, ?_⟩
  have s5 := h5.size
  have f6 := setIB_fr H5 k (.loop { r0 with state := .exhausted })
  have h1' := hJ _ _ _ h1 (by omega) (f6.mono fun c _ (e : c = k) => .inr (by omega))
  have h2' := h2.frame f6 fun c hc (e : c = k) => by have := hbl c hc; omega
  have h4' : (H5.setIfInBounds k (.loop { r0 with state := .exhausted }))[H2.size]? = some (.deferred (some [])) := by rw [f6.same _ (by omega) (by omega)]; exact h4
  generalize H5.setIfInBounds k (.loop { r0 with state := .exhausted }) = H6 at f6 h1' h2' h4' ⊢
  have s6 := f6.size
  refine ⟨⟨h4', trivial⟩, ?_⟩
  have f8 := setIB_fr H6 H2.size (.deferred none)
  show L (.tuple #[]) _
  refine fin _ D (hJ _ _ _ h1' (by omega) (f8.mono fun c _ (e : c = H2.size) => .inr (by omega))) (h2'.frame f8 fun c hc (e : c = H2.size) => by have := hbl c hc; omega) hall hlt ?_
  refine (((f04.mono (S' := fun c => SJ c ∨ Tt c) fun _ _ h => h.elim).trans' h5 fun c hc h => ?_).trans' f6 fun c hc (e : c = k) => by omega).trans' f8 fun c hc (e : c = H2.size) => by omega
  rcases h with h | h | h
  ·exact .inl h
  ·exact .inr h
  ·omega
end
end Go.Proofs.Ytafehbegoanajaa
namespace Go.Ms
open Go Go.Hp Go.Li Go.Br
section
variable {n i j : Nat} {l F : List Ed} {x y e : Ed} {M : List (Int × Ed)}
theorem cross_iff (hn : (F.map (·.id)).Nodup) (hj : F[j]? = some x) : CrossF (woL F j) x e ↔ Cross (In F) x e := by
 have h : ∀ {a b : Nat}, Cn (In (woL F j)) a b ↔ Cn (fun e => In F e ∧ e ≠ x) a b := ⟨fun k => k.sub fun z hz => (mem_wo hn hj).1 hz, fun k => k.sub fun z hz => (mem_wo hn hj).2 hz⟩
 unfold CrossF Cross
 rw [h, h]
 have sy : ∀ {a b : Nat}, Cn (fun e => In F e ∧ e ≠ x) a b ↔ Cn (fun e => In F e ∧ e ≠ x) b a := ⟨Con.symm, Con.symm⟩
 rw [sy (a := e.u.toNat), sy (a := e.v.toNat)]
theorem cross_no (h : CrossF F x e) : ¬ Cn (In F) e.u.toNat e.v.toNat := fun k => h ⟨fun a => k.symm.trans a, fun a => k.trans a⟩
structure Bst (M : List (Int × Ed)) (F : List Ed) (x : Ed) (D : List Nat) (fd : Bool) (b : Ed) : Prop where
 no : fd = false → ∀ i ∈ D, ∀ e, M[i]? = some e → ¬ CrossF F x e.2
 yes : fd = true → (∃ i ∈ D, ∃ e, M[i]? = some e ∧ e.2 = b ∧ CrossF F x b) ∧ ∀ i ∈ D, ∀ e, M[i]? = some e → CrossF F x e.2 → e.2 = b ∨ heavy e.2 b = true
theorem Bst.init : Bst M F x [] false e := ⟨fun _ i h => absurd h List.not_mem_nil, fun h => by cases h⟩
theorem Bst.skip {D : List Nat} {fd : Bool} {b : Ed} {z : Int × Ed} (h : Bst M F x D fd b) (hz : M[i]? = some z) (hc : ¬ CrossF F x z.2) : Bst M F x (i :: D) fd b := by
 refine ⟨fun hf k hk e he => ?_, fun hf => ?_⟩
 ·rcases List.mem_cons.1 hk with rfl | hk
  ·rw [hz] at he; rw [← Option.some.inj he]; exact hc
  ·exact h.no hf k hk e he
 ·obtain ⟨⟨k, hk, e, h1, h2⟩, h3⟩ := h.yes hf
  refine ⟨⟨k, .tail _ hk, e, h1, h2⟩, fun k hk e he hce => ?_⟩
  rcases List.mem_cons.1 hk with rfl | hk
  ·rw [hz] at he; rw [← Option.some.inj he] at hce; exact absurd hce hc
  ·exact h3 k hk e he hce
theorem Bst.stay {D : List Nat} {b : Ed} {z : Int × Ed} (h : Bst M F x D true b) (hz : M[i]? = some z) (hb : z.2 = b ∨ heavy z.2 b = true) : Bst M F x (i :: D) true b := by
 refine ⟨nofun, fun hf => ?_⟩
 obtain ⟨⟨k, hk, e, h1, h2⟩, h3⟩ := h.yes hf
 refine ⟨⟨k, .tail _ hk, e, h1, h2⟩, fun k hk e he hce => ?_⟩
 rcases List.mem_cons.1 hk with rfl | hk
 ·rw [hz] at he; rw [← Option.some.inj he]; exact hb
 ·exact h3 k hk e he hce
theorem Bst.take {D : List Nat} {fd : Bool} {b : Ed} {z : Int × Ed} (h : Bst M F x D fd b) (hz : M[i]? = some z) (hc : CrossF F x z.2) (hb : fd = true → heavy b z.2 = true) : Bst M F x (i :: D) true z.2 := by
 refine ⟨nofun, fun _ => ⟨⟨i, .head _, z, hz, rfl, hc⟩, fun k hk e he hce => ?_⟩⟩
 rcases List.mem_cons.1 hk with rfl | hk
 ·rw [hz] at he; rw [← Option.some.inj he]; exact .inl rfl
 ·cases fd with
  | false => exact absurd hce (h.no rfl k hk e he)
  | true => exact .inr (((h.yes rfl).2 k hk e he hce).elim (fun e' => e' ▸ hb rfl) fun k' => hv_trans k' (hb rfl))
end
end Go.Ms
namespace Go.Proofs.Ytafehbegoanajaa
open Go Go.Hp Go.Li Go.Br Go.Ms
set_option linter.all false
set_option maxRecDepth 100000
set_option maxHeartbeats 3200000
section
variable {H : Heap} {L : Value → Heap → Prop} {f n : Nat} {T : Nat → Prop} {l F : List Ed}
theorem m_delete {k0 : Int} (hM : MsM H f T n l F)
  (no : byId l k0 = none → ∀ H', MsM H' f T n l F → Fr (fun _ => False) H H' → L (.int .i64 74) H')
  (fin : ∀ x i, byId l k0 = some x → l[i]? = some x → ∀ H' T' F', MsM H' f T' n (woL l i) F' → Stp F F' → Fr T H H' → (∀ b, T' b → T b ∨ H.size ≤ b) → L (.int .i64 0) H') :
  CallsH Try.prog 20 #[.pointer (some ⟨f, 0, none⟩), .int .i64 k0] H L := by
 obtain ⟨hm, hp⟩ := id hM
 obtain ⟨r1, r2, t, Tt, k2, hb, hm1, hB1, hm2, hB2, hT, ⟨d1, d2, d3⟩, ⟨d4, d5, d6⟩, he⟩ := id hm
 have c1 := hb.cellOf (i := 1) rfl
 refine callsH_top 58 [.tmp 4] (f := 20) (fn := Try.f20) (by kernel_rfl) (by kernel_rfl) (c := Try.f20.body.getD .skip) (by kernel_rfl) (by kernel_rfl) (by kernel_rfl) (by simp) ?_
 simp only [Try.f20, Option.getD_some]
 refine top_seq (top_of mixed [] (by kernel_rfl) ?_)
 repeat' (first|(with_reducible first|refine jA ?_|(refine hK _ _ ?_;clear hK K)|refine jJ fun K hK=>?_|refine jK ?_|refine jL ?_|refine jM ?_|refine jN ?_|refine jO ?_|refine jP ?_|refine jQ ?_|(refine jB ?_;clear hK K)|(refine jC ?_;clear hK K)|refine jD ?_|refine jE ?_|refine jG ?_|refine jH ?_|refine jI ?_)|((with_reducible refine jR ?hq ?_);case hq=>rfl)|((first|(with_reducible first|refine jS fun K hK=>?_|refine jT ?_|refine jU ?_)|((with_reducible refine jV ?hy fun K hK=>?_);case hy=>rfl));simp only [go_sem, Nat.reduceEqDiff, Nat.reduceAdd, Nat.reduceMul, Nat.reduceLeDiff, Nat.reduceLT, Int.reduceLT, Int.reduceLE, Int.reduceEq, Int.reduceNeg, Int.reduceToNat, Nat.reducePow, reduceIte, reduceCtorEq])|((with_reducible first|refine jW ?hy ?_|refine jY ?hy ?_);case hy=>rfl)|((with_reducible first|refine jX ?hy ?_|refine jZ ?hy ?_);case hy=>rfl)|((with_reducible refine jF ?hy ?_);case hy=>decide))
 intro hx_; clear hx_
 refine top_seq (top_of mixed [] (by kernel_rfl) ?_)
 repeat' (first|(with_reducible first|refine jA ?_|(refine hK _ _ ?_;clear hK K)|refine jJ fun K hK=>?_|refine jK ?_|refine jL ?_|refine jM ?_|refine jN ?_|refine jO ?_|refine jP ?_|refine jQ ?_|(refine jB ?_;clear hK K)|(refine jC ?_;clear hK K)|refine jD ?_|refine jE ?_|refine jG ?_|refine jH ?_|refine jI ?_)|((with_reducible refine jR ?hq ?_);case hq=>rfl)|((first|(with_reducible first|refine jS fun K hK=>?_|refine jT ?_|refine jU ?_)|((with_reducible refine jV ?hy fun K hK=>?_);case hy=>rfl));simp only [go_sem, Nat.reduceEqDiff, Nat.reduceAdd, Nat.reduceMul, Nat.reduceLeDiff, Nat.reduceLT, Int.reduceLT, Int.reduceLE, Int.reduceEq, Int.reduceNeg, Int.reduceToNat, Nat.reducePow, reduceIte, reduceCtorEq, c1])|((with_reducible first|refine jW ?hy ?_|refine jY ?hy ?_);case hy=>rfl)|((with_reducible first|refine jX ?hy ?_|refine jZ ?hy ?_);case hy=>rfl)|((with_reducible refine jF ?hy ?_);case hy=>decide))
 refine rd_lookupQ (vf := Ed.val) mapT_edges kInt hm1 k0 true ?_
 rw [got_edge]
 obtain ⟨z, hz⟩ : ∃ z, z = (byId l k0).getD Ed.zero := ⟨_, rfl⟩
 obtain ⟨bs, hbs⟩ : ∃ bs, bs = (byId l k0).isSome := ⟨_, rfl⟩
 rw [← hz, ← hbs]
 simp only [Ed.val]
 repeat' (first|(with_reducible first|refine jA ?_|(refine hK _ _ ?_;clear hK K)|refine jJ fun K hK=>?_|refine jK ?_|refine jL ?_|refine jM ?_|refine jN ?_|refine jO ?_|refine jP ?_|refine jQ ?_|(refine jB ?_;clear hK K)|(refine jC ?_;clear hK K)|refine jD ?_|refine jE ?_|refine jG ?_|refine jH ?_|refine jI ?_)|((with_reducible refine jR ?hq ?_);case hq=>rfl)|((first|(with_reducible first|refine jS fun K hK=>?_|refine jT ?_|refine jU ?_)|((with_reducible refine jV ?hy fun K hK=>?_);case hy=>rfl));simp only [go_sem, Nat.reduceEqDiff, Nat.reduceAdd, Nat.reduceMul, Nat.reduceLeDiff, Nat.reduceLT, Int.reduceLT, Int.reduceLE, Int.reduceEq, Int.reduceNeg, Int.reduceToNat, Nat.reducePow, reduceIte, reduceCtorEq, hcell_push, hcell_top, okW_push, okW_top, hcell_hset_ne, hcell_hset_off, hcell_hset_eq, okW_hset, hset_size, Array.size_push, Nat.lt_add_one, ne_add_one, add_one_ne, Nat.add_assoc, add_same, add_lt_same, Nat.reduceEqDiff, lt_add_k, add_k_ne, ne_add_k])|((with_reducible first|refine jW ?hy ?_|refine jY ?hy ?_);case hy=>rfl)|((with_reducible first|refine jX ?hy ?_|refine jZ ?hy ?_);case hy=>rfl)|((with_reducible refine jF ?hy ?_);case hy=>decide))
 intro hx_; clear hx_
 obtain ⟨b3, f3⟩ := edge_box (H := H) z (T0 := 30)
 generalize hset _ _ _ = H3 at b3 f3 ⊢
 refine top_seq (top_of mixed [] (by kernel_rfl) ?_)
 repeat' (first|(with_reducible first|refine jA ?_|(refine hK _ _ ?_;clear hK K)|refine jJ fun K hK=>?_|refine jK ?_|refine jL ?_|refine jM ?_|refine jN ?_|refine jO ?_|refine jP ?_|refine jQ ?_|(refine jB ?_;clear hK K)|(refine jC ?_;clear hK K)|refine jD ?_|refine jE ?_|refine jG ?_|refine jH ?_|refine jI ?_)|((with_reducible refine jR ?hq ?_);case hq=>rfl)|((first|(with_reducible first|refine jS fun K hK=>?_|refine jT ?_|refine jU ?_)|((with_reducible refine jV ?hy fun K hK=>?_);case hy=>rfl));simp only [go_sem, Nat.reduceEqDiff, Nat.reduceAdd, Nat.reduceMul, Nat.reduceLeDiff, Nat.reduceLT, Int.reduceLT, Int.reduceLE, Int.reduceEq, Int.reduceNeg, Int.reduceToNat, Nat.reducePow, reduceIte, reduceCtorEq])|((with_reducible first|refine jW ?hy ?_|refine jY ?hy ?_);case hy=>rfl)|((with_reducible first|refine jX ?hy ?_|refine jZ ?hy ?_);case hy=>rfl)|((with_reducible refine jF ?hy ?_);case hy=>decide))
 cases bs with
 | false =>
  repeat' (first|(with_reducible first|refine jA ?_|(refine hK _ _ ?_;clear hK K)|refine jJ fun K hK=>?_|refine jK ?_|refine jL ?_|refine jM ?_|refine jN ?_|refine jO ?_|refine jP ?_|refine jQ ?_|(refine jB ?_;clear hK K)|(refine jC ?_;clear hK K)|refine jD ?_|refine jE ?_|refine jG ?_|refine jH ?_|refine jI ?_)|((with_reducible refine jR ?hq ?_);case hq=>rfl)|((first|(with_reducible first|refine jS fun K hK=>?_|refine jT ?_|refine jU ?_)|((with_reducible refine jV ?hy fun K hK=>?_);case hy=>rfl));simp only [go_sem, Nat.reduceEqDiff, Nat.reduceAdd, Nat.reduceMul, Nat.reduceLeDiff, Nat.reduceLT, Int.reduceLT, Int.reduceLE, Int.reduceEq, Int.reduceNeg, Int.reduceToNat, Nat.reducePow, reduceIte, reduceCtorEq, Bool.not_false])|((with_reducible first|refine jW ?hy ?_|refine jY ?hy ?_);case hy=>rfl)|((with_reducible first|refine jX ?hy ?_|refine jZ ?hy ?_);case hy=>rfl)|((with_reducible refine jF ?hy ?_);case hy=>decide))
  intro hx_; clear hx_
  refine ⟨trivial, ?_⟩
  have : byId l k0 = none := by
   cases h : byId l k0 with
   | none => rfl
   | some y => rw [h] at hbs; cases hbs
  exact no this H3 (hM.frame f3 fun _ _ h => h) f3
 | true =>
 obtain ⟨x, hx⟩ : ∃ x, byId l k0 = some x := Option.isSome_iff_exists.1 hbs.symm
 have hzx : z = x := by rw [hz, hx]; rfl
 subst hzx
 obtain ⟨hxl, hxk⟩ := byId_some hx
 obtain ⟨i, hi⟩ := List.mem_iff_getElem?.1 hxl
 have fin := fin z i hx hi
 clear no hz hbs
 repeat' (first|(with_reducible first|refine jA ?_|(refine hK _ _ ?_;clear hK K)|refine jJ fun K hK=>?_|refine jK ?_|refine jL ?_|refine jM ?_|refine jN ?_|refine jO ?_|refine jP ?_|refine jQ ?_|(refine jB ?_;clear hK K)|(refine jC ?_;clear hK K)|refine jD ?_|refine jE ?_|refine jG ?_|refine jH ?_|refine jI ?_)|((with_reducible refine jR ?hq ?_);case hq=>rfl)|((first|(with_reducible first|refine jS fun K hK=>?_|refine jT ?_|refine jU ?_)|((with_reducible refine jV ?hy fun K hK=>?_);case hy=>rfl));simp only [go_sem, Nat.reduceEqDiff, Nat.reduceAdd, Nat.reduceMul, Nat.reduceLeDiff, Nat.reduceLT, Int.reduceLT, Int.reduceLE, Int.reduceEq, Int.reduceNeg, Int.reduceToNat, Nat.reducePow, reduceIte, reduceCtorEq, Bool.not_true])|((with_reducible first|refine jW ?hy ?_|refine jY ?hy ?_);case hy=>rfl)|((with_reducible first|refine jX ?hy ?_|refine jZ ?hy ?_);case hy=>rfl)|((with_reducible refine jF ?hy ?_);case hy=>decide))
 intro hx_; clear hx_
 have hM3 := hM.frame f3 fun _ _ h => h
 have hb3 := hb.frame f3 fun h => h
 have c1 := hb3.cellOf (i := 1) rfl
 refine top_seq (top_of mixed [] (by kernel_rfl) ?_)
 repeat' (first|(with_reducible first|refine jA ?_|(refine hK _ _ ?_;clear hK K)|refine jJ fun K hK=>?_|refine jK ?_|refine jL ?_|refine jM ?_|refine jN ?_|refine jO ?_|refine jP ?_|refine jQ ?_|(refine jB ?_;clear hK K)|(refine jC ?_;clear hK K)|refine jD ?_|refine jE ?_|refine jG ?_|refine jH ?_|refine jI ?_)|((with_reducible refine jR ?hq ?_);case hq=>rfl)|((first|(with_reducible first|refine jS fun K hK=>?_|refine jT ?_|refine jU ?_)|((with_reducible refine jV ?hy fun K hK=>?_);case hy=>rfl));simp only [go_sem, Nat.reduceEqDiff, Nat.reduceAdd, Nat.reduceMul, Nat.reduceLeDiff, Nat.reduceLT, Int.reduceLT, Int.reduceLE, Int.reduceEq, Int.reduceNeg, Int.reduceToNat, Nat.reducePow, reduceIte, reduceCtorEq, c1])|((with_reducible first|refine jW ?hy ?_|refine jY ?hy ?_);case hy=>rfl)|((with_reducible first|refine jX ?hy ?_|refine jZ ?hy ?_);case hy=>rfl)|((with_reducible refine jF ?hy ?_);case hy=>decide))
 refine hp_delB (ty := 0) (vf := Ed.val) mapT_edges kInt (hm1.frame f3 fun h => h) (hB1.frame f3 fun h => h) k0 fun H4 hm4 hB4 hf4 hs4 hcc => ?_
 repeat' (first|(with_reducible first|refine jA ?_|(refine hK _ _ ?_;clear hK K)|refine jJ fun K hK=>?_|refine jK ?_|refine jL ?_|refine jM ?_|refine jN ?_|refine jO ?_|refine jP ?_|refine jQ ?_|(refine jB ?_;clear hK K)|(refine jC ?_;clear hK K)|refine jD ?_|refine jE ?_|refine jG ?_|refine jH ?_|refine jI ?_)|((with_reducible refine jR ?hq ?_);case hq=>rfl)|((first|(with_reducible first|refine jS fun K hK=>?_|refine jT ?_|refine jU ?_)|((with_reducible refine jV ?hy fun K hK=>?_);case hy=>rfl));simp only [go_sem, Nat.reduceEqDiff, Nat.reduceAdd, Nat.reduceMul, Nat.reduceLeDiff, Nat.reduceLT, Int.reduceLT, Int.reduceLE, Int.reduceEq, Int.reduceNeg, Int.reduceToNat, Nat.reducePow, reduceIte, reduceCtorEq])|((with_reducible first|refine jW ?hy ?_|refine jY ?hy ?_);case hy=>rfl)|((with_reducible first|refine jX ?hy ?_|refine jZ ?hy ?_);case hy=>rfl)|((with_reducible refine jF ?hy ?_);case hy=>decide))
 intro hx_; clear hx_
 rw [hx, Option.isSome_some, if_pos rfl] at hm4
 have hwl := woL_len hi
 have hm14 : MapF intK Ed.val H4 r1 (byId (woL l i)) (woL l i).length := by
  have e : (woL l i).length = l.length - 1 := by omega
  rw [e]
  refine hm4.congr fun j => ?_
  rw [byId_wo hp.uq hi, hxk]
 have s3 := f3.size
 have lb := b3.lt
 have lf := hb.lt
 have lr1 := hm1.lt
 have lr2 := hm2.lt
 have b4 := b3.frame hf4 (by omega)
 have hb4 := hb3.frame hf4 d1
 have hm24 := (hm2.frame f3 fun h => h).frame hf4 (Ne.symm d3)
 have hB24 := (hB2.frame f3 fun h => h).frame hf4 (Ne.symm d3)
 have hT4 := (hT.frame f3 fun _ _ h => h).frame hf4 fun b hb (e : b = r1) => d5 (e ▸ hb)
 have hM4 : MxM H4 f T n (byId (woL l i)) (woL l i).length F := ⟨r1, r2, t, Tt, k2, hb4, hm14, hB4, hm24, hB24, hT4, ⟨d1, d2, d3⟩, ⟨d4, d5, d6⟩, he⟩
 have f04 : Fr T H H4 := (f3.mono (S' := T) fun _ _ h => h.elim).trans' hf4 fun b hb (e : b = r1) => (he b).2 (.inr (.inl e))
 have c2 := hb4.cellOf (i := 2) rfl
 refine top_seq (top_of mixed [] (by kernel_rfl) ?_)
 repeat' (first|(with_reducible first|refine jA ?_|(refine hK _ _ ?_;clear hK K)|refine jJ fun K hK=>?_|refine jK ?_|refine jL ?_|refine jM ?_|refine jN ?_|refine jO ?_|refine jP ?_|refine jQ ?_|(refine jB ?_;clear hK K)|(refine jC ?_;clear hK K)|refine jD ?_|refine jE ?_|refine jG ?_|refine jH ?_|refine jI ?_)|((with_reducible refine jR ?hq ?_);case hq=>rfl)|((first|(with_reducible first|refine jS fun K hK=>?_|refine jT ?_|refine jU ?_)|((with_reducible refine jV ?hy fun K hK=>?_);case hy=>rfl));simp only [go_sem, Nat.reduceEqDiff, Nat.reduceAdd, Nat.reduceMul, Nat.reduceLeDiff, Nat.reduceLT, Int.reduceLT, Int.reduceLE, Int.reduceEq, Int.reduceNeg, Int.reduceToNat, Nat.reducePow, reduceIte, reduceCtorEq, c2])|((with_reducible first|refine jW ?hy ?_|refine jY ?hy ?_);case hy=>rfl)|((with_reducible first|refine jX ?hy ?_|refine jZ ?hy ?_);case hy=>rfl)|((with_reducible refine jF ?hy ?_);case hy=>decide))
 refine rd_lookupQ (vf := wV) mapT_ids kInt hm24 k0 true ?_
 rw [got_w]
 have e : ((byId F k0).map (·.w)).isSome = (byId F k0).isSome := by cases byId F k0 <;> rfl
 rw [e]
 obtain ⟨inn, hinn⟩ : ∃ inn, inn = (byId F k0).isSome := ⟨_, rfl⟩
 rw [← hinn]
 repeat' (first|(with_reducible first|refine jA ?_|(refine hK _ _ ?_;clear hK K)|refine jJ fun K hK=>?_|refine jK ?_|refine jL ?_|refine jM ?_|refine jN ?_|refine jO ?_|refine jP ?_|refine jQ ?_|(refine jB ?_;clear hK K)|(refine jC ?_;clear hK K)|refine jD ?_|refine jE ?_|refine jG ?_|refine jH ?_|refine jI ?_)|((with_reducible refine jR ?hq ?_);case hq=>rfl)|((first|(with_reducible first|refine jS fun K hK=>?_|refine jT ?_|refine jU ?_)|((with_reducible refine jV ?hy fun K hK=>?_);case hy=>rfl));simp only [go_sem, Nat.reduceEqDiff, Nat.reduceAdd, Nat.reduceMul, Nat.reduceLeDiff, Nat.reduceLT, Int.reduceLT, Int.reduceLE, Int.reduceEq, Int.reduceNeg, Int.reduceToNat, Nat.reducePow, reduceIte, reduceCtorEq])|((with_reducible first|refine jW ?hy ?_|refine jY ?hy ?_);case hy=>rfl)|((with_reducible first|refine jX ?hy ?_|refine jZ ?hy ?_);case hy=>rfl)|((with_reducible refine jF ?hy ?_);case hy=>decide))
 have hmem : ∀ e, e ∈ woL l i ↔ e ∈ l ∧ e ≠ z := fun e => mem_wo hp.uq hi
 have huq' := (woL_nodup hi hp.uq).1
 have hok' : ∀ e ∈ woL l i, OkE n e := fun e he => hp.ok e ((hmem e).1 he).1
 have hlen' : (woL l i).length ≤ 192 := by have := hp.len; omega
 cases inn with
 | false =>
  repeat' (first|(with_reducible first|refine jA ?_|(refine hK _ _ ?_;clear hK K)|refine jJ fun K hK=>?_|refine jK ?_|refine jL ?_|refine jM ?_|refine jN ?_|refine jO ?_|refine jP ?_|refine jQ ?_|(refine jB ?_;clear hK K)|(refine jC ?_;clear hK K)|refine jD ?_|refine jE ?_|refine jG ?_|refine jH ?_|refine jI ?_)|((with_reducible refine jR ?hq ?_);case hq=>rfl)|((first|(with_reducible first|refine jS fun K hK=>?_|refine jT ?_|refine jU ?_)|((with_reducible refine jV ?hy fun K hK=>?_);case hy=>rfl));simp only [go_sem, Nat.reduceEqDiff, Nat.reduceAdd, Nat.reduceMul, Nat.reduceLeDiff, Nat.reduceLT, Int.reduceLT, Int.reduceLE, Int.reduceEq, Int.reduceNeg, Int.reduceToNat, Nat.reducePow, reduceIte, reduceCtorEq, Bool.not_false])|((with_reducible first|refine jW ?hy ?_|refine jY ?hy ?_);case hy=>rfl)|((with_reducible first|refine jX ?hy ?_|refine jZ ?hy ?_);case hy=>rfl)|((with_reducible refine jF ?hy ?_);case hy=>decide))
  intro hx_; clear hx_
  refine ⟨trivial, ?_⟩
  have hzF : z ∉ F := fun h => by
   have := byId_mem hp.fn h
   rw [hxk] at this
   rw [this] at hinn
   cases hinn
  exact fin H4 T F ⟨hM4, hp.n1, hp.n64, huq', hok', hlen', hp.msf.less_out hmem hzF, hp.fn⟩ (.inl rfl) f04 fun b hb => .inl hb
 | true =>
 repeat' (first|(with_reducible first|refine jA ?_|(refine hK _ _ ?_;clear hK K)|refine jJ fun K hK=>?_|refine jK ?_|refine jL ?_|refine jM ?_|refine jN ?_|refine jO ?_|refine jP ?_|refine jQ ?_|(refine jB ?_;clear hK K)|(refine jC ?_;clear hK K)|refine jD ?_|refine jE ?_|refine jG ?_|refine jH ?_|refine jI ?_)|((with_reducible refine jR ?hq ?_);case hq=>rfl)|((first|(with_reducible first|refine jS fun K hK=>?_|refine jT ?_|refine jU ?_)|((with_reducible refine jV ?hy fun K hK=>?_);case hy=>rfl));simp only [go_sem, Nat.reduceEqDiff, Nat.reduceAdd, Nat.reduceMul, Nat.reduceLeDiff, Nat.reduceLT, Int.reduceLT, Int.reduceLE, Int.reduceEq, Int.reduceNeg, Int.reduceToNat, Nat.reducePow, reduceIte, reduceCtorEq, Bool.not_true])|((with_reducible first|refine jW ?hy ?_|refine jY ?hy ?_);case hy=>rfl)|((with_reducible first|refine jX ?hy ?_|refine jZ ?hy ?_);case hy=>rfl)|((with_reducible refine jF ?hy ?_);case hy=>decide))
 intro hx_; clear hx_
 obtain ⟨y, hy⟩ := Option.isSome_iff_exists.1 hinn.symm
 obtain ⟨hyF, hyk⟩ := byId_some hy
 have hyz : y = z := uq_of hp.uq y (hp.sub y hyF) z hxl (by rw [hyk, hxk])
 subst hyz
 obtain ⟨j, hj⟩ := List.mem_iff_getElem?.1 hyF
 have x0 := b4.cellOf (i := 0) rfl
 have x1 := b4.cellOf (i := 1) rfl
 have x2 := b4.cellOf (i := 2) rfl
 have x3 := b4.cellOf (i := 3) rfl
 refine top_seq (top_of mixed [] (by kernel_rfl) ?_)
 repeat' (first|(with_reducible first|refine jA ?_|(refine hK _ _ ?_;clear hK K)|refine jJ fun K hK=>?_|refine jK ?_|refine jL ?_|refine jM ?_|refine jN ?_|refine jO ?_|refine jP ?_|refine jQ ?_|(refine jB ?_;clear hK K)|(refine jC ?_;clear hK K)|refine jD ?_|refine jE ?_|refine jG ?_|refine jH ?_|refine jI ?_)|((with_reducible refine jR ?hq ?_);case hq=>rfl)|((first|(with_reducible first|refine jS fun K hK=>?_|refine jT ?_|refine jU ?_)|((with_reducible refine jV ?hy fun K hK=>?_);case hy=>rfl));simp only [go_sem, Nat.reduceEqDiff, Nat.reduceAdd, Nat.reduceMul, Nat.reduceLeDiff, Nat.reduceLT, Int.reduceLT, Int.reduceLE, Int.reduceEq, Int.reduceNeg, Int.reduceToNat, Nat.reducePow, reduceIte, reduceCtorEq, x0, x1, x2, x3])|((with_reducible first|refine jW ?hy ?_|refine jY ?hy ?_);case hy=>rfl)|((with_reducible first|refine jX ?hy ?_|refine jZ ?hy ?_);case hy=>rfl)|((with_reducible refine jF ?hy ?_);case hy=>decide))
 have hyw := (hp.ok y hxl).w
 have hsum := hp.sum
 refine drop_ok hM4 hp.fn hj (by omega) fun H5 T5 hM5 hf5 hT5 => ?_
 repeat' (first|(with_reducible first|refine jA ?_|(refine hK _ _ ?_;clear hK K)|refine jJ fun K hK=>?_|refine jK ?_|refine jL ?_|refine jM ?_|refine jN ?_|refine jO ?_|refine jP ?_|refine jQ ?_|(refine jB ?_;clear hK K)|(refine jC ?_;clear hK K)|refine jD ?_|refine jE ?_|refine jG ?_|refine jH ?_|refine jI ?_)|((with_reducible refine jR ?hq ?_);case hq=>rfl)|((first|(with_reducible first|refine jS fun K hK=>?_|refine jT ?_|refine jU ?_)|((with_reducible refine jV ?hy fun K hK=>?_);case hy=>rfl));simp only [go_sem, Nat.reduceEqDiff, Nat.reduceAdd, Nat.reduceMul, Nat.reduceLeDiff, Nat.reduceLT, Int.reduceLT, Int.reduceLE, Int.reduceEq, Int.reduceNeg, Int.reduceToNat, Nat.reducePow, reduceIte, reduceCtorEq])|((with_reducible first|refine jW ?hy ?_|refine jY ?hy ?_);case hy=>rfl)|((with_reducible first|refine jX ?hy ?_|refine jZ ?hy ?_);case hy=>rfl)|((with_reducible refine jF ?hy ?_);case hy=>decide))
 intro hx_; clear hx_
 have nT : ∀ b, H.size ≤ b → ¬ T b := fun b hb h => by have := hM.below b h; omega
 have b5 := b4.frame hf5 (nT _ (Nat.le_refl _))
 have f05 := f04.trans hf5
 have s4 := f04.size
 have s5 := hf5.size
 clear hb hm1 hB1 hm2 hB2 hT d1 d2 d3 d4 d5 d6 he c1 c2 hb3 hb4 hm14 hm24 hB24 hT4 hM4 hM3 hm4 hB4 x0 x1 x2 x3 b3 b4 hcc
 have hT5' : ∀ b, T5 b → T b ∨ H.size ≤ b := fun b hb => (hT5 b hb).elim .inl fun h => .inr (by omega)
 have hbel5 := hM5.below
 obtain ⟨r1, r2, t, Tt, k2, hb, hm1, hB1, hm2, hB2, hT, ⟨d1, d2, d3⟩, ⟨d4, d5, d6⟩, he⟩ := id hM5
 have b6 : Blk (H5.push (.cells #[.int .i64 0, .int .i64 0, .int .i64 0, .int .i64 0] 30)) H5.size Ed.zero.cells := Blk.new H5 _ _
 have f6 : Fr (fun _ => False) H5 (H5.push (.cells #[.int .i64 0, .int .i64 0, .int .i64 0, .int .i64 0] 30)) := (Fr.refl _ _).push _
 have s6 : (H5.push (.cells #[.int .i64 0, .int .i64 0, .int .i64 0, .int .i64 0] 30)).size = H5.size + 1 := by simp
 refine top_seq (top_of mixed [] (by kernel_rfl) ?_)
 repeat' (first|(with_reducible first|refine jA ?_|(refine hK _ _ ?_;clear hK K)|refine jJ fun K hK=>?_|refine jK ?_|refine jL ?_|refine jM ?_|refine jN ?_|refine jO ?_|refine jP ?_|refine jQ ?_|(refine jB ?_;clear hK K)|(refine jC ?_;clear hK K)|refine jD ?_|refine jE ?_|refine jG ?_|refine jH ?_|refine jI ?_)|((with_reducible refine jR ?hq ?_);case hq=>rfl)|((first|(with_reducible first|refine jS fun K hK=>?_|refine jT ?_|refine jU ?_)|((with_reducible refine jV ?hy fun K hK=>?_);case hy=>rfl));simp only [go_sem, Nat.reduceEqDiff, Nat.reduceAdd, Nat.reduceMul, Nat.reduceLeDiff, Nat.reduceLT, Int.reduceLT, Int.reduceLE, Int.reduceEq, Int.reduceNeg, Int.reduceToNat, Nat.reducePow, reduceIte, reduceCtorEq])|((with_reducible first|refine jW ?hy ?_|refine jY ?hy ?_);case hy=>rfl)|((with_reducible first|refine jX ?hy ?_|refine jZ ?hy ?_);case hy=>rfl)|((with_reducible refine jF ?hy ?_);case hy=>decide))
 intro hx_; clear hx_
 generalize H5.push _ = H6 at b6 f6 s6 ⊢
 have b7 := (Blk.new H6 [.bool false] 4).set_same 0 (.bool false)
 have f7 : Fr (fun _ => False) H6 (hset (H6.push (.cells ([.bool false] : List Value).toArray 4)) ⟨H6.size, 0, none⟩ (.bool false)) := ((Fr.refl _ _).push _).trans' (Fr.set (S := (· = H6.size)) (a := ⟨H6.size, 0, none⟩) (Fr.refl _ _) (.inl rfl) _) fun b hb (e : b = H6.size) => by omega
 refine top_seq (top_of mixed [] (by kernel_rfl) ?_)
 repeat' (first|(with_reducible first|refine jA ?_|(refine hK _ _ ?_;clear hK K)|refine jJ fun K hK=>?_|refine jK ?_|refine jL ?_|refine jM ?_|refine jN ?_|refine jO ?_|refine jP ?_|refine jQ ?_|(refine jB ?_;clear hK K)|(refine jC ?_;clear hK K)|refine jD ?_|refine jE ?_|refine jG ?_|refine jH ?_|refine jI ?_)|((with_reducible refine jR ?hq ?_);case hq=>rfl)|((first|(with_reducible first|refine jS fun K hK=>?_|refine jT ?_|refine jU ?_)|((with_reducible refine jV ?hy fun K hK=>?_);case hy=>rfl));simp only [go_sem, Nat.reduceEqDiff, Nat.reduceAdd, Nat.reduceMul, Nat.reduceLeDiff, Nat.reduceLT, Int.reduceLT, Int.reduceLE, Int.reduceEq, Int.reduceNeg, Int.reduceToNat, Nat.reducePow, reduceIte, reduceCtorEq, hcell_push, hcell_top, okW_push, okW_top, hcell_hset_ne, hcell_hset_off, hcell_hset_eq, okW_hset, hset_size, Array.size_push, Nat.lt_add_one, ne_add_one, add_one_ne, Nat.add_assoc, add_same, add_lt_same, Nat.reduceEqDiff, lt_add_k, add_k_ne, ne_add_k])|((with_reducible first|refine jW ?hy ?_|refine jY ?hy ?_);case hy=>rfl)|((with_reducible first|refine jX ?hy ?_|refine jZ ?hy ?_);case hy=>rfl)|((with_reducible refine jF ?hy ?_);case hy=>decide))
 intro hx_; clear hx_
 change TopX _ _ _ _ _ _ (hset (H6.push (.cells ([.bool false] : List Value).toArray 4)) ⟨H6.size, 0, none⟩ (.bool false))
 generalize hset _ _ _ = H7 at b7 f7 ⊢
 have s7 := f7.size
 have l7 := b7.lt
 have f57 := f6.trans f7
 have b57 := b5.frame f57 fun h => h
 have x0 := b57.cellOf (i := 0) rfl
 have x1 := b57.cellOf (i := 1) rfl
 have x2 := b57.cellOf (i := 2) rfl
 have x3 := b57.cellOf (i := 3) rfl
 refine top_seq (top_seq (top_of mixed [] (by kernel_rfl) ?_))
 repeat' (first|(with_reducible first|refine jA ?_|(refine hK _ _ ?_;clear hK K)|refine jJ fun K hK=>?_|refine jK ?_|refine jL ?_|refine jM ?_|refine jN ?_|refine jO ?_|refine jP ?_|refine jQ ?_|(refine jB ?_;clear hK K)|(refine jC ?_;clear hK K)|refine jD ?_|refine jE ?_|refine jG ?_|refine jH ?_|refine jI ?_)|((with_reducible refine jR ?hq ?_);case hq=>rfl)|((first|(with_reducible first|refine jS fun K hK=>?_|refine jT ?_|refine jU ?_)|((with_reducible refine jV ?hy fun K hK=>?_);case hy=>rfl));simp only [go_sem, Nat.reduceEqDiff, Nat.reduceAdd, Nat.reduceMul, Nat.reduceLeDiff, Nat.reduceLT, Int.reduceLT, Int.reduceLE, Int.reduceEq, Int.reduceNeg, Int.reduceToNat, Nat.reducePow, reduceIte, reduceCtorEq, x0, x1, x2, x3])|((with_reducible first|refine jW ?hy ?_|refine jY ?hy ?_);case hy=>rfl)|((with_reducible first|refine jX ?hy ?_|refine jZ ?hy ?_);case hy=>rfl)|((with_reducible refine jF ?hy ?_);case hy=>decide))
 refine cross_ok (x := y) fun H8 f8 bF bX => ?_
 repeat' (first|(with_reducible first|refine jA ?_|(refine hK _ _ ?_;clear hK K)|refine jJ fun K hK=>?_|refine jK ?_|refine jL ?_|refine jM ?_|refine jN ?_|refine jO ?_|refine jP ?_|refine jQ ?_|(refine jB ?_;clear hK K)|(refine jC ?_;clear hK K)|refine jD ?_|refine jE ?_|refine jG ?_|refine jH ?_|refine jI ?_)|((with_reducible refine jR ?hq ?_);case hq=>rfl)|((first|(with_reducible first|refine jS fun K hK=>?_|refine jT ?_|refine jU ?_)|((with_reducible refine jV ?hy fun K hK=>?_);case hy=>rfl));simp only [go_sem, Nat.reduceEqDiff, Nat.reduceAdd, Nat.reduceMul, Nat.reduceLeDiff, Nat.reduceLT, Int.reduceLT, Int.reduceLE, Int.reduceEq, Int.reduceNeg, Int.reduceToNat, Nat.reducePow, reduceIte, reduceCtorEq])|((with_reducible first|refine jW ?hy ?_|refine jY ?hy ?_);case hy=>rfl)|((with_reducible first|refine jX ?hy ?_|refine jZ ?hy ?_);case hy=>rfl)|((with_reducible refine jF ?hy ?_);case hy=>decide))
 intro hx_; clear hx_
 refine top_block (top_rangeN rfl fun r0 H9 hR hD hl0 hf9 s9 => ?_)
 obtain ⟨u0, v0, eu, ev, hu0, hv0, huv0⟩ := (hp.ok y hxl).1
 obtain ⟨M, g1, g2, g3, g4⟩ := list_of hm1 hB1
 have hMl : ∀ (i' : Nat) (e : Int × Ed), M[i']? = some e → e.2 ∈ woL l i := fun i' e he => by
  have := (atL_mem g1).1 (List.mem_of_getElem? (show M[i']? = some (e.1, e.2) from he))
  rw [← g2] at this
  exact (byId_some this).1
 have hMr : ∀ e ∈ woL l i, ∃ i', i' < M.length ∧ ∃ w, M[i']? = some w ∧ w.2 = e := fun e he => by
  have h1 := byId_mem huq' he
  rw [g2] at h1
  obtain ⟨i', hi'⟩ := List.mem_iff_getElem?.1 ((atL_mem g1).2 h1)
  exact ⟨i', (List.getElem?_eq_some_iff.1 hi').1, _, hi', rfl⟩
 have f59 := (f57.trans f8).trans hf9
 have s8 := f8.size
 have b69 := ((b6.frame f7 fun h => h).frame f8 fun h => h).frame hf9 fun h => h
 have b79 := (b7.frame f8 fun h => h).frame hf9 fun h => h
 have bF9 := bF.frame hf9 fun h => h
 have bX9 := bX.frame hf9 fun h => h
 have hb9 := hb.frame f59 fun h => h
 have hbT := hT.below
 have lfb := hb.lt
 have lr1' := hm1.lt
 obtain ⟨p9, hp9⟩ : ∃ p9, p9 = H5.size := ⟨_, rfl⟩
 obtain ⟨p10, hp10⟩ : ∃ p10, p10 = H6.size := ⟨_, rfl⟩
 obtain ⟨k, hk⟩ : ∃ k, k = H8.size + 1 := ⟨_, rfl⟩
 have lX := bX.lt
 rw [← hp9] at b69 hR ⊢
 rw [← hp10] at b79 hR ⊢
 rw [← hk] at hl0 ⊢
 have nTs : ∀ c, H5.size ≤ c → ¬ Tt c := fun c hc h => by have := hbT c h; omega
 have cx1 := bX9.cellOf (i := 1) rfl
 rw [eu] at cx1
 refine crossing1_ok (H0 := H9) (F := woL F j) (x := y) (u0 := u0) (n := n) (t := t) (r1 := r1) (f := f) (M := M) (l2 := k) (MapL.frame (H := H5) (M := M) g4 f59 fun h => h) (fun i' e he => ?_) (hT.frame f59 fun _ _ h => h) eu hu0 (bF9.cellOf (i := 0) rfl) (hb9.cellOf (i := 1) rfl) (hb9.cellOf (i := 3) rfl) cx1 ⟨d4, d5, nTs _ (by omega), nTs _ (by omega)⟩
  (fun D H' => (∃ fd bst, Blk H' p9 (Ed.cells bst) ∧ Blk H' p10 [.bool fd] ∧ Bst M (woL F j) y D fd bst) ∧ H'[k]? = some (.loop r0) ∧ H'[H8.size]? = some (.deferred (some []))) (SJ := fun c => c = p9 ∨ c = p10 ∨ c = k) ?_ ?_ ?_ ?_ ?_ ?_
 ·obtain ⟨a, b, ea, eb, ha, hb, _⟩ := (hok' e.2 (hMl i' e he)).1
  exact ⟨a, b, ea, eb, ha, hb⟩
 ·rintro c (h | h | h)
  ·exact ⟨by omega, nTs _ (by omega), by omega, by omega, by omega, by omega⟩
  ·exact ⟨by omega, nTs _ (by omega), by omega, by omega, by omega, by omega⟩
  ·exact ⟨by omega, nTs _ (by omega), by omega, by omega, by omega, by omega⟩
 ·exact ⟨⟨false, Ed.zero, b69, b79, Bst.init⟩, hl0, hD⟩
 ·rintro D H' H'' ⟨⟨fd, bst, h1, h2, h3⟩, h4, h5⟩ hs hf
  have nn : ∀ c, (c = p9 ∨ c = p10 ∨ c = k ∨ c = H8.size) → ¬ (Tt c ∨ H9.size ≤ c) := fun c hc h => h.elim (nTs c (by omega)) fun h => by omega
  exact ⟨⟨fd, bst, h1.frame hf (nn _ (.inl rfl)), h2.frame hf (nn _ (.inr (.inl rfl))), h3⟩, by rw [hf.same _ (by omega) (nn _ (.inr (.inr (.inl rfl))))]; exact h4, by rw [hf.same _ (by omega) (nn _ (.inr (.inr (.inr rfl))))]; exact h5⟩
 ·rintro D i' x' H' hx' hc ⟨⟨fd, bst, h1, h2, h3⟩, h4, h5⟩
  exact ⟨⟨fd, bst, h1, h2, h3.skip hx' hc⟩, h4, h5⟩
 ·rintro D i' x' H' K' hx' hc ⟨⟨fd, bst, h1, h2, h3⟩, h4, h5⟩ hs hkk
  refine hp_roundB mixed [] hR h4 rfl (by simp) (by kernel_rfl) (by kernel_rfl) (fun e Hx => e 11 = .pointer (some ⟨H'.size, 0, none⟩) ∧ e 9 = .pointer (some ⟨p9, 0, none⟩) ∧ e 10 = .pointer (some ⟨p10, 0, none⟩) ∧ Blk Hx H'.size x'.2.cells ∧ Fr (fun _ => False) H' Hx) ?_ ?_
  ·rw [show (#[45].zip #[x'.2.val]).toList = [(45, x'.2.val)] from by simp [Array.toList_zip]]
   simp only [List.foldl_cons, List.foldl_nil, Ed.val]
   repeat' (first|(with_reducible first|refine jA ?_|(refine hK _ _ ?_;clear hK K)|refine jJ fun K hK=>?_|refine jK ?_|refine jL ?_|refine jM ?_|refine jN ?_|refine jO ?_|refine jP ?_|refine jQ ?_|(refine jB ?_;clear hK K)|(refine jC ?_;clear hK K)|refine jD ?_|refine jE ?_|refine jG ?_|refine jH ?_|refine jI ?_)|((with_reducible refine jR ?hq ?_);case hq=>rfl)|((first|(with_reducible first|refine jS fun K hK=>?_|refine jT ?_|refine jU ?_)|((with_reducible refine jV ?hy fun K hK=>?_);case hy=>rfl));simp only [go_sem, Nat.reduceEqDiff, Nat.reduceAdd, Nat.reduceMul, Nat.reduceLeDiff, Nat.reduceLT, Int.reduceLT, Int.reduceLE, Int.reduceEq, Int.reduceNeg, Int.reduceToNat, Nat.reducePow, reduceIte, reduceCtorEq, hcell_push, hcell_top, okW_push, okW_top, hcell_hset_ne, hcell_hset_off, hcell_hset_eq, okW_hset, hset_size, Array.size_push, Nat.lt_add_one, ne_add_one, add_one_ne, Nat.add_assoc, add_same, add_lt_same, Nat.reduceEqDiff, lt_add_k, add_k_ne, ne_add_k])|((with_reducible first|refine jW ?hy ?_|refine jY ?hy ?_);case hy=>rfl)|((with_reducible first|refine jX ?hy ?_|refine jZ ?hy ?_);case hy=>rfl)|((with_reducible refine jF ?hy ?_);case hy=>decide))
   obtain ⟨b4, f4⟩ := edge_box (H := H') x'.2 (T0 := 30)
   exact ⟨rfl, by rw [f4.same _ (by omega) (fun h => h)]; exact h4, rfl, rfl, rfl, b4, f4⟩
  ·rintro e1 Hy ⟨j11, j9, j10, bx, fy⟩
   have sy := fy.size
   have hfb : Fr (· = k) Hy (Hy.setIfInBounds k (.loop (busy r0))) := setIB_fr _ _ _
   have hlb : (Hy.setIfInBounds k (.loop (busy r0)))[k]? = some (.loop (busy r0)) := by rw [Array.getElem?_setIfInBounds_self_of_lt (by omega)]
   have fyb : Fr (fun c => c = p9 ∨ c = p10 ∨ c = k) H' (Hy.setIfInBounds k (.loop (busy r0))) := (fy.mono fun _ _ h => h.elim).trans (hfb.mono fun c _ e => .inr (.inr e))
   have bx := bx.frame hfb (by omega)
   have h1 := (h1.frame fy fun h => h).frame hfb (by omega)
   have h2 := (h2.frame fy fun h => h).frame hfb (by omega)
   have h5b : (Hy.setIfInBounds k (.loop (busy r0)))[H8.size]? = some (.deferred (some [])) := by rw [hfb.same _ (by omega) (by omega), fy.same _ (by omega) (fun h => h)]; exact h5
   generalize Hy.setIfInBounds k (.loop (busy r0)) = Hb at hfb hlb fyb bx h1 h2 h5b ⊢
   have sb := hfb.size
   have fend : ∀ (e2 : Env) (Hz : Heap) (fd : Bool) (bst : Ed), Blk Hz p9 (Ed.cells bst) → Blk Hz p10 [.bool fd] → Bst M (woL F j) y (i' :: D) fd bst → Fr (fun c => c = p9 ∨ c = p10) Hb Hz → roundQ k r0 K' .normal e2 Hz := fun e2 Hz fd bst q1 q2 q3 hf => by
    have sz := hf.size
    have hlz : Hz[k]? = some (.loop (busy r0)) := by rw [hf.same _ (by omega) (by omega)]; exact hlb
    have h5z : Hz[H8.size]? = some (.deferred (some [])) := by rw [hf.same _ (by omega) (by omega)]; exact h5b
    have f9 := setIB_fr Hz k (.loop r0)
    refine roundQ_normal hR hlz (hkk _ ⟨⟨fd, bst, q1.frame f9 (by omega), q2.frame f9 (by omega), q3⟩, by rw [Array.getElem?_setIfInBounds_self_of_lt (by omega)], by rw [f9.same _ (by omega) (by omega)]; exact h5z⟩ ?_)
    exact (fyb.trans (hf.mono fun c _ h => h.elim .inl fun h => .inr (.inl h))).trans (f9.mono fun c _ e => .inr (.inr e))
   have cfd := h2.cellOf (i := 0) rfl
   have c0 := h1.cellOf (i := 0) rfl
   have c1 := h1.cellOf (i := 1) rfl
   have c2 := h1.cellOf (i := 2) rfl
   have c3 := h1.cellOf (i := 3) rfl
   have x0 := bx.cellOf (i := 0) rfl
   have x1 := bx.cellOf (i := 1) rfl
   have x2 := bx.cellOf (i := 2) rfl
   have x3 := bx.cellOf (i := 3) rfl
   cases fd with
   | false =>
    obtain ⟨e3, g3⟩ := store4 (h1) (.int .i64 x'.2.id) (.int .i64 x'.2.u) (.int .i64 x'.2.v) (.int .i64 x'.2.w)
    have o0 := (h1).okW (i := 0) (by simp [Ed.cells])
    have o1 := (h1).okW (i := 1) (by simp [Ed.cells])
    have o2 := (h1).okW (i := 2) (by simp [Ed.cells])
    have o3 := (h1).okW (i := 3) (by simp [Ed.cells])
    have o4 := (h2).okW (i := 0) (by simp)
    have g4 : ∀ Hq : Heap, Fr (· = p10) Hq (hset Hq ⟨p10, 0, none⟩ (.bool true)) := fun Hq => Fr.set (S := (· = p10)) (a := ⟨p10, 0, none⟩) (Fr.refl _ _) (.inl rfl) _
    have e4 := ((h2).frame g3 (by omega)).set_same 0 (.bool true)
    repeat' (first|(with_reducible first|refine jA ?_|(refine hK _ _ ?_;clear hK K)|refine jJ fun K hK=>?_|refine jK ?_|refine jL ?_|refine jM ?_|refine jN ?_|refine jO ?_|refine jP ?_|refine jQ ?_|(refine jB ?_;clear hK K)|(refine jC ?_;clear hK K)|refine jD ?_|refine jE ?_|refine jG ?_|refine jH ?_|refine jI ?_)|((with_reducible refine jR ?hq ?_);case hq=>rfl)|((first|(with_reducible first|refine jS fun K hK=>?_|refine jT ?_|refine jU ?_)|((with_reducible refine jV ?hy fun K hK=>?_);case hy=>rfl));simp only [go_sem, Nat.reduceEqDiff, Nat.reduceAdd, Nat.reduceMul, Nat.reduceLeDiff, Nat.reduceLT, Int.reduceLT, Int.reduceLE, Int.reduceEq, Int.reduceNeg, Int.reduceToNat, Nat.reducePow, reduceIte, reduceCtorEq, j9, j10, j11, cfd, x0, x1, x2, x3, Bool.not_false, o0, o1, o2, o3, o4, hcell_push, hcell_top, okW_push, okW_top, hcell_hset_ne, hcell_hset_off, hcell_hset_eq, okW_hset, hset_size, Array.size_push, Nat.lt_add_one, ne_add_one, add_one_ne, Nat.add_assoc, add_same, add_lt_same, Nat.reduceEqDiff, lt_add_k, add_k_ne, ne_add_k])|((with_reducible first|refine jW ?hy ?_|refine jY ?hy ?_);case hy=>rfl)|((with_reducible first|refine jX ?hy ?_|refine jZ ?hy ?_);case hy=>rfl)|((with_reducible refine jF ?hy ?_);case hy=>decide))
    exact fend _ _ true x'.2 (e3.frame (g4 _) (by omega)) e4 (h3.take hx' hc (fun h => by cases h)) ((g3.mono fun c _ e => .inl e).trans ((g4 _).mono fun c _ e => .inr e))
   | true =>
    repeat' (first|(with_reducible first|refine jA ?_|(refine hK _ _ ?_;clear hK K)|refine jJ fun K hK=>?_|refine jK ?_|refine jL ?_|refine jM ?_|refine jN ?_|refine jO ?_|refine jP ?_|refine jQ ?_|(refine jB ?_;clear hK K)|(refine jC ?_;clear hK K)|refine jD ?_|refine jE ?_|refine jG ?_|refine jH ?_|refine jI ?_)|((with_reducible refine jR ?hq ?_);case hq=>rfl)|((first|(with_reducible first|refine jS fun K hK=>?_|refine jT ?_|refine jU ?_)|((with_reducible refine jV ?hy fun K hK=>?_);case hy=>rfl));simp only [go_sem, Nat.reduceEqDiff, Nat.reduceAdd, Nat.reduceMul, Nat.reduceLeDiff, Nat.reduceLT, Int.reduceLT, Int.reduceLE, Int.reduceEq, Int.reduceNeg, Int.reduceToNat, Nat.reducePow, reduceIte, reduceCtorEq, j9, j10, j11, cfd, c0, c1, c2, c3, x0, x1, x2, x3, Bool.not_true])|((with_reducible first|refine jW ?hy ?_|refine jY ?hy ?_);case hy=>rfl)|((with_reducible first|refine jX ?hy ?_|refine jZ ?hy ?_);case hy=>rfl)|((with_reducible refine jF ?hy ?_);case hy=>decide))
    refine mheavier_ok (a := bst) (b := x'.2) fun HA fA => ?_
    have h1A := h1.frame fA fun h => h
    have h2A := h2.frame fA fun h => h
    have bxA := bx.frame fA fun h => h
    have x0 := bxA.cellOf (i := 0) rfl
    have x1 := bxA.cellOf (i := 1) rfl
    have x2 := bxA.cellOf (i := 2) rfl
    have x3 := bxA.cellOf (i := 3) rfl
    cases hh : heavy bst x'.2 with
    | false =>
     repeat' (first|(with_reducible first|refine jA ?_|(refine hK _ _ ?_;clear hK K)|refine jJ fun K hK=>?_|refine jK ?_|refine jL ?_|refine jM ?_|refine jN ?_|refine jO ?_|refine jP ?_|refine jQ ?_|(refine jB ?_;clear hK K)|(refine jC ?_;clear hK K)|refine jD ?_|refine jE ?_|refine jG ?_|refine jH ?_|refine jI ?_)|((with_reducible refine jR ?hq ?_);case hq=>rfl)|((first|(with_reducible first|refine jS fun K hK=>?_|refine jT ?_|refine jU ?_)|((with_reducible refine jV ?hy fun K hK=>?_);case hy=>rfl));simp only [go_sem, Nat.reduceEqDiff, Nat.reduceAdd, Nat.reduceMul, Nat.reduceLeDiff, Nat.reduceLT, Int.reduceLT, Int.reduceLE, Int.reduceEq, Int.reduceNeg, Int.reduceToNat, Nat.reducePow, reduceIte, reduceCtorEq])|((with_reducible first|refine jW ?hy ?_|refine jY ?hy ?_);case hy=>rfl)|((with_reducible first|refine jX ?hy ?_|refine jZ ?hy ?_);case hy=>rfl)|((with_reducible refine jF ?hy ?_);case hy=>decide))
     refine fend _ HA true bst h1A h2A (h3.stay hx' ?_) (fA.mono fun _ _ h => h.elim)
     by_cases heq : x'.2 = bst
     ·exact .inl heq
     ·obtain ⟨⟨kk, hkk', ee, hee, rfl, _⟩, _⟩ := h3.yes rfl
      exact .inr (((uq_of huq').cmp (hMl i' x' hx') (hMl kk ee hee) heq).resolve_right (by rw [hh]; decide))
    | true =>
     obtain ⟨e3, g3⟩ := store4 (h1A) (.int .i64 x'.2.id) (.int .i64 x'.2.u) (.int .i64 x'.2.v) (.int .i64 x'.2.w)
     have o0 := (h1A).okW (i := 0) (by simp [Ed.cells])
     have o1 := (h1A).okW (i := 1) (by simp [Ed.cells])
     have o2 := (h1A).okW (i := 2) (by simp [Ed.cells])
     have o3 := (h1A).okW (i := 3) (by simp [Ed.cells])
     have o4 := (h2A).okW (i := 0) (by simp)
     have g4 : ∀ Hq : Heap, Fr (· = p10) Hq (hset Hq ⟨p10, 0, none⟩ (.bool true)) := fun Hq => Fr.set (S := (· = p10)) (a := ⟨p10, 0, none⟩) (Fr.refl _ _) (.inl rfl) _
     have e4 := ((h2A).frame g3 (by omega)).set_same 0 (.bool true)
     repeat' (first|(with_reducible first|refine jA ?_|(refine hK _ _ ?_;clear hK K)|refine jJ fun K hK=>?_|refine jK ?_|refine jL ?_|refine jM ?_|refine jN ?_|refine jO ?_|refine jP ?_|refine jQ ?_|(refine jB ?_;clear hK K)|(refine jC ?_;clear hK K)|refine jD ?_|refine jE ?_|refine jG ?_|refine jH ?_|refine jI ?_)|((with_reducible refine jR ?hq ?_);case hq=>rfl)|((first|(with_reducible first|refine jS fun K hK=>?_|refine jT ?_|refine jU ?_)|((with_reducible refine jV ?hy fun K hK=>?_);case hy=>rfl));simp only [go_sem, Nat.reduceEqDiff, Nat.reduceAdd, Nat.reduceMul, Nat.reduceLeDiff, Nat.reduceLT, Int.reduceLT, Int.reduceLE, Int.reduceEq, Int.reduceNeg, Int.reduceToNat, Nat.reducePow, reduceIte, reduceCtorEq, j9, j10, j11, x0, x1, x2, x3, o0, o1, o2, o3, o4, hcell_push, hcell_top, okW_push, okW_top, hcell_hset_ne, hcell_hset_off, hcell_hset_eq, okW_hset, hset_size, Array.size_push, Nat.lt_add_one, ne_add_one, add_one_ne, Nat.add_assoc, add_same, add_lt_same, Nat.reduceEqDiff, lt_add_k, add_k_ne, ne_add_k])|((with_reducible first|refine jW ?hy ?_|refine jY ?hy ?_);case hy=>rfl)|((with_reducible first|refine jX ?hy ?_|refine jZ ?hy ?_);case hy=>rfl)|((with_reducible refine jF ?hy ?_);case hy=>decide))
     exact fend _ _ true x'.2 (e3.frame (g4 _) (by omega)) e4 (h3.take hx' hc (fun _ => hh)) ((fA.mono fun _ _ h => h.elim).trans ((g3.mono fun c _ e => .inl e).trans ((g4 _).mono fun c _ e => .inr e)))
 ·rintro Hz D ⟨⟨fd, bst, h1, h2, h3⟩, h4, h5⟩ hTz hall hlt hfz
  refine ⟨h4, ?_⟩
  have sz := hfz.size
  have nn : ∀ c, (c = f ∨ c = r1 ∨ c = r2) → ¬ ((c = p9 ∨ c = p10 ∨ c = k) ∨ Tt c) := fun c hc h => by
   have lr2' := hm2.lt
   rcases h with h | h
   ·omega
   ·rcases hc with rfl | rfl | rfl
    ·exact d4 h
    ·exact d5 h
    ·exact d6 h
  have f6z := setIB_fr Hz k (.loop { r0 with state := .exhausted })
  have hMz : MxM Hz f T5 n (byId (woL l i)) (woL l i).length (woL F j) :=
   ⟨r1, r2, t, Tt, k2, hb9.frame hfz (nn _ (.inl rfl)), (hm1.frame f59 fun h => h).frame hfz (nn _ (.inr (.inl rfl))), (hB1.frame f59 fun h => h).frame hfz (nn _ (.inr (.inl rfl))), (hm2.frame f59 fun h => h).frame hfz (nn _ (.inr (.inr rfl))), (hB2.frame f59 fun h => h).frame hfz (nn _ (.inr (.inr rfl))), hTz, ⟨d1, d2, d3⟩, ⟨d4, d5, d6⟩, he⟩
  have hMy := hMz.frame f6z fun c hc (e : c = k) => by have := hbel5 c hc; omega
  have h1 := h1.frame f6z (by omega)
  have h2 := h2.frame f6z (by omega)
  have h5 : (Hz.setIfInBounds k (.loop { r0 with state := .exhausted }))[H8.size]? = some (.deferred (some [])) := by rw [f6z.same _ (by omega) (by omega)]; exact h5
  have sTT : ∀ c, Tt c → T5 c := fun c hc => (he c).2 (.inr (.inr (.inr hc)))
  have f0y : Fr T H (Hz.setIfInBounds k (.loop { r0 with state := .exhausted })) := ((f05.trans (f59.mono (S' := T) fun _ _ h => h.elim)).trans' hfz fun c hc h => by
   rcases h with h | h
   ·omega
   ·exact (hT5' c (sTT c h)).elim id fun h => by omega).trans' f6z fun c hc (e : c = k) => by omega
  generalize Hz.setIfInBounds k (.loop { r0 with state := .exhausted }) = Hy at f6z hMy h1 h2 h5 f0y ⊢
  have sy := f6z.size
  have hF5 : ∀ e, e ∈ woL F j ↔ e ∈ F ∧ e ≠ y := fun e => mem_wo hp.fn hj
  have cfd := h2.cellOf (i := 0) rfl
  refine top_seq (top_of mixed [] (by kernel_rfl) ?_)
  repeat' (first|(with_reducible first|refine jA ?_|(refine hK _ _ ?_;clear hK K)|refine jJ fun K hK=>?_|refine jK ?_|refine jL ?_|refine jM ?_|refine jN ?_|refine jO ?_|refine jP ?_|refine jQ ?_|(refine jB ?_;clear hK K)|(refine jC ?_;clear hK K)|refine jD ?_|refine jE ?_|refine jG ?_|refine jH ?_|refine jI ?_)|((with_reducible refine jR ?hq ?_);case hq=>rfl)|((first|(with_reducible first|refine jS fun K hK=>?_|refine jT ?_|refine jU ?_)|((with_reducible refine jV ?hy fun K hK=>?_);case hy=>rfl));simp only [go_sem, Nat.reduceEqDiff, Nat.reduceAdd, Nat.reduceMul, Nat.reduceLeDiff, Nat.reduceLT, Int.reduceLT, Int.reduceLE, Int.reduceEq, Int.reduceNeg, Int.reduceToNat, Nat.reducePow, reduceIte, reduceCtorEq, cfd])|((with_reducible first|refine jW ?hy ?_|refine jY ?hy ?_);case hy=>rfl)|((with_reducible first|refine jX ?hy ?_|refine jZ ?hy ?_);case hy=>rfl)|((with_reducible refine jF ?hy ?_);case hy=>decide))
  cases fd with
  | false =>
   have hno : ∀ e ∈ woL l i, ¬ Cross (In F) y e := fun e he => by
    obtain ⟨i', hi', w, hw, rfl⟩ := hMr e he
    rw [← cross_iff hp.fn hj]
    exact h3.no rfl i' (hall i' hi') w hw
   have hpF : Fp n (woL l i) (woL F j) := ⟨hp.n1, hp.n64, huq', hok', hlen', (hp.msf.less_none (uq_of hp.uq) hmem hyF hno).congr (fun _ => Iff.rfl) fun e => ((hF5 e).symm : _), (woL_nodup hj hp.fn).1⟩
   repeat' (first|(with_reducible first|refine jA ?_|(refine hK _ _ ?_;clear hK K)|refine jJ fun K hK=>?_|refine jK ?_|refine jL ?_|refine jM ?_|refine jN ?_|refine jO ?_|refine jP ?_|refine jQ ?_|(refine jB ?_;clear hK K)|(refine jC ?_;clear hK K)|refine jD ?_|refine jE ?_|refine jG ?_|refine jH ?_|refine jI ?_)|((with_reducible refine jR ?hq ?_);case hq=>rfl)|((first|(with_reducible first|refine jS fun K hK=>?_|refine jT ?_|refine jU ?_)|((with_reducible refine jV ?hy fun K hK=>?_);case hy=>rfl));simp only [go_sem, Nat.reduceEqDiff, Nat.reduceAdd, Nat.reduceMul, Nat.reduceLeDiff, Nat.reduceLT, Int.reduceLT, Int.reduceLE, Int.reduceEq, Int.reduceNeg, Int.reduceToNat, Nat.reducePow, reduceIte, reduceCtorEq])|((with_reducible first|refine jW ?hy ?_|refine jY ?hy ?_);case hy=>rfl)|((with_reducible first|refine jX ?hy ?_|refine jZ ?hy ?_);case hy=>rfl)|((with_reducible refine jF ?hy ?_);case hy=>decide))
   intro hx_; clear hx_
   refine top_of mixed [] (by kernel_rfl) ?_
   repeat' (first|(with_reducible first|refine jA ?_|(refine hK _ _ ?_;clear hK K)|refine jJ fun K hK=>?_|refine jK ?_|refine jL ?_|refine jM ?_|refine jN ?_|refine jO ?_|refine jP ?_|refine jQ ?_|(refine jB ?_;clear hK K)|(refine jC ?_;clear hK K)|refine jD ?_|refine jE ?_|refine jG ?_|refine jH ?_|refine jI ?_)|((with_reducible refine jR ?hq ?_);case hq=>rfl)|((first|(with_reducible first|refine jS fun K hK=>?_|refine jT ?_|refine jU ?_)|((with_reducible refine jV ?hy fun K hK=>?_);case hy=>rfl));simp only [go_sem, Nat.reduceEqDiff, Nat.reduceAdd, Nat.reduceMul, Nat.reduceLeDiff, Nat.reduceLT, Int.reduceLT, Int.reduceLE, Int.reduceEq, Int.reduceNeg, Int.reduceToNat, Nat.reducePow, reduceIte, reduceCtorEq])|((with_reducible first|refine jW ?hy ?_|refine jY ?hy ?_);case hy=>rfl)|((with_reducible first|refine jX ?hy ?_|refine jZ ?hy ?_);case hy=>rfl)|((with_reducible refine jF ?hy ?_);case hy=>decide))
   intro hx_; clear hx_
   refine ⟨⟨h5, trivial⟩, ?_⟩
   have f8z := setIB_fr Hy H8.size (.deferred none)
   show L (.int .i64 0) _
   exact fin _ T5 (woL F j) ⟨hMy.frame f8z fun c hc (e : c = H8.size) => by have := hbel5 c hc; omega, hpF⟩ (.inr (.inr (.inl ⟨j, y, hj, rfl⟩))) (f0y.trans' f8z fun c hc (e : c = H8.size) => by omega) hT5'
  | true =>
   obtain ⟨⟨ib, hib, eb, heb, rfl, hcb⟩, hmin⟩ := h3.yes rfl
   have hbl := hMl ib eb heb
   have hokb := hok' _ hbl
   obtain ⟨⟨a, b, ea, ebb, ha, hb', hab⟩, hargb⟩ := hokb
   have hcr := (cross_iff hp.fn hj).1 hcb
   have hwb := (hok' _ hbl).w
   obtain ⟨⟨bk, bd⟩, hbd⟩ : ∃ z : Int × Ed, z = eb := ⟨eb, rfl⟩
   subst hbd
   obtain ⟨bi, bu, bv, bw⟩ := bd
   simp only at ea ebb hargb hbl hcb hcr hmin hwb h1
   subst ea ebb
   have hpF : Fp n (woL l i) (woL F j ++ [⟨bi, (a : Nat), (b : Nat), bw⟩]) := by
    refine ⟨hp.n1, hp.n64, huq', hok', hlen', (hp.msf.less_best (uq_of hp.uq) hmem hyF hbl hcr fun e he hce => ?_).congr (fun _ => Iff.rfl) fun e => ?_, ?_⟩
    ·obtain ⟨i', hi', w, hw, rfl⟩ := hMr e he
     exact hmin i' (hall i' hi') w hw ((cross_iff hp.fn hj).2 hce)
    ·unfold In
     rw [List.mem_append, hF5, List.mem_singleton]
    ·rw [List.map_append, List.nodup_append]
     refine ⟨(woL_nodup hj hp.fn).1, by simp, fun p hp1 q hq1 e => ?_⟩
     obtain ⟨z, hz, rfl⟩ := List.mem_map.1 hp1
     simp at hq1
     have hzF := (hF5 z).1 hz
     have := uq_of huq' z ((hmem z).2 ⟨hp.sub z hzF.1, hzF.2⟩) _ hbl (e.trans hq1)
     exact cross_no hcb (by rw [← this]; exact Cn.edge hz)
   have hnid : ∀ e ∈ woL F j, e.id ≠ bi := fun e he h => by
    have hzF := (hF5 e).1 he
    have := uq_of huq' e ((hmem e).2 ⟨hp.sub e hzF.1, hzF.2⟩) _ hbl h
    exact cross_no hcb (by rw [← this]; exact Cn.edge he)
   have hcn : ¬ Cn (In (woL F j)) a b := fun k => cross_no hcb (by simpa using k)
   have c0 := h1.cellOf (i := 0) rfl
   have c1 := h1.cellOf (i := 1) rfl
   have c2 := h1.cellOf (i := 2) rfl
   have c3 := h1.cellOf (i := 3) rfl
   repeat' (first|(with_reducible first|refine jA ?_|(refine hK _ _ ?_;clear hK K)|refine jJ fun K hK=>?_|refine jK ?_|refine jL ?_|refine jM ?_|refine jN ?_|refine jO ?_|refine jP ?_|refine jQ ?_|(refine jB ?_;clear hK K)|(refine jC ?_;clear hK K)|refine jD ?_|refine jE ?_|refine jG ?_|refine jH ?_|refine jI ?_)|((with_reducible refine jR ?hq ?_);case hq=>rfl)|((first|(with_reducible first|refine jS fun K hK=>?_|refine jT ?_|refine jU ?_)|((with_reducible refine jV ?hy fun K hK=>?_);case hy=>rfl));simp only [go_sem, Nat.reduceEqDiff, Nat.reduceAdd, Nat.reduceMul, Nat.reduceLeDiff, Nat.reduceLT, Int.reduceLT, Int.reduceLE, Int.reduceEq, Int.reduceNeg, Int.reduceToNat, Nat.reducePow, reduceIte, reduceCtorEq, c0, c1, c2, c3])|((with_reducible first|refine jW ?hy ?_|refine jY ?hy ?_);case hy=>rfl)|((with_reducible first|refine jX ?hy ?_|refine jZ ?hy ?_);case hy=>rfl)|((with_reducible refine jF ?hy ?_);case hy=>decide))
   refine take_ok hMy ha hb' hargb hnid hcn (by rw [sum_wo hj]; omega) fun HA TA hMA hfA hTA => ?_
   repeat' (first|(with_reducible first|refine jA ?_|(refine hK _ _ ?_;clear hK K)|refine jJ fun K hK=>?_|refine jK ?_|refine jL ?_|refine jM ?_|refine jN ?_|refine jO ?_|refine jP ?_|refine jQ ?_|(refine jB ?_;clear hK K)|(refine jC ?_;clear hK K)|refine jD ?_|refine jE ?_|refine jG ?_|refine jH ?_|refine jI ?_)|((with_reducible refine jR ?hq ?_);case hq=>rfl)|((first|(with_reducible first|refine jS fun K hK=>?_|refine jT ?_|refine jU ?_)|((with_reducible refine jV ?hy fun K hK=>?_);case hy=>rfl));simp only [go_sem, Nat.reduceEqDiff, Nat.reduceAdd, Nat.reduceMul, Nat.reduceLeDiff, Nat.reduceLT, Int.reduceLT, Int.reduceLE, Int.reduceEq, Int.reduceNeg, Int.reduceToNat, Nat.reducePow, reduceIte, reduceCtorEq])|((with_reducible first|refine jW ?hy ?_|refine jY ?hy ?_);case hy=>rfl)|((with_reducible first|refine jX ?hy ?_|refine jZ ?hy ?_);case hy=>rfl)|((with_reducible refine jF ?hy ?_);case hy=>decide))
   intro hx_; clear hx_
   refine top_of mixed [] (by kernel_rfl) ?_
   repeat' (first|(with_reducible first|refine jA ?_|(refine hK _ _ ?_;clear hK K)|refine jJ fun K hK=>?_|refine jK ?_|refine jL ?_|refine jM ?_|refine jN ?_|refine jO ?_|refine jP ?_|refine jQ ?_|(refine jB ?_;clear hK K)|(refine jC ?_;clear hK K)|refine jD ?_|refine jE ?_|refine jG ?_|refine jH ?_|refine jI ?_)|((with_reducible refine jR ?hq ?_);case hq=>rfl)|((first|(with_reducible first|refine jS fun K hK=>?_|refine jT ?_|refine jU ?_)|((with_reducible refine jV ?hy fun K hK=>?_);case hy=>rfl));simp only [go_sem, Nat.reduceEqDiff, Nat.reduceAdd, Nat.reduceMul, Nat.reduceLeDiff, Nat.reduceLT, Int.reduceLT, Int.reduceLE, Int.reduceEq, Int.reduceNeg, Int.reduceToNat, Nat.reducePow, reduceIte, reduceCtorEq])|((with_reducible first|refine jW ?hy ?_|refine jY ?hy ?_);case hy=>rfl)|((with_reducible first|refine jX ?hy ?_|refine jZ ?hy ?_);case hy=>rfl)|((with_reducible refine jF ?hy ?_);case hy=>decide))
   intro hx_; clear hx_
   have sA := hfA.size
   have h5A : HA[H8.size]? = some (.deferred (some [])) := by rw [hfA.same _ (by omega) (fun h => by have := hbel5 _ h; omega)]; exact h5
   refine ⟨⟨h5A, trivial⟩, ?_⟩
   have f8z := setIB_fr HA H8.size (.deferred none)
   have nTA : ¬ TA H8.size := fun h => (hTA _ h).elim (fun h => by have := hbel5 _ h; omega) fun h => by omega
   show L (.int .i64 0) _
   refine fin _ TA _ ⟨hMA.frame f8z fun c hc (e : c = H8.size) => nTA (e ▸ hc), hpF⟩ (.inr (.inr (.inr ⟨j, y, _, hj, rfl⟩))) ((f0y.trans' hfA fun c hc h => (hT5' c h).elim id fun h => by omega).trans' f8z fun c hc (e : c = H8.size) => by omega) fun c hc => ?_
   rcases hTA c hc with h | h
   ·exact hT5' c h
   ·exact .inr (by omega)
end
end Go.Proofs.Ytafehbegoanajaa
namespace Go.Br
open Go Go.Hp Go.Li
set_option linter.unusedVariables false
theorem add_add (a : Addr) (m n : Nat) : (a.add m).add n = a.add (m + n) := by
 unfold Addr.add
 by_cases h1 : m = 0
 ·subst h1; simp
 ·by_cases h2 : n = 0
  ·subst h2; simp
  ·rw [if_neg h1, if_neg h2, if_neg (by omega)]
   simp only [Addr.mk.injEq, and_true, true_and]
   omega
theorem add_succ' (q : Addr) (n : Nat) : q.add (n + 1) = ⟨q.block, q.off + (n + 1), none⟩ := by
 unfold Addr.add; rw [if_neg (by omega)]
theorem add_block (q : Addr) (n : Nat) : (q.add n).block = q.block := by
 unfold Addr.add; split <;> rfl
structure RawE (H : Heap) (a : Option Addr) (c : Nat) (ys : List Ed) : Prop where
 cap : ys.length ≤ c
 nil : a = none → c = 0
 cells : ∀ i x, ys[i]? = some x → ∃ q, a = some q ∧ ∀ j v, x.cells[j]? = some v → hcell H (q.add (i * 4 + j)) = some v
theorem RawE.frame {H H' : Heap} {a : Option Addr} {c : Nat} {ys : List Ed} (h : RawE H a c ys) (hf : Fr (fun _ => False) H H') : RawE H' a c ys :=
 ⟨h.cap, h.nil, fun i x hx => by
  obtain ⟨q, h1, h2⟩ := h.cells i x hx
  exact ⟨q, h1, fun j v hj => by have := h2 j v hj; rw [hf.cell (hcell_lt this) (fun h => h)]; exact this⟩⟩
theorem RawE.at {H : Heap} {a : Option Addr} {c : Nat} {ys : List Ed} (h : RawE H a c ys) {i : Nat} {x : Ed} (hx : ys[i]? = some x) : ∃ q, a = some q ∧ q.block < H.size ∧ EdAt H (q.add (i * 4)) x := by
 obtain ⟨q, h1, h2⟩ := h.cells i x hx
 have c0 := h2 0 _ rfl
 refine ⟨q, h1, by have := hcell_lt c0; rwa [add_block] at this, c0, ?_, ?_, ?_⟩
 ·have := h2 1 _ rfl; rwa [← add_add, add_succ'] at this
 ·have := h2 2 _ rfl; rwa [← add_add, add_succ'] at this
 ·have := h2 3 _ rfl; rwa [← add_add, add_succ'] at this
def FitE (e : Ed) : Prop := ((-9223372036854775808 ≤ e.id ∧ e.id ≤ 9223372036854775807) ∧ -9223372036854775808 ≤ e.u ∧ e.u ≤ 9223372036854775807) ∧ (-9223372036854775808 ≤ e.v ∧ e.v ≤ 9223372036854775807) ∧ -9223372036854775808 ≤ e.w ∧ e.w ≤ 9223372036854775807
def InEds (H : Heap) (a : Option Addr) (len c : Nat) (zs : Nat → Ed) : Prop := RawE H a c ((List.range len).map zs) ∧ ∀ i, i < len → FitE (zs i)
theorem InEds.frame {H H' : Heap} {a : Option Addr} {len c : Nat} {zs : Nat → Ed} (h : InEds H a len c zs) (hf : Fr (fun _ => False) H H') : InEds H' a len c zs := ⟨h.1.frame hf, h.2⟩
theorem InEds.at {H : Heap} {a : Option Addr} {len c : Nat} {zs : Nat → Ed} (h : InEds H a len c zs) {i : Nat} (hi : i < len) : ∃ q, a = some q ∧ EdAt H (q.add (i * 4)) (zs i) := by
 obtain ⟨q, h1, _, h2⟩ := h.1.at (i := i) (x := zs i) (by rw [List.getElem?_map, List.getElem?_range hi]; rfl)
 exact ⟨q, h1, h2⟩
end Go.Br
namespace Go.Proofs.Ytafehbegoanajaa.Pkisthmuslaw07
open Go Go.Hp
set_option linter.all false
set_option maxRecDepth 100000

theorem pick_ok {H : Heap} {c n : Int} {K : Value → Heap → Prop} (h0 : -9223372036854775808 ≤ c) (h1 : c ≤ 9223372036854775807) (hn : 0 < n) (hk : K (.int .i64 (pickN c n)) H) :
  CallsH Try.prog 10 #[.int .i64 c, .int .i64 n] H K := by
 have en : (n = 0) = False := by simp; omega
 refine call10 (by simp) ?_
 simp only [Try.f10, Option.getD_some]
 by_cases hc : c < 0
 ·have e1 : (c < 0) = True := by simp [hc]
  have e2 : IntKind.i64.wrap (c + 1) = c + 1 := wrap_i64 (by omega) (by omega)
  have e3 : IntKind.i64.wrap (0 - (c + 1)) = -(c + 1) := by rw [wrap_i64] <;> omega
  have e4 : (-(c + 1)).tmod n = pickN c n := by
   unfold pickN
   rw [if_pos hc, Int.tmod_eq_emod_of_nonneg (by omega)]
  repeat' (first|(with_reducible first|refine jA ?_|(refine hK _ _ ?_;clear hK K)|refine jJ fun K hK=>?_|refine jK ?_|refine jL ?_|refine jM ?_|refine jN ?_|refine jO ?_|refine jP ?_|refine jQ ?_|(refine jB ?_;clear hK K)|(refine jC ?_;clear hK K)|refine jD ?_|refine jE ?_|refine jG ?_|refine jH ?_|refine jI ?_)|((with_reducible refine jR ?hq ?_);case hq=>rfl)|((first|(with_reducible first|refine jS fun K hK=>?_|refine jT ?_|refine jU ?_)|((with_reducible refine jV ?hy fun K hK=>?_);case hy=>rfl));simp only [go_sem, Nat.reduceEqDiff, Nat.reduceAdd, Nat.reduceMul, Nat.reduceLeDiff, Nat.reduceLT, Int.reduceLT, Int.reduceLE, Int.reduceEq, Int.reduceNeg, Int.reduceToNat, Nat.reducePow, reduceIte, reduceCtorEq, e1, e2, e3, e4, en])|((with_reducible first|refine jW ?hy ?_|refine jY ?hy ?_);case hy=>rfl)|((with_reducible first|refine jX ?hy ?_|refine jZ ?hy ?_);case hy=>rfl)|((with_reducible refine jF ?hy ?_);case hy=>decide))
  exact hk
 ·have e1 : (c < 0) = False := by simp [hc]
  have e4 : c.tmod n = pickN c n := by
   unfold pickN
   rw [if_neg hc, Int.tmod_eq_emod_of_nonneg (by omega)]
  repeat' (first|(with_reducible first|refine jA ?_|(refine hK _ _ ?_;clear hK K)|refine jJ fun K hK=>?_|refine jK ?_|refine jL ?_|refine jM ?_|refine jN ?_|refine jO ?_|refine jP ?_|refine jQ ?_|(refine jB ?_;clear hK K)|(refine jC ?_;clear hK K)|refine jD ?_|refine jE ?_|refine jG ?_|refine jH ?_|refine jI ?_)|((with_reducible refine jR ?hq ?_);case hq=>rfl)|((first|(with_reducible first|refine jS fun K hK=>?_|refine jT ?_|refine jU ?_)|((with_reducible refine jV ?hy fun K hK=>?_);case hy=>rfl));simp only [go_sem, Nat.reduceEqDiff, Nat.reduceAdd, Nat.reduceMul, Nat.reduceLeDiff, Nat.reduceLT, Int.reduceLT, Int.reduceLE, Int.reduceEq, Int.reduceNeg, Int.reduceToNat, Nat.reducePow, reduceIte, reduceCtorEq, e1, e4, en])|((with_reducible first|refine jW ?hy ?_|refine jY ?hy ?_);case hy=>rfl)|((with_reducible first|refine jX ?hy ?_|refine jZ ?hy ?_);case hy=>rfl)|((with_reducible refine jF ?hy ?_);case hy=>decide))
  exact hk
theorem same_ok {H : Heap} {B C : Option Nat} {v w : Value} {xs ys : List Int} {K : Value → Heap → Prop} (hv : Rds H B v xs) (hw : Rds H C w ys) (hl : xs.length ≤ 4611686018427387904) (fin : K (.bool (decide (xs = ys))) H) :
  CallsH Try.prog 18 #[v, w] H K := by
 obtain ⟨a, c, ev⟩ := hv.slice
 obtain ⟨a', c', ew⟩ := hw.slice
 refine call18 (by simp) ?_
 simp only [Try.f18, Option.getD_some]
 by_cases h : xs.length = ys.length
 ·have t1 : ((xs.length : Int) != (ys.length : Int)) = false := by simp [h]
  rw [ev, ew]
  repeat' (first|(with_reducible first|refine jA ?_|(refine hK _ _ ?_;clear hK K)|refine jJ fun K hK=>?_|refine jK ?_|refine jL ?_|refine jM ?_|refine jN ?_|refine jO ?_|refine jP ?_|refine jQ ?_|(refine jB ?_;clear hK K)|(refine jC ?_;clear hK K)|refine jD ?_|refine jE ?_|refine jG ?_|refine jH ?_|refine jI ?_)|((with_reducible refine jR ?hq ?_);case hq=>rfl)|((first|(with_reducible first|refine jS fun K hK=>?_|refine jT ?_|refine jU ?_)|((with_reducible refine jV ?hy fun K hK=>?_);case hy=>rfl));simp only [go_sem, Nat.reduceEqDiff, Nat.reduceAdd, Nat.reduceMul, Nat.reduceLeDiff, Nat.reduceLT, Int.reduceLT, Int.reduceLE, Int.reduceEq, Int.reduceNeg, Int.reduceToNat, Nat.reducePow, reduceIte, reduceCtorEq, t1])|((with_reducible first|refine jW ?hy ?_|refine jY ?hy ?_);case hy=>rfl)|((with_reducible first|refine jX ?hy ?_|refine jZ ?hy ?_);case hy=>rfl)|((with_reducible refine jF ?hy ?_);case hy=>decide))
  refine x_loop (fun m e' H' => ∃ i : Nat, H' = H ∧ e' 5 = .int .i64 (i : Nat) ∧ i ≤ xs.length ∧ xs.take i = ys.take i ∧ m = xs.length - i) xs.length ⟨0, rfl, rfl, Nat.zero_le _, rfl, rfl⟩ ?_
  rintro m e1 H1 ⟨i, rfl, i5, hi, heq, rfl⟩ hoff
  have i0 := (hoff 0 rfl).trans rfl
  have i1 := (hoff 1 rfl).trans rfl
  clear hoff
  by_cases hlt : i < xs.length
  ·obtain ⟨x, hx⟩ : ∃ x, xs[i]? = some x := ⟨_, List.getElem?_eq_getElem hlt⟩
   obtain ⟨y, hy⟩ : ∃ y, ys[i]? = some y := ⟨_, List.getElem?_eq_getElem (by omega)⟩
   obtain ⟨b, o, c1, _, hv1, cx⟩ := hv.read hx
   obtain ⟨b2, o2, c2, _, hw1, cy⟩ := hw.read hy
   have i0' := i0.trans (ev.symm.trans hv1)
   have i1' := i1.trans (ew.symm.trans hw1)
   have hlt' : (i < ys.length) = True := by simp; omega
   have ewr : IntKind.i64.wrap ((i : Int) + 1) = ((i + 1 : Nat) : Int) := by rw [wrap_i64] <;> omega
   by_cases hxy : x = y
   ·have t2 : (x != y) = false := by simp [hxy]
    repeat' (first|(with_reducible first|refine jA ?_|(refine hK _ _ ?_;clear hK K)|refine jJ fun K hK=>?_|refine jK ?_|refine jL ?_|refine jM ?_|refine jN ?_|refine jO ?_|refine jP ?_|refine jQ ?_|(refine jB ?_;clear hK K)|(refine jC ?_;clear hK K)|refine jD ?_|refine jE ?_|refine jG ?_|refine jH ?_|refine jI ?_)|((with_reducible refine jR ?hq ?_);case hq=>rfl)|((first|(with_reducible first|refine jS fun K hK=>?_|refine jT ?_|refine jU ?_)|((with_reducible refine jV ?hy fun K hK=>?_);case hy=>rfl));simp only [go_sem, Nat.reduceEqDiff, Nat.reduceAdd, Nat.reduceMul, Nat.reduceLeDiff, Nat.reduceLT, Int.reduceLT, Int.reduceLE, Int.reduceEq, Int.reduceNeg, Int.reduceToNat, Nat.reducePow, reduceIte, reduceCtorEq, i5, i0', i1', hlt, hlt', cx, cy, t2, ewr])|((with_reducible first|refine jW ?hy ?_|refine jY ?hy ?_);case hy=>rfl)|((with_reducible first|refine jX ?hy ?_|refine jZ ?hy ?_);case hy=>rfl)|((with_reducible refine jF ?hy ?_);case hy=>decide))
    refine loop_normal (m' := xs.length - (i + 1)) (by omega) ⟨i + 1, rfl, rfl, by omega, ?_, rfl⟩
    rw [List.take_add_one, List.take_add_one, heq, hx, hy, hxy]
   ·have t2 : (x != y) = true := by simp [hxy]
    repeat' (first|(with_reducible first|refine jA ?_|(refine hK _ _ ?_;clear hK K)|refine jJ fun K hK=>?_|refine jK ?_|refine jL ?_|refine jM ?_|refine jN ?_|refine jO ?_|refine jP ?_|refine jQ ?_|(refine jB ?_;clear hK K)|(refine jC ?_;clear hK K)|refine jD ?_|refine jE ?_|refine jG ?_|refine jH ?_|refine jI ?_)|((with_reducible refine jR ?hq ?_);case hq=>rfl)|((first|(with_reducible first|refine jS fun K hK=>?_|refine jT ?_|refine jU ?_)|((with_reducible refine jV ?hy fun K hK=>?_);case hy=>rfl));simp only [go_sem, Nat.reduceEqDiff, Nat.reduceAdd, Nat.reduceMul, Nat.reduceLeDiff, Nat.reduceLT, Int.reduceLT, Int.reduceLE, Int.reduceEq, Int.reduceNeg, Int.reduceToNat, Nat.reducePow, reduceIte, reduceCtorEq, i5, i0', i1', hlt, hlt', cx, cy, t2])|((with_reducible first|refine jW ?hy ?_|refine jY ?hy ?_);case hy=>rfl)|((with_reducible first|refine jX ?hy ?_|refine jZ ?hy ?_);case hy=>rfl)|((with_reducible refine jF ?hy ?_);case hy=>decide))
    have : decide (xs = ys) = false := by
     rw [decide_eq_false_iff_not]
     intro e
     rw [e, hy] at hx
     exact hxy (Option.some.inj hx).symm
    rw [this] at fin
    exact fin
  ·have hlt' : (i < xs.length) = False := by simp; omega
   repeat' (first|(with_reducible first|refine jA ?_|(refine hK _ _ ?_;clear hK K)|refine jJ fun K hK=>?_|refine jK ?_|refine jL ?_|refine jM ?_|refine jN ?_|refine jO ?_|refine jP ?_|refine jQ ?_|(refine jB ?_;clear hK K)|(refine jC ?_;clear hK K)|refine jD ?_|refine jE ?_|refine jG ?_|refine jH ?_|refine jI ?_)|((with_reducible refine jR ?hq ?_);case hq=>rfl)|((first|(with_reducible first|refine jS fun K hK=>?_|refine jT ?_|refine jU ?_)|((with_reducible refine jV ?hy fun K hK=>?_);case hy=>rfl));simp only [go_sem, Nat.reduceEqDiff, Nat.reduceAdd, Nat.reduceMul, Nat.reduceLeDiff, Nat.reduceLT, Int.reduceLT, Int.reduceLE, Int.reduceEq, Int.reduceNeg, Int.reduceToNat, Nat.reducePow, reduceIte, reduceCtorEq, i5, i0, i1, hlt'])|((with_reducible first|refine jW ?hy ?_|refine jY ?hy ?_);case hy=>rfl)|((with_reducible first|refine jX ?hy ?_|refine jZ ?hy ?_);case hy=>rfl)|((with_reducible refine jF ?hy ?_);case hy=>decide))
   have : decide (xs = ys) = true := by
    rw [decide_eq_true_iff]
    have hi' : i = xs.length := by omega
    rw [hi', List.take_length] at heq
    rw [heq, h, List.take_length]
   rw [this] at fin
   exact fin
 ·have t1 : ((xs.length : Int) != (ys.length : Int)) = true := by simp; omega
  have : decide (xs = ys) = false := by
   rw [decide_eq_false_iff_not]
   intro e; exact h (by rw [e])
  rw [this] at fin
  rw [ev, ew]
  repeat' (first|(with_reducible first|refine jA ?_|(refine hK _ _ ?_;clear hK K)|refine jJ fun K hK=>?_|refine jK ?_|refine jL ?_|refine jM ?_|refine jN ?_|refine jO ?_|refine jP ?_|refine jQ ?_|(refine jB ?_;clear hK K)|(refine jC ?_;clear hK K)|refine jD ?_|refine jE ?_|refine jG ?_|refine jH ?_|refine jI ?_)|((with_reducible refine jR ?hq ?_);case hq=>rfl)|((first|(with_reducible first|refine jS fun K hK=>?_|refine jT ?_|refine jU ?_)|((with_reducible refine jV ?hy fun K hK=>?_);case hy=>rfl));simp only [go_sem, Nat.reduceEqDiff, Nat.reduceAdd, Nat.reduceMul, Nat.reduceLeDiff, Nat.reduceLT, Int.reduceLT, Int.reduceLE, Int.reduceEq, Int.reduceNeg, Int.reduceToNat, Nat.reducePow, reduceIte, reduceCtorEq, t1])|((with_reducible first|refine jW ?hy ?_|refine jY ?hy ?_);case hy=>rfl)|((with_reducible first|refine jX ?hy ?_|refine jZ ?hy ?_);case hy=>rfl)|((with_reducible refine jF ?hy ?_);case hy=>decide))
  exact fin
end Go.Proofs.Ytafehbegoanajaa.Pkisthmuslaw07
namespace Go.Ms
open Go Go.Hp Go.Li Go.Br
section
variable {n : Nat} {l F : List Ed} {e y : Ed}
theorem not_cn {S : Ed → Prop} (P : Nat → Bool) {a b : Nat} (h : ∀ x, S x → P x.u.toNat = P x.v.toNat) (hne : P a ≠ P b) : ¬ Cn S a b := fun k => hne (by
 have := k.side (P := fun z => P z = true) fun x hx => by rw [h x hx]
 cases ha : P a <;> cases hb : P b <;> simp_all)
theorem lo_list {P : Ed → Prop} (h : ∀ x ∈ l, heavy e x = true → P x) : ∀ x, Lo (In l) e x → P x := fun x hx => h x hx.1 hx.2
theorem sum_perm {F F' : List Ed} (h : F.Perm F') : sumW F = sumW F' := by
 unfold sumW
 induction h with
 | nil => rfl
 | cons x _ ih => simp only [List.map_cons, List.sum_cons, ih]
 | swap x y l => simp only [List.map_cons, List.sum_cons]; omega
 | trans _ _ ih1 ih2 => exact ih1.trans ih2
theorem nodup_of {F : List Ed} (h : (F.map (·.id)).Nodup) : F.Nodup := List.Pairwise.of_map (S := fun x y => x ≠ y) (fun e : Ed => e.id) (fun a b h e => h (by rw [e])) h
theorem perm_of {F F' : List Ed} (h1 : (F.map (·.id)).Nodup) (h2 : (F'.map (·.id)).Nodup) (h : ∀ e, e ∈ F ↔ e ∈ F') : F.Perm F' :=
 (List.perm_ext_iff_of_nodup (nodup_of h1) (nodup_of h2)).2 h
def e11 : Ed := ⟨11, 0, 1, 4⟩
def e12 : Ed := ⟨12, 1, 2, 7⟩
def e13 : Ed := ⟨13, 0, 2, 9⟩
def e14 : Ed := ⟨14, 2, 0, 4⟩
theorem awake3 {F : List Ed} (h : Fp 4 [e11, e12, e13] F) : ∀ e, e ∈ F ↔ e ∈ [e11, e12] := fun e => by
 have hm := h.msf e
 unfold In at hm
 rw [hm]
 have n1 : ¬ Cn (Lo (In [e11, e12, e13]) e11) e11.u.toNat e11.v.toNat := not_cn (fun z => decide (z = 0)) (lo_list (by decide)) (by decide)
 have n2 : ¬ Cn (Lo (In [e11, e12, e13]) e12) e12.u.toNat e12.v.toNat := not_cn (fun z => decide (z = 2)) (lo_list (by decide)) (by decide)
 have y3 : Cn (Lo (In [e11, e12, e13]) e13) e13.u.toNat e13.v.toNat := (Cn.edge (e := e11) ⟨by simp [In], by decide⟩).trans (Cn.edge (e := e12) ⟨by simp [In], by decide⟩)
 constructor
 ·rintro ⟨h1, h2⟩
  simp only [List.mem_cons, List.not_mem_nil, or_false] at h1 ⊢
  rcases h1 with rfl | rfl | rfl
  ·exact .inl rfl
  ·exact .inr rfl
  ·exact absurd y3 h2
 ·intro h1
  simp only [List.mem_cons, List.not_mem_nil, or_false] at h1
  rcases h1 with rfl | rfl
  ·exact ⟨by simp, n1⟩
  ·exact ⟨by simp, n2⟩
theorem awake4 {F : List Ed} (h : Fp 4 [e11, e12, e13, e14] F) : ∀ e, e ∈ F ↔ e ∈ [e11, e14] := fun e => by
 have hm := h.msf e
 unfold In at hm
 rw [hm]
 have n1 : ¬ Cn (Lo (In [e11, e12, e13, e14]) e11) e11.u.toNat e11.v.toNat := not_cn (fun z => decide (z = 0)) (lo_list (by decide)) (by decide)
 have n2 : ¬ Cn (Lo (In [e11, e12, e13, e14]) e14) e14.u.toNat e14.v.toNat := not_cn (fun z => decide (z = 2)) (lo_list (by decide)) (by decide)
 have y1 : Cn (Lo (In [e11, e12, e13, e14]) e12) e12.u.toNat e12.v.toNat := (Cn.edge (e := e11) ⟨by simp [In], by decide⟩).symm.trans (Cn.edge (e := e14) ⟨by simp [In], by decide⟩).symm
 have y3 : Cn (Lo (In [e11, e12, e13, e14]) e13) e13.u.toNat e13.v.toNat := (Cn.edge (e := e14) ⟨by simp [In], by decide⟩).symm
 constructor
 ·rintro ⟨h1, h2⟩
  simp only [List.mem_cons, List.not_mem_nil, or_false] at h1 ⊢
  rcases h1 with rfl | rfl | rfl | rfl
  ·exact .inl rfl
  ·exact absurd y1 h2
  ·exact absurd y3 h2
  ·exact .inr rfl
 ·intro h1
  simp only [List.mem_cons, List.not_mem_nil, or_false] at h1
  rcases h1 with rfl | rfl
  ·exact ⟨by simp, n1⟩
  ·exact ⟨by simp, n2⟩
theorem ids_lit {F : List Ed} {xs : List Int} {G : List Ed} (h : IdsOf F xs) (hF : ∀ e, e ∈ F ↔ e ∈ G) {ys : List Int} (hs : ys.Pairwise (· < ·)) (hy : ∀ i, i ∈ ys ↔ ∃ e ∈ G, e.id = i) : xs = ys :=
 srt_uniq h.srt hs fun i => by rw [h.mem, hy]; exact ⟨fun ⟨e, a, b⟩ => ⟨e, (hF e).1 a, b⟩, fun ⟨e, a, b⟩ => ⟨e, (hF e).2 a, b⟩⟩
theorem awakeM {F : List Ed} (hF : ∀ e, e ∈ F ↔ e ∈ [e11, e14]) (h : Mx (In F) 1 2 y) : y = e14 := by
 have := (hF y).1 h.of
 simp only [List.mem_cons, List.not_mem_nil, or_false] at this
 rcases this with rfl | rfl
 ·refine absurd h.le (not_cn (fun z => decide (z = 2)) (fun x hx => ?_) (by decide))
  have h1 := (hF x).1 hx.1
  have h2 := hx.2
  simp only [List.mem_cons, List.not_mem_nil, or_false] at h1
  rcases h1 with rfl | rfl
  ·decide
  ·rcases h2 with h2 | h2
   ·cases h2
   ·exact absurd h2 (by decide)
 ·rfl
end
end Go.Ms
namespace Go.Proofs.Ytafehbegoanajaa
open Go Go.Hp Go.Li Go.Br Go.Ms
set_option linter.all false
set_option maxRecDepth 100000
set_option maxHeartbeats 3200000
theorem edgeFlat : flatS Try.prog 30 = some [(.int .i64, 0), (.int .i64, 1), (.int .i64, 2), (.int .i64, 3)] := by kernel_rfl
theorem edge_eq {op : BinOp} {ox oy : Operand} {a b : Ed} {H : Heap} {K : Value → Prop} (hK : match op with | .eql => K (.bool (decide (a = b))) | .neq => K (.bool (!decide (a = b))) | _ => False) : binX Try.prog op 30 ox oy a.val b.val H K := by
 refine binX_flat edgeFlat (b := decide (a = b)) ?_ hK
 obtain ⟨a1, a2, a3, a4⟩ := a
 obtain ⟨b1, b2, b3, b4⟩ := b
 simp only [allEq, sEq, List.getElem?_toArray, List.getElem?_cons_zero, List.getElem?_cons_succ, if_true, Ed.mk.injEq]
 have key : ∀ x y : Int, (x == y) = decide (x = y) := fun x y => by by_cases h : x = y <;> simp [h]
 simp only [key]
 by_cases h1 : a1 = b1 <;> by_cases h2 : a2 = b2 <;> by_cases h3 : a3 = b3 <;> by_cases h4 : a4 = b4 <;> simp [h1, h2, h3, h4]
theorem ir_lit2 (H : Heap) (xs : List Int) (T : TypeId) : IR (H.push (.cells (xs.map (Value.int .i64)).toArray T)) (some H.size) (.slice (some ⟨H.size, 0, none⟩) xs.length xs.length) xs :=
 ⟨by simp, .inr ⟨H.size, xs.length, [], rfl, rfl, by rw [List.append_nil]; exact Blk.new H _ T, by simp, Nat.le_refl _⟩⟩
section
variable {H : Heap} {L : Value → Heap → Prop}
theorem ins_ok {f n : Nat} {T : Nat → Prop} {l F : List Ed} {k0 u v w : Int} (hM : MsM H f T n l F) (h : insC n l k0 u v w = 0)
  (fin : ∀ H' T' F', MsM H' f T' n (l ++ [⟨k0, u, v, w⟩]) F' → Stp F F' → Fr T H H' → (∀ b, T' b → T b ∨ H.size ≤ b) → L (.int .i64 0) H') :
  CallsH Try.prog 12 #[.pointer (some ⟨f, 0, none⟩), .int .i64 k0, .int .i64 u, .int .i64 v, .int .i64 w] H L :=
 m_insert hM (fun c hc hne => absurd (hc.symm.trans h) hne) fun _ => fin
structure MS (H0 H : Heap) (f : Nat) (T : Nat → Prop) (n : Nat) (l F : List Ed) : Prop where
 m : MsM H f T n l F
 fr : Fr (fun _ => False) H0 H
 new : ∀ b, T b → H0.size ≤ b
theorem MS.op {H0 H H' : Heap} {f n : Nat} {T T' : Nat → Prop} {l l' F F' : List Ed} (h : MS H0 H f T n l F) (hm : MsM H' f T' n l' F') (hf : Fr T H H') (hT : ∀ b, T' b → T b ∨ H.size ≤ b) : MS H0 H' f T' n l' F' :=
 ⟨hm, h.fr.trans' hf fun b hb hx => by have := h.new b hx; omega, fun b hb => (hT b hb).elim (h.new b) fun h1 => Nat.le_trans h.fr.size h1⟩
theorem MS.grow {H0 H H' : Heap} {f n : Nat} {T : Nat → Prop} {l F : List Ed} (h : MS H0 H f T n l F) (hf : Fr (fun _ => False) H H') : MS H0 H' f T n l F := ⟨h.m.frame hf fun _ _ h => h, h.fr.trans hf, h.new⟩
theorem awake_ok (fin : ∀ H', Fr (fun _ => False) H H' → L (.bool true) H') : CallsH Try.prog 9 #[] H L := by
 refine call9 (by simp) ?_
 simp only [Try.f9, Option.getD_some]
 repeat' (first|(with_reducible first|refine jA ?_|(refine hK _ _ ?_;clear hK K)|refine jJ fun K hK=>?_|refine jK ?_|refine jL ?_|refine jM ?_|refine jN ?_|refine jO ?_|refine jP ?_|refine jQ ?_|(refine jB ?_;clear hK K)|(refine jC ?_;clear hK K)|refine jD ?_|refine jE ?_|refine jG ?_|refine jH ?_|refine jI ?_)|((with_reducible refine jR ?hq ?_);case hq=>rfl)|((first|(with_reducible first|refine jS fun K hK=>?_|refine jT ?_|refine jU ?_)|((with_reducible refine jV ?hy fun K hK=>?_);case hy=>rfl));simp only [go_sem, Nat.reduceEqDiff, Nat.reduceAdd, Nat.reduceMul, Nat.reduceLeDiff, Nat.reduceLT, Int.reduceLT, Int.reduceLE, Int.reduceEq, Int.reduceNeg, Int.reduceToNat, Nat.reducePow, reduceIte, reduceCtorEq])|((with_reducible first|refine jW ?hy ?_|refine jY ?hy ?_);case hy=>rfl)|((with_reducible first|refine jX ?hy ?_|refine jZ ?hy ?_);case hy=>rfl)|((with_reducible refine jF ?hy ?_);case hy=>decide))
 refine m_new (n := 4) (by omega) (by omega) fun H1 f T1 hM1 f1 hT1 => ?_
 have S1 : MS H H1 f T1 4 [] [] := ⟨hM1, f1, hT1⟩
 repeat' (first|(with_reducible first|refine jA ?_|(refine hK _ _ ?_;clear hK K)|refine jJ fun K hK=>?_|refine jK ?_|refine jL ?_|refine jM ?_|refine jN ?_|refine jO ?_|refine jP ?_|refine jQ ?_|(refine jB ?_;clear hK K)|(refine jC ?_;clear hK K)|refine jD ?_|refine jE ?_|refine jG ?_|refine jH ?_|refine jI ?_)|((with_reducible refine jR ?hq ?_);case hq=>rfl)|((first|(with_reducible first|refine jS fun K hK=>?_|refine jT ?_|refine jU ?_)|((with_reducible refine jV ?hy fun K hK=>?_);case hy=>rfl));simp only [go_sem, Nat.reduceEqDiff, Nat.reduceAdd, Nat.reduceMul, Nat.reduceLeDiff, Nat.reduceLT, Int.reduceLT, Int.reduceLE, Int.reduceEq, Int.reduceNeg, Int.reduceToNat, Nat.reducePow, reduceIte, reduceCtorEq])|((with_reducible first|refine jW ?hy ?_|refine jY ?hy ?_);case hy=>rfl)|((with_reducible first|refine jX ?hy ?_|refine jZ ?hy ?_);case hy=>rfl)|((with_reducible refine jF ?hy ?_);case hy=>decide))
 refine ins_ok S1.m (by decide) fun H2 T2 F2 hM2 _ hf2 hT2 => ?_
 have S2 := S1.op hM2 hf2 hT2
 repeat' (first|(with_reducible first|refine jA ?_|(refine hK _ _ ?_;clear hK K)|refine jJ fun K hK=>?_|refine jK ?_|refine jL ?_|refine jM ?_|refine jN ?_|refine jO ?_|refine jP ?_|refine jQ ?_|(refine jB ?_;clear hK K)|(refine jC ?_;clear hK K)|refine jD ?_|refine jE ?_|refine jG ?_|refine jH ?_|refine jI ?_)|((with_reducible refine jR ?hq ?_);case hq=>rfl)|((first|(with_reducible first|refine jS fun K hK=>?_|refine jT ?_|refine jU ?_)|((with_reducible refine jV ?hy fun K hK=>?_);case hy=>rfl));simp only [go_sem, Nat.reduceEqDiff, Nat.reduceAdd, Nat.reduceMul, Nat.reduceLeDiff, Nat.reduceLT, Int.reduceLT, Int.reduceLE, Int.reduceEq, Int.reduceNeg, Int.reduceToNat, Nat.reducePow, reduceIte, reduceCtorEq])|((with_reducible first|refine jW ?hy ?_|refine jY ?hy ?_);case hy=>rfl)|((with_reducible first|refine jX ?hy ?_|refine jZ ?hy ?_);case hy=>rfl)|((with_reducible refine jF ?hy ?_);case hy=>decide))
 refine ins_ok S2.m (by decide) fun H3 T3 F3 hM3 _ hf3 hT3 => ?_
 have S3 := S2.op hM3 hf3 hT3
 repeat' (first|(with_reducible first|refine jA ?_|(refine hK _ _ ?_;clear hK K)|refine jJ fun K hK=>?_|refine jK ?_|refine jL ?_|refine jM ?_|refine jN ?_|refine jO ?_|refine jP ?_|refine jQ ?_|(refine jB ?_;clear hK K)|(refine jC ?_;clear hK K)|refine jD ?_|refine jE ?_|refine jG ?_|refine jH ?_|refine jI ?_)|((with_reducible refine jR ?hq ?_);case hq=>rfl)|((first|(with_reducible first|refine jS fun K hK=>?_|refine jT ?_|refine jU ?_)|((with_reducible refine jV ?hy fun K hK=>?_);case hy=>rfl));simp only [go_sem, Nat.reduceEqDiff, Nat.reduceAdd, Nat.reduceMul, Nat.reduceLeDiff, Nat.reduceLT, Int.reduceLT, Int.reduceLE, Int.reduceEq, Int.reduceNeg, Int.reduceToNat, Nat.reducePow, reduceIte, reduceCtorEq])|((with_reducible first|refine jW ?hy ?_|refine jY ?hy ?_);case hy=>rfl)|((with_reducible first|refine jX ?hy ?_|refine jZ ?hy ?_);case hy=>rfl)|((with_reducible refine jF ?hy ?_);case hy=>decide))
 refine ins_ok S3.m (by decide) fun H4 T4 F4 hM4 _ hf4 hT4 => ?_
 have S4 := S3.op hM4 hf4 hT4
 have hF4 := awake3 hM4.p
 have hs4 : sumW F4 = 11 := by rw [sum_perm (perm_of hM4.p.fn (by decide) hF4)]; rfl
 repeat' (first|(with_reducible first|refine jA ?_|(refine hK _ _ ?_;clear hK K)|refine jJ fun K hK=>?_|refine jK ?_|refine jL ?_|refine jM ?_|refine jN ?_|refine jO ?_|refine jP ?_|refine jQ ?_|(refine jB ?_;clear hK K)|(refine jC ?_;clear hK K)|refine jD ?_|refine jE ?_|refine jG ?_|refine jH ?_|refine jI ?_)|((with_reducible refine jR ?hq ?_);case hq=>rfl)|((first|(with_reducible first|refine jS fun K hK=>?_|refine jT ?_|refine jU ?_)|((with_reducible refine jV ?hy fun K hK=>?_);case hy=>rfl));simp only [go_sem, Nat.reduceEqDiff, Nat.reduceAdd, Nat.reduceMul, Nat.reduceLeDiff, Nat.reduceLT, Int.reduceLT, Int.reduceLE, Int.reduceEq, Int.reduceNeg, Int.reduceToNat, Nat.reducePow, reduceIte, reduceCtorEq])|((with_reducible first|refine jW ?hy ?_|refine jY ?hy ?_);case hy=>rfl)|((with_reducible first|refine jX ?hy ?_|refine jZ ?hy ?_);case hy=>rfl)|((with_reducible refine jF ?hy ?_);case hy=>decide))
 refine m_all S4.m fun H5 B5 v5 xs5 hx5 hi5 hB5 f5 => ?_
 have S5 := S4.grow f5
 have ex5 := ids_lit (ys := [11, 12]) hx5 hF4 (by decide) (fun i => by simp [e11, e12]; omega)
 subst ex5
 have g6 : IR (H5.push (.cells #[.int .i64 11, .int .i64 12] 3)) (some H5.size) (.slice (some ⟨H5.size, 0, none⟩) 2 2) [11, 12] := ir_lit2 H5 [11, 12] 3
 have f6 : Fr (fun _ => False) H5 (H5.push (.cells #[.int .i64 11, .int .i64 12] 3)) := (Fr.refl _ _).push _
 repeat' (first|(with_reducible first|refine jA ?_|(refine hK _ _ ?_;clear hK K)|refine jJ fun K hK=>?_|refine jK ?_|refine jL ?_|refine jM ?_|refine jN ?_|refine jO ?_|refine jP ?_|refine jQ ?_|(refine jB ?_;clear hK K)|(refine jC ?_;clear hK K)|refine jD ?_|refine jE ?_|refine jG ?_|refine jH ?_|refine jI ?_)|((with_reducible refine jR ?hq ?_);case hq=>rfl)|((first|(with_reducible first|refine jS fun K hK=>?_|refine jT ?_|refine jU ?_)|((with_reducible refine jV ?hy fun K hK=>?_);case hy=>rfl));simp only [go_sem, Nat.reduceEqDiff, Nat.reduceAdd, Nat.reduceMul, Nat.reduceLeDiff, Nat.reduceLT, Int.reduceLT, Int.reduceLE, Int.reduceEq, Int.reduceNeg, Int.reduceToNat, Nat.reducePow, reduceIte, reduceCtorEq])|((with_reducible first|refine jW ?hy ?_|refine jY ?hy ?_);case hy=>rfl)|((with_reducible first|refine jX ?hy ?_|refine jZ ?hy ?_);case hy=>rfl)|((with_reducible refine jF ?hy ?_);case hy=>decide))
 refine Pkisthmuslaw07.same_ok (hi5.rds.frame f6 fun _ _ h => h) g6.rds (by decide) ?_
 rw [decide_eq_true rfl]
 have S6 := S5.grow f6
 generalize H5.push _ = H6 at f6 S6 g6 ⊢
 clear hi5 g6 S5 S4 S3 S2 S1
 repeat' (first|(with_reducible first|refine jA ?_|(refine hK _ _ ?_;clear hK K)|refine jJ fun K hK=>?_|refine jK ?_|refine jL ?_|refine jM ?_|refine jN ?_|refine jO ?_|refine jP ?_|refine jQ ?_|(refine jB ?_;clear hK K)|(refine jC ?_;clear hK K)|refine jD ?_|refine jE ?_|refine jG ?_|refine jH ?_|refine jI ?_)|((with_reducible refine jR ?hq ?_);case hq=>rfl)|((first|(with_reducible first|refine jS fun K hK=>?_|refine jT ?_|refine jU ?_)|((with_reducible refine jV ?hy fun K hK=>?_);case hy=>rfl));simp only [go_sem, Nat.reduceEqDiff, Nat.reduceAdd, Nat.reduceMul, Nat.reduceLeDiff, Nat.reduceLT, Int.reduceLT, Int.reduceLE, Int.reduceEq, Int.reduceNeg, Int.reduceToNat, Nat.reducePow, reduceIte, reduceCtorEq])|((with_reducible first|refine jW ?hy ?_|refine jY ?hy ?_);case hy=>rfl)|((with_reducible first|refine jX ?hy ?_|refine jZ ?hy ?_);case hy=>rfl)|((with_reducible refine jF ?hy ?_);case hy=>decide))
 refine m_weight S6.m ?_
 rw [hs4]
 repeat' (first|(with_reducible first|refine jA ?_|(refine hK _ _ ?_;clear hK K)|refine jJ fun K hK=>?_|refine jK ?_|refine jL ?_|refine jM ?_|refine jN ?_|refine jO ?_|refine jP ?_|refine jQ ?_|(refine jB ?_;clear hK K)|(refine jC ?_;clear hK K)|refine jD ?_|refine jE ?_|refine jG ?_|refine jH ?_|refine jI ?_)|((with_reducible refine jR ?hq ?_);case hq=>rfl)|((first|(with_reducible first|refine jS fun K hK=>?_|refine jT ?_|refine jU ?_)|((with_reducible refine jV ?hy fun K hK=>?_);case hy=>rfl));simp only [go_sem, Nat.reduceEqDiff, Nat.reduceAdd, Nat.reduceMul, Nat.reduceLeDiff, Nat.reduceLT, Int.reduceLT, Int.reduceLE, Int.reduceEq, Int.reduceNeg, Int.reduceToNat, Nat.reducePow, reduceIte, reduceCtorEq])|((with_reducible first|refine jW ?hy ?_|refine jY ?hy ?_);case hy=>rfl)|((with_reducible first|refine jX ?hy ?_|refine jZ ?hy ?_);case hy=>rfl)|((with_reducible refine jF ?hy ?_);case hy=>decide))
 refine ins_ok S6.m (by decide) fun H7 T7 F7 hM7 _ hf7 hT7 => ?_
 have S7 := S6.op hM7 hf7 hT7
 have hF7 := awake4 hM7.p
 repeat' (first|(with_reducible first|refine jA ?_|(refine hK _ _ ?_;clear hK K)|refine jJ fun K hK=>?_|refine jK ?_|refine jL ?_|refine jM ?_|refine jN ?_|refine jO ?_|refine jP ?_|refine jQ ?_|(refine jB ?_;clear hK K)|(refine jC ?_;clear hK K)|refine jD ?_|refine jE ?_|refine jG ?_|refine jH ?_|refine jI ?_)|((with_reducible refine jR ?hq ?_);case hq=>rfl)|((first|(with_reducible first|refine jS fun K hK=>?_|refine jT ?_|refine jU ?_)|((with_reducible refine jV ?hy fun K hK=>?_);case hy=>rfl));simp only [go_sem, Nat.reduceEqDiff, Nat.reduceAdd, Nat.reduceMul, Nat.reduceLeDiff, Nat.reduceLT, Int.reduceLT, Int.reduceLE, Int.reduceEq, Int.reduceNeg, Int.reduceToNat, Nat.reducePow, reduceIte, reduceCtorEq])|((with_reducible first|refine jW ?hy ?_|refine jY ?hy ?_);case hy=>rfl)|((with_reducible first|refine jX ?hy ?_|refine jZ ?hy ?_);case hy=>rfl)|((with_reducible refine jF ?hy ?_);case hy=>decide))
 refine m_all S7.m fun H8 B8 v8 xs8 hx8 hi8 hB8 f8 => ?_
 have S8 := S7.grow f8
 have ex8 := ids_lit (ys := [11, 14]) hx8 hF7 (by decide) (fun i => by simp [e11, e14]; omega)
 subst ex8
 have g9 : IR (H8.push (.cells #[.int .i64 11, .int .i64 14] 3)) (some H8.size) (.slice (some ⟨H8.size, 0, none⟩) 2 2) [11, 14] := ir_lit2 H8 [11, 14] 3
 have f9 : Fr (fun _ => False) H8 (H8.push (.cells #[.int .i64 11, .int .i64 14] 3)) := (Fr.refl _ _).push _
 repeat' (first|(with_reducible first|refine jA ?_|(refine hK _ _ ?_;clear hK K)|refine jJ fun K hK=>?_|refine jK ?_|refine jL ?_|refine jM ?_|refine jN ?_|refine jO ?_|refine jP ?_|refine jQ ?_|(refine jB ?_;clear hK K)|(refine jC ?_;clear hK K)|refine jD ?_|refine jE ?_|refine jG ?_|refine jH ?_|refine jI ?_)|((with_reducible refine jR ?hq ?_);case hq=>rfl)|((first|(with_reducible first|refine jS fun K hK=>?_|refine jT ?_|refine jU ?_)|((with_reducible refine jV ?hy fun K hK=>?_);case hy=>rfl));simp only [go_sem, Nat.reduceEqDiff, Nat.reduceAdd, Nat.reduceMul, Nat.reduceLeDiff, Nat.reduceLT, Int.reduceLT, Int.reduceLE, Int.reduceEq, Int.reduceNeg, Int.reduceToNat, Nat.reducePow, reduceIte, reduceCtorEq])|((with_reducible first|refine jW ?hy ?_|refine jY ?hy ?_);case hy=>rfl)|((with_reducible first|refine jX ?hy ?_|refine jZ ?hy ?_);case hy=>rfl)|((with_reducible refine jF ?hy ?_);case hy=>decide))
 refine Pkisthmuslaw07.same_ok (hi8.rds.frame f9 fun _ _ h => h) g9.rds (by decide) ?_
 rw [decide_eq_true rfl]
 have S9 := S8.grow f9
 generalize H8.push _ = H9 at f9 S9 g9 ⊢
 repeat' (first|(with_reducible first|refine jA ?_|(refine hK _ _ ?_;clear hK K)|refine jJ fun K hK=>?_|refine jK ?_|refine jL ?_|refine jM ?_|refine jN ?_|refine jO ?_|refine jP ?_|refine jQ ?_|(refine jB ?_;clear hK K)|(refine jC ?_;clear hK K)|refine jD ?_|refine jE ?_|refine jG ?_|refine jH ?_|refine jI ?_)|((with_reducible refine jR ?hq ?_);case hq=>rfl)|((first|(with_reducible first|refine jS fun K hK=>?_|refine jT ?_|refine jU ?_)|((with_reducible refine jV ?hy fun K hK=>?_);case hy=>rfl));simp only [go_sem, Nat.reduceEqDiff, Nat.reduceAdd, Nat.reduceMul, Nat.reduceLeDiff, Nat.reduceLT, Int.reduceLT, Int.reduceLE, Int.reduceEq, Int.reduceNeg, Int.reduceToNat, Nat.reducePow, reduceIte, reduceCtorEq])|((with_reducible first|refine jW ?hy ?_|refine jY ?hy ?_);case hy=>rfl)|((with_reducible first|refine jX ?hy ?_|refine jZ ?hy ?_);case hy=>rfl)|((with_reducible refine jF ?hy ?_);case hy=>decide))
 refine m_bot S9.m (fun h => absurd h (by decide)) (fun a b ha hb _ _ hor => ?_) fun a b ha hb _ _ H10 y hy hM10 hf10 => ?_
 ·exfalso
  obtain rfl : a = 1 := by omega
  obtain rfl : b = 2 := by omega
  refine hor.elim (by decide) fun h => h ?_
  exact (Cn.edge (S := In F7) (e := e11) ((hF7 e11).2 (by simp))).symm.trans (Cn.edge (S := In F7) (e := e14) ((hF7 e14).2 (by simp))).symm
 ·obtain rfl : a = 1 := by omega
  obtain rfl : b = 2 := by omega
  obtain rfl := awakeM hF7 hy
  have S10 := S9.op hM10 hf10 fun _ h => .inl h
  simp only [Ed.val]
  obtain ⟨b11, f11⟩ := edge_box (H := H10) e14 (T0 := 30)
  have y0 := b11.cellOf (i := 0) rfl
  have y1 := b11.cellOf (i := 1) rfl
  have y2 := b11.cellOf (i := 2) rfl
  have y3 := b11.cellOf (i := 3) rfl
  repeat' (first|(with_reducible first|refine jA ?_|(refine hK _ _ ?_;clear hK K)|refine jJ fun K hK=>?_|refine jK ?_|refine jL ?_|refine jM ?_|refine jN ?_|refine jO ?_|refine jP ?_|refine jQ ?_|(refine jB ?_;clear hK K)|(refine jC ?_;clear hK K)|refine jD ?_|refine jE ?_|refine jG ?_|refine jH ?_|refine jI ?_)|((with_reducible refine jR ?hq ?_);case hq=>rfl)|((first|(with_reducible first|refine jS fun K hK=>?_|refine jT ?_|refine jU ?_)|((with_reducible refine jV ?hy fun K hK=>?_);case hy=>rfl));simp only [go_sem, Nat.reduceEqDiff, Nat.reduceAdd, Nat.reduceMul, Nat.reduceLeDiff, Nat.reduceLT, Int.reduceLT, Int.reduceLE, Int.reduceEq, Int.reduceNeg, Int.reduceToNat, Nat.reducePow, reduceIte, reduceCtorEq, y0, y1, y2, y3, hcell_push, hcell_top, okW_push, okW_top, hcell_hset_ne, hcell_hset_off, hcell_hset_eq, okW_hset, hset_size, Array.size_push, Nat.lt_add_one, ne_add_one, add_one_ne, Nat.add_assoc, add_same, add_lt_same, Nat.reduceEqDiff, lt_add_k, add_k_ne, ne_add_k])|((with_reducible first|refine jW ?hy ?_|refine jY ?hy ?_);case hy=>rfl)|((with_reducible first|refine jX ?hy ?_|refine jZ ?hy ?_);case hy=>rfl)|((with_reducible refine jF ?hy ?_);case hy=>decide))
  refine edge_eq (a := e14) (b := ⟨14, 2, 0, 4⟩) ?_
  have : decide (e14 = ⟨14, 2, 0, 4⟩) = true := by decide
  simp only [this]
  repeat' (first|(with_reducible first|refine jA ?_|(refine hK _ _ ?_;clear hK K)|refine jJ fun K hK=>?_|refine jK ?_|refine jL ?_|refine jM ?_|refine jN ?_|refine jO ?_|refine jP ?_|refine jQ ?_|(refine jB ?_;clear hK K)|(refine jC ?_;clear hK K)|refine jD ?_|refine jE ?_|refine jG ?_|refine jH ?_|refine jI ?_)|((with_reducible refine jR ?hq ?_);case hq=>rfl)|((first|(with_reducible first|refine jS fun K hK=>?_|refine jT ?_|refine jU ?_)|((with_reducible refine jV ?hy fun K hK=>?_);case hy=>rfl));simp only [go_sem, Nat.reduceEqDiff, Nat.reduceAdd, Nat.reduceMul, Nat.reduceLeDiff, Nat.reduceLT, Int.reduceLT, Int.reduceLE, Int.reduceEq, Int.reduceNeg, Int.reduceToNat, Nat.reducePow, reduceIte, reduceCtorEq])|((with_reducible first|refine jW ?hy ?_|refine jY ?hy ?_);case hy=>rfl)|((with_reducible first|refine jX ?hy ?_|refine jZ ?hy ?_);case hy=>rfl)|((with_reducible refine jF ?hy ?_);case hy=>decide))
  exact fin _ ((S10.fr).trans f11)
end
end Go.Proofs.Ytafehbegoanajaa
namespace Go.Ms
open Go Go.Hp Go.Li Go.Br
open Go.Proofs.Ytafehbegoanajaa (inB okArg)
def eOf (n : Nat) (zs : Nat → Ed) (tm mo : Int) (i : Nat) : Ed := ⟨(i : Nat), pickN (zs i).u n, pickN (zs i).v n, (pickN (zs i).w 41 - 20) * tm + mo⟩
def eLs (n : Nat) (zs : Nat → Ed) (tm mo : Int) (k : Nat) : List Ed := ((List.range k).map (eOf n zs tm mo)).filter fun e => decide (e.u ≠ e.v)
section
variable {n : Nat} {zs : Nat → Ed} {tm mo : Int} {k : Nat} {e : Ed}
theorem eLs_zero : eLs n zs tm mo 0 = [] := rfl
theorem eLs_succ (k : Nat) : eLs n zs tm mo (k + 1) = eLs n zs tm mo k ++ (if (eOf n zs tm mo k).u ≠ (eOf n zs tm mo k).v then [eOf n zs tm mo k] else []) := by
 unfold eLs
 rw [List.range_succ, List.map_append, List.filter_append]
 congr 1
 by_cases h : (eOf n zs tm mo k).u = (eOf n zs tm mo k).v
 ·simp [h]
 ·simp [h]
theorem eLs_mem : e ∈ eLs n zs tm mo k ↔ ∃ i, i < k ∧ e = eOf n zs tm mo i ∧ e.u ≠ e.v := by
 unfold eLs
 rw [List.mem_filter, List.mem_map]
 constructor
 ·rintro ⟨⟨i, hi, rfl⟩, h⟩
  exact ⟨i, List.mem_range.1 hi, rfl, of_decide_eq_true h⟩
 ·rintro ⟨i, hi, rfl, h⟩
  exact ⟨⟨i, List.mem_range.2 hi, rfl⟩, decide_eq_true h⟩
theorem eLs_len : (eLs n zs tm mo k).length ≤ k := by
 unfold eLs
 exact Nat.le_trans (List.length_filter_le ..) (by simp)
theorem pick_rg {c : Int} {m : Nat} (hm : 0 < m) : 0 ≤ pickN c m ∧ pickN c m < m := pickN_range c (by omega)
theorem eLs_ins (hn : 0 < n) (hk : k < 150) (hw : -1099511627776 ≤ (eOf n zs tm mo k).w ∧ (eOf n zs tm mo k).w ≤ 1099511627776) :
  insC n (eLs n zs tm mo k) (k : Nat) (pickN (zs k).u n) (pickN (zs k).v n) (eOf n zs tm mo k).w = if (eOf n zs tm mo k).u = (eOf n zs tm mo k).v then 72 else 0 := by
 obtain ⟨u0, u1⟩ := pick_rg (c := (zs k).u) hn
 obtain ⟨v0, v1⟩ := pick_rg (c := (zs k).v) hn
 unfold insC
 have h1 : ¬ ((inB n (pickN (zs k).u n) && inB n (pickN (zs k).v n)) = false) := by unfold inB; simp; omega
 have h2 : ¬ (okArg ((k : Nat) : Int) (eOf n zs tm mo k).w = false) := by unfold okArg; simp; omega
 have h3 : ¬ ((byId (eLs n zs tm mo k) ((k : Nat) : Int)).isSome = true) := by
  rw [byId_none.2 fun x hx e => ?_]
  ·decide
  ·obtain ⟨i, hi, rfl, _⟩ := eLs_mem.1 hx
   have : ((i : Nat) : Int) = ((k : Nat) : Int) := e
   omega
 have h4 : (eLs n zs tm mo k).length ≠ 192 := by have := eLs_len (n := n) (zs := zs) (tm := tm) (mo := mo) (k := k); omega
 rw [if_neg h1, if_neg h2, if_neg h3]
 show (if (eOf n zs tm mo k).u = (eOf n zs tm mo k).v then (72 : Int) else _) = _
 by_cases h : (eOf n zs tm mo k).u = (eOf n zs tm mo k).v
 ·rw [if_pos h, if_pos h]
 ·rw [if_neg h, if_neg h, if_neg h4]
end
end Go.Ms
namespace Go.Proofs.Ytafehbegoanajaa
open Go Go.Hp Go.Li Go.Br Go.Ms
set_option linter.all false
set_option maxRecDepth 100000
set_option maxHeartbeats 3200000
section
variable {H : Heap} {L : Value → Heap → Prop}
theorem mul_rg {c t : Int} (h1 : -20 ≤ c) (h2 : c ≤ 20) (h3 : 1 ≤ t) (h4 : t ≤ 1000) : -20000 ≤ c * t ∧ c * t ≤ 20000 := by
 have a := Int.mul_le_mul_of_nonneg_right h2 (show 0 ≤ t by omega)
 have b := Int.mul_le_mul_of_nonneg_right h1 (show 0 ≤ t by omega)
 omega
theorem filled_ok {n : Nat} {a : Option Addr} {len ca : Nat} {zs : Nat → Ed} {tm mo : Int} (hn : 1 ≤ n) (hn64 : n ≤ 64) (hin : InEds H a len ca zs) (hlen : len ≤ 9223372036854775807) (htm : 1 ≤ tm ∧ tm ≤ 1000) (hmo : -1000000 ≤ mo ∧ mo ≤ 1000000)
  (fin : ∀ H' f T F, MS H H' f T n (eLs n zs tm mo (min len 150)) F → L (.pointer (some ⟨f, 0, none⟩)) H') :
  CallsH Try.prog 16 #[.int .i64 (n : Nat), .slice a len ca, .int .i64 tm, .int .i64 mo] H L := by
 refine call16 (by simp) ?_
 simp only [Try.f16, Option.getD_some]
 repeat' (first|(with_reducible first|refine jA ?_|(refine hK _ _ ?_;clear hK K)|refine jJ fun K hK=>?_|refine jK ?_|refine jL ?_|refine jM ?_|refine jN ?_|refine jO ?_|refine jP ?_|refine jQ ?_|(refine jB ?_;clear hK K)|(refine jC ?_;clear hK K)|refine jD ?_|refine jE ?_|refine jG ?_|refine jH ?_|refine jI ?_)|((with_reducible refine jR ?hq ?_);case hq=>rfl)|((first|(with_reducible first|refine jS fun K hK=>?_|refine jT ?_|refine jU ?_)|((with_reducible refine jV ?hy fun K hK=>?_);case hy=>rfl));simp only [go_sem, Nat.reduceEqDiff, Nat.reduceAdd, Nat.reduceMul, Nat.reduceLeDiff, Nat.reduceLT, Int.reduceLT, Int.reduceLE, Int.reduceEq, Int.reduceNeg, Int.reduceToNat, Nat.reducePow, reduceIte, reduceCtorEq])|((with_reducible first|refine jW ?hy ?_|refine jY ?hy ?_);case hy=>rfl)|((with_reducible first|refine jX ?hy ?_|refine jZ ?hy ?_);case hy=>rfl)|((with_reducible refine jF ?hy ?_);case hy=>decide))
 refine m_new hn hn64 fun H1 f T1 hM1 f1 hT1 => ?_
 have S1 : MS H H1 f T1 n [] [] := ⟨hM1, f1, hT1⟩
 repeat' (first|(with_reducible first|refine jA ?_|(refine hK _ _ ?_;clear hK K)|refine jJ fun K hK=>?_|refine jK ?_|refine jL ?_|refine jM ?_|refine jN ?_|refine jO ?_|refine jP ?_|refine jQ ?_|(refine jB ?_;clear hK K)|(refine jC ?_;clear hK K)|refine jD ?_|refine jE ?_|refine jG ?_|refine jH ?_|refine jI ?_)|((with_reducible refine jR ?hq ?_);case hq=>rfl)|((first|(with_reducible first|refine jS fun K hK=>?_|refine jT ?_|refine jU ?_)|((with_reducible refine jV ?hy fun K hK=>?_);case hy=>rfl));simp only [go_sem, Nat.reduceEqDiff, Nat.reduceAdd, Nat.reduceMul, Nat.reduceLeDiff, Nat.reduceLT, Int.reduceLT, Int.reduceLE, Int.reduceEq, Int.reduceNeg, Int.reduceToNat, Nat.reducePow, reduceIte, reduceCtorEq])|((with_reducible first|refine jW ?hy ?_|refine jY ?hy ?_);case hy=>rfl)|((with_reducible first|refine jX ?hy ?_|refine jZ ?hy ?_);case hy=>rfl)|((with_reducible refine jF ?hy ?_);case hy=>decide))
 refine x_loop (fun m e' H' => ∃ (i : Nat) (T : Nat → Prop) (F : List Ed), e' 11 = .int .i64 (i : Nat) ∧ i ≤ min len 150 ∧ MS H H' f T n (eLs n zs tm mo i) F ∧ m = len - i) len ⟨0, T1, [], rfl, Nat.zero_le _, S1, rfl⟩ ?_
 rintro m e1 H2 ⟨i, T2, F2, i11, hi, S2, hm⟩ hoff
 have i0 : e1 0 = .int .i64 (n : Nat) := (hoff 0 rfl).trans rfl
 have i1 : e1 1 = .slice a len ca := (hoff 1 rfl).trans rfl
 have i2 : e1 2 = .int .i64 tm := (hoff 2 rfl).trans rfl
 have i3 : e1 3 = .int .i64 mo := (hoff 3 rfl).trans rfl
 have i9 : e1 9 = .pointer (some ⟨f, 0, none⟩) := (hoff 9 rfl).trans rfl
 clear hoff S1
 by_cases hlt : i < len
 ·have t1 : ((i : Int) < (len : Int)) = True := eq_true (by omega)
  have t1' : (i < len) = True := eq_true hlt
  have ew : IntKind.i64.wrap ((i : Int) + 1) = ((i + 1 : Nat) : Int) := by rw [wrap_i64] <;> omega
  by_cases h150 : i < 150
  ·have t2 : ((i : Int) < 150) = True := eq_true (by omega)
   have t2' : (i < 150) = True := eq_true h150
   obtain ⟨q, rfl, q0, q1, q2, q3⟩ := (hin.frame S2.fr).at hlt
   obtain ⟨⟨_, hu0, hu1⟩, ⟨hv0, hv1⟩, hw0, hw1⟩ : FitE (zs i) := hin.2 i hlt
   repeat' (first|(with_reducible first|refine jA ?_|(refine hK _ _ ?_;clear hK K)|refine jJ fun K hK=>?_|refine jK ?_|refine jL ?_|refine jM ?_|refine jN ?_|refine jO ?_|refine jP ?_|refine jQ ?_|(refine jB ?_;clear hK K)|(refine jC ?_;clear hK K)|refine jD ?_|refine jE ?_|refine jG ?_|refine jH ?_|refine jI ?_)|((with_reducible refine jR ?hq ?_);case hq=>rfl)|((first|(with_reducible first|refine jS fun K hK=>?_|refine jT ?_|refine jU ?_)|((with_reducible refine jV ?hy fun K hK=>?_);case hy=>rfl));simp only [go_sem, Nat.reduceEqDiff, Nat.reduceAdd, Nat.reduceMul, Nat.reduceLeDiff, Nat.reduceLT, Int.reduceLT, Int.reduceLE, Int.reduceEq, Int.reduceNeg, Int.reduceToNat, Nat.reducePow, reduceIte, reduceCtorEq, i1, i11, t1, t1', t2, t2'])|((with_reducible first|refine jW ?hy ?_|refine jY ?hy ?_);case hy=>rfl)|((with_reducible first|refine jX ?hy ?_|refine jZ ?hy ?_);case hy=>rfl)|((with_reducible refine jF ?hy ?_);case hy=>decide))
   have qS : Cells [((q.add (i * 4)).block, (q.add (i * 4)).off + 1, .int .i64 (zs i).u), ((q.add (i * 4)).block, (q.add (i * 4)).off + 2, .int .i64 (zs i).v), ((q.add (i * 4)).block, (q.add (i * 4)).off + 3, .int .i64 (zs i).w)] H2 := ⟨q1, q2, q3, trivial⟩
   refine x_drawS [27] [0, 1, 2, 3, 4, 5, 6, 7, 9, 10, 11, 12, 13, 14, 16, 17, 18, 19, 20, 23, 25, 8, 15, 21, 22, 24, 26, 27] rfl (by kernel_rfl) (Cells _) qS ?_
   repeat' (first|(with_reducible refine xs_nil ?_)|((first|((with_reducible apply xs_rd);case hi=>rfl)|((with_reducible apply xs_guard_yes);(case hi=>rfl);(case hy=>rfl)));(case hr=>rfl);(case h1=>intro H' hS'; (try simp only [Cells, and_true] at hS');simp only [go_sem, Nat.reduceEqDiff, Nat.reduceAdd, Nat.reduceMul, Nat.reduceLeDiff, Nat.reduceLT, Int.reduceLT, Int.reduceLE, Int.reduceEq, Int.reduceNeg, Int.reduceToNat, Nat.reducePow, reduceIte, reduceCtorEq, i0, i1, i2, i3, i9, i11, t1', hS']; rfl))|((with_reducible refine xs_tail ?hz ?_);case hz=>rfl)|((with_reducible refine xs_keep ?hz ?_);case hz=>first|(with_reducible assumption)|(simp only [go_sem, Nat.reduceEqDiff, Nat.reduceAdd, Nat.reduceMul, Nat.reduceLeDiff, Nat.reduceLT, Int.reduceLT, Int.reduceLE, Int.reduceEq, Int.reduceNeg, Int.reduceToNat, Nat.reducePow, reduceIte, reduceCtorEq, Cells, and_true, i0, i1, i2, i3, i9, i11, t1']; done)|assumption)|((with_reducible apply xs_guard_no);(case hi=>rfl);(case hy=>rfl);(case hS=>assumption))|((first|((with_reducible apply xs_op);(case hi=>rfl))|((with_reducible apply xs_op_yes);(case hi=>rfl);(case hy=>rfl)));(case hr=>rfl);intro K hK; simp only [go_sem, Nat.reduceEqDiff, Nat.reduceAdd, Nat.reduceMul, Nat.reduceLeDiff, Nat.reduceLT, Int.reduceLT, Int.reduceLE, Int.reduceEq, Int.reduceNeg, Int.reduceToNat, Nat.reducePow, reduceIte, reduceCtorEq, i0, i1, i2, i3, i9, i11, t1'])|(with_reducible first|refine jA ?_|(refine hK _ _ ?_;clear hK K)|refine jJ fun K hK=>?_|refine jK ?_|refine jL ?_|refine jM ?_|refine jN ?_|refine jO ?_|refine jP ?_|refine jQ ?_|(refine jB ?_;clear hK K)|(refine jC ?_;clear hK K)|refine jD ?_|refine jE ?_|refine jG ?_|refine jH ?_|refine jI ?_)|((with_reducible refine jR ?hq ?_);case hq=>rfl)|((first|(with_reducible first|refine jS fun K hK=>?_|refine jT ?_|refine jU ?_)|((with_reducible refine jV ?hy fun K hK=>?_);case hy=>rfl));simp only [go_sem, Nat.reduceEqDiff, Nat.reduceAdd, Nat.reduceMul, Nat.reduceLeDiff, Nat.reduceLT, Int.reduceLT, Int.reduceLE, Int.reduceEq, Int.reduceNeg, Int.reduceToNat, Nat.reducePow, reduceIte, reduceCtorEq, i0, i1, i2, i3, i9, i11, t1'])|((with_reducible first|refine jW ?hy ?_|refine jY ?hy ?_);case hy=>rfl)|((with_reducible first|refine jX ?hy ?_|refine jZ ?hy ?_);case hy=>rfl)|((with_reducible refine jF ?hy ?_);case hy=>decide))
   refine Pkisthmuslaw07.pick_ok (n := (n : Int)) hu0 hu1 (by omega) ?_
   repeat' (first|(with_reducible refine xs_nil ?_)|((first|((with_reducible apply xs_rd);case hi=>rfl)|((with_reducible apply xs_guard_yes);(case hi=>rfl);(case hy=>rfl)));(case hr=>rfl);(case h1=>intro H' hS'; (try simp only [Cells, and_true] at hS');simp only [go_sem, Nat.reduceEqDiff, Nat.reduceAdd, Nat.reduceMul, Nat.reduceLeDiff, Nat.reduceLT, Int.reduceLT, Int.reduceLE, Int.reduceEq, Int.reduceNeg, Int.reduceToNat, Nat.reducePow, reduceIte, reduceCtorEq, i0, i1, i2, i3, i9, i11, t1', hS']; rfl))|((with_reducible refine xs_tail ?hz ?_);case hz=>rfl)|((with_reducible refine xs_keep ?hz ?_);case hz=>first|(with_reducible assumption)|(simp only [go_sem, Nat.reduceEqDiff, Nat.reduceAdd, Nat.reduceMul, Nat.reduceLeDiff, Nat.reduceLT, Int.reduceLT, Int.reduceLE, Int.reduceEq, Int.reduceNeg, Int.reduceToNat, Nat.reducePow, reduceIte, reduceCtorEq, Cells, and_true, i0, i1, i2, i3, i9, i11, t1']; done)|assumption)|((with_reducible apply xs_guard_no);(case hi=>rfl);(case hy=>rfl);(case hS=>assumption))|((first|((with_reducible apply xs_op);(case hi=>rfl))|((with_reducible apply xs_op_yes);(case hi=>rfl);(case hy=>rfl)));(case hr=>rfl);intro K hK; simp only [go_sem, Nat.reduceEqDiff, Nat.reduceAdd, Nat.reduceMul, Nat.reduceLeDiff, Nat.reduceLT, Int.reduceLT, Int.reduceLE, Int.reduceEq, Int.reduceNeg, Int.reduceToNat, Nat.reducePow, reduceIte, reduceCtorEq, i0, i1, i2, i3, i9, i11, t1'])|(with_reducible first|refine jA ?_|(refine hK _ _ ?_;clear hK K)|refine jJ fun K hK=>?_|refine jK ?_|refine jL ?_|refine jM ?_|refine jN ?_|refine jO ?_|refine jP ?_|refine jQ ?_|(refine jB ?_;clear hK K)|(refine jC ?_;clear hK K)|refine jD ?_|refine jE ?_|refine jG ?_|refine jH ?_|refine jI ?_)|((with_reducible refine jR ?hq ?_);case hq=>rfl)|((first|(with_reducible first|refine jS fun K hK=>?_|refine jT ?_|refine jU ?_)|((with_reducible refine jV ?hy fun K hK=>?_);case hy=>rfl));simp only [go_sem, Nat.reduceEqDiff, Nat.reduceAdd, Nat.reduceMul, Nat.reduceLeDiff, Nat.reduceLT, Int.reduceLT, Int.reduceLE, Int.reduceEq, Int.reduceNeg, Int.reduceToNat, Nat.reducePow, reduceIte, reduceCtorEq, i0, i1, i2, i3, i9, i11, t1'])|((with_reducible first|refine jW ?hy ?_|refine jY ?hy ?_);case hy=>rfl)|((with_reducible first|refine jX ?hy ?_|refine jZ ?hy ?_);case hy=>rfl)|((with_reducible refine jF ?hy ?_);case hy=>decide))
   refine Pkisthmuslaw07.pick_ok (n := (n : Int)) hv0 hv1 (by omega) ?_
   obtain ⟨p0, p1⟩ := pick_rg (c := (zs i).w) (m := 41) (by omega)
   have e41 : ((41 : Nat) : Int) = 41 := rfl
   rw [e41] at p0 p1
   repeat' (first|(with_reducible refine xs_nil ?_)|((first|((with_reducible apply xs_rd);case hi=>rfl)|((with_reducible apply xs_guard_yes);(case hi=>rfl);(case hy=>rfl)));(case hr=>rfl);(case h1=>intro H' hS'; (try simp only [Cells, and_true] at hS');simp only [go_sem, Nat.reduceEqDiff, Nat.reduceAdd, Nat.reduceMul, Nat.reduceLeDiff, Nat.reduceLT, Int.reduceLT, Int.reduceLE, Int.reduceEq, Int.reduceNeg, Int.reduceToNat, Nat.reducePow, reduceIte, reduceCtorEq, i0, i1, i2, i3, i9, i11, t1', hS']; rfl))|((with_reducible refine xs_tail ?hz ?_);case hz=>rfl)|((with_reducible refine xs_keep ?hz ?_);case hz=>first|(with_reducible assumption)|(simp only [go_sem, Nat.reduceEqDiff, Nat.reduceAdd, Nat.reduceMul, Nat.reduceLeDiff, Nat.reduceLT, Int.reduceLT, Int.reduceLE, Int.reduceEq, Int.reduceNeg, Int.reduceToNat, Nat.reducePow, reduceIte, reduceCtorEq, Cells, and_true, i0, i1, i2, i3, i9, i11, t1']; done)|assumption)|((with_reducible apply xs_guard_no);(case hi=>rfl);(case hy=>rfl);(case hS=>assumption))|((first|((with_reducible apply xs_op);(case hi=>rfl))|((with_reducible apply xs_op_yes);(case hi=>rfl);(case hy=>rfl)));(case hr=>rfl);intro K hK; simp only [go_sem, Nat.reduceEqDiff, Nat.reduceAdd, Nat.reduceMul, Nat.reduceLeDiff, Nat.reduceLT, Int.reduceLT, Int.reduceLE, Int.reduceEq, Int.reduceNeg, Int.reduceToNat, Nat.reducePow, reduceIte, reduceCtorEq, i0, i1, i2, i3, i9, i11, t1'])|(with_reducible first|refine jA ?_|(refine hK _ _ ?_;clear hK K)|refine jJ fun K hK=>?_|refine jK ?_|refine jL ?_|refine jM ?_|refine jN ?_|refine jO ?_|refine jP ?_|refine jQ ?_|(refine jB ?_;clear hK K)|(refine jC ?_;clear hK K)|refine jD ?_|refine jE ?_|refine jG ?_|refine jH ?_|refine jI ?_)|((with_reducible refine jR ?hq ?_);case hq=>rfl)|((first|(with_reducible first|refine jS fun K hK=>?_|refine jT ?_|refine jU ?_)|((with_reducible refine jV ?hy fun K hK=>?_);case hy=>rfl));simp only [go_sem, Nat.reduceEqDiff, Nat.reduceAdd, Nat.reduceMul, Nat.reduceLeDiff, Nat.reduceLT, Int.reduceLT, Int.reduceLE, Int.reduceEq, Int.reduceNeg, Int.reduceToNat, Nat.reducePow, reduceIte, reduceCtorEq, i0, i1, i2, i3, i9, i11, t1'])|((with_reducible first|refine jW ?hy ?_|refine jY ?hy ?_);case hy=>rfl)|((with_reducible first|refine jX ?hy ?_|refine jZ ?hy ?_);case hy=>rfl)|((with_reducible refine jF ?hy ?_);case hy=>decide))
   refine Pkisthmuslaw07.pick_ok (n := 41) hw0 hw1 (by omega) ?_
   obtain ⟨m0, m1⟩ := mul_rg (c := pickN (zs i).w 41 - 20) (t := tm) (by omega) (by omega) htm.1 htm.2
   have ew1 : IntKind.i64.wrap (pickN (zs i).w 41 - 20) = pickN (zs i).w 41 - 20 := by rw [wrap_i64] <;> omega
   have ew2 : IntKind.i64.wrap ((pickN (zs i).w 41 - 20) * tm) = (pickN (zs i).w 41 - 20) * tm := by rw [wrap_i64] <;> omega
   have ew3 : IntKind.i64.wrap ((pickN (zs i).w 41 - 20) * tm + mo) = (pickN (zs i).w 41 - 20) * tm + mo := by rw [wrap_i64] <;> omega
   repeat' (first|(with_reducible refine xs_nil ?_)|((first|((with_reducible apply xs_rd);case hi=>rfl)|((with_reducible apply xs_guard_yes);(case hi=>rfl);(case hy=>rfl)));(case hr=>rfl);(case h1=>intro H' hS'; (try simp only [Cells, and_true] at hS');simp only [go_sem, Nat.reduceEqDiff, Nat.reduceAdd, Nat.reduceMul, Nat.reduceLeDiff, Nat.reduceLT, Int.reduceLT, Int.reduceLE, Int.reduceEq, Int.reduceNeg, Int.reduceToNat, Nat.reducePow, reduceIte, reduceCtorEq, i0, i1, i2, i3, i9, i11, t1', ew1, ew2, ew3, hS']; rfl))|((with_reducible refine xs_tail ?hz ?_);case hz=>rfl)|((with_reducible refine xs_keep ?hz ?_);case hz=>first|(with_reducible assumption)|(simp only [go_sem, Nat.reduceEqDiff, Nat.reduceAdd, Nat.reduceMul, Nat.reduceLeDiff, Nat.reduceLT, Int.reduceLT, Int.reduceLE, Int.reduceEq, Int.reduceNeg, Int.reduceToNat, Nat.reducePow, reduceIte, reduceCtorEq, Cells, and_true, i0, i1, i2, i3, i9, i11, t1', ew1, ew2, ew3]; done)|assumption)|((with_reducible apply xs_guard_no);(case hi=>rfl);(case hy=>rfl);(case hS=>assumption))|((first|((with_reducible apply xs_op);(case hi=>rfl))|((with_reducible apply xs_op_yes);(case hi=>rfl);(case hy=>rfl)));(case hr=>rfl);intro K hK; simp only [go_sem, Nat.reduceEqDiff, Nat.reduceAdd, Nat.reduceMul, Nat.reduceLeDiff, Nat.reduceLT, Int.reduceLT, Int.reduceLE, Int.reduceEq, Int.reduceNeg, Int.reduceToNat, Nat.reducePow, reduceIte, reduceCtorEq, i0, i1, i2, i3, i9, i11, t1', ew1, ew2, ew3])|(with_reducible first|refine jA ?_|(refine hK _ _ ?_;clear hK K)|refine jJ fun K hK=>?_|refine jK ?_|refine jL ?_|refine jM ?_|refine jN ?_|refine jO ?_|refine jP ?_|refine jQ ?_|(refine jB ?_;clear hK K)|(refine jC ?_;clear hK K)|refine jD ?_|refine jE ?_|refine jG ?_|refine jH ?_|refine jI ?_)|((with_reducible refine jR ?hq ?_);case hq=>rfl)|((first|(with_reducible first|refine jS fun K hK=>?_|refine jT ?_|refine jU ?_)|((with_reducible refine jV ?hy fun K hK=>?_);case hy=>rfl));simp only [go_sem, Nat.reduceEqDiff, Nat.reduceAdd, Nat.reduceMul, Nat.reduceLeDiff, Nat.reduceLT, Int.reduceLT, Int.reduceLE, Int.reduceEq, Int.reduceNeg, Int.reduceToNat, Nat.reducePow, reduceIte, reduceCtorEq, i0, i1, i2, i3, i9, i11, t1', ew1, ew2, ew3])|((with_reducible first|refine jW ?hy ?_|refine jY ?hy ?_);case hy=>rfl)|((with_reducible first|refine jX ?hy ?_|refine jZ ?hy ?_);case hy=>rfl)|((with_reducible refine jF ?hy ?_);case hy=>decide))
   have hins := eLs_ins (n := n) (zs := zs) (tm := tm) (mo := mo) (k := i) (by omega) h150 ⟨show _ ≤ (pickN (zs i).w 41 - 20) * tm + mo by omega, show (pickN (zs i).w 41 - 20) * tm + mo ≤ _ by omega⟩
   have hsc := eLs_succ (n := n) (zs := zs) (tm := tm) (mo := mo) i
   by_cases heq : (eOf n zs tm mo i).u = (eOf n zs tm mo i).v
   ·rw [if_pos heq] at hins
    rw [if_neg (fun h => h heq), List.append_nil] at hsc
    refine m_insert S2.m (fun c hc hne H3 hM3 hf3 => ?_) fun h0 => ?_
    ·repeat' (first|(with_reducible refine xs_nil ?_)|((first|((with_reducible apply xs_rd);case hi=>rfl)|((with_reducible apply xs_guard_yes);(case hi=>rfl);(case hy=>rfl)));(case hr=>rfl);(case h1=>intro H' hS'; (try simp only [Cells, and_true] at hS');simp only [go_sem, Nat.reduceEqDiff, Nat.reduceAdd, Nat.reduceMul, Nat.reduceLeDiff, Nat.reduceLT, Int.reduceLT, Int.reduceLE, Int.reduceEq, Int.reduceNeg, Int.reduceToNat, Nat.reducePow, reduceIte, reduceCtorEq, i11, ew, hS']; rfl))|((with_reducible refine xs_tail ?hz ?_);case hz=>rfl)|((with_reducible refine xs_keep ?hz ?_);case hz=>first|(with_reducible assumption)|(simp only [go_sem, Nat.reduceEqDiff, Nat.reduceAdd, Nat.reduceMul, Nat.reduceLeDiff, Nat.reduceLT, Int.reduceLT, Int.reduceLE, Int.reduceEq, Int.reduceNeg, Int.reduceToNat, Nat.reducePow, reduceIte, reduceCtorEq, Cells, and_true, i11, ew]; done)|assumption)|((with_reducible apply xs_guard_no);(case hi=>rfl);(case hy=>rfl);(case hS=>assumption))|((first|((with_reducible apply xs_op);(case hi=>rfl))|((with_reducible apply xs_op_yes);(case hi=>rfl);(case hy=>rfl)));(case hr=>rfl);intro K hK; simp only [go_sem, Nat.reduceEqDiff, Nat.reduceAdd, Nat.reduceMul, Nat.reduceLeDiff, Nat.reduceLT, Int.reduceLT, Int.reduceLE, Int.reduceEq, Int.reduceNeg, Int.reduceToNat, Nat.reducePow, reduceIte, reduceCtorEq, i11, ew])|(with_reducible first|refine jA ?_|(refine hK _ _ ?_;clear hK K)|refine jJ fun K hK=>?_|refine jK ?_|refine jL ?_|refine jM ?_|refine jN ?_|refine jO ?_|refine jP ?_|refine jQ ?_|(refine jB ?_;clear hK K)|(refine jC ?_;clear hK K)|refine jD ?_|refine jE ?_|refine jG ?_|refine jH ?_|refine jI ?_)|((with_reducible refine jR ?hq ?_);case hq=>rfl)|((first|(with_reducible first|refine jS fun K hK=>?_|refine jT ?_|refine jU ?_)|((with_reducible refine jV ?hy fun K hK=>?_);case hy=>rfl));simp only [go_sem, Nat.reduceEqDiff, Nat.reduceAdd, Nat.reduceMul, Nat.reduceLeDiff, Nat.reduceLT, Int.reduceLT, Int.reduceLE, Int.reduceEq, Int.reduceNeg, Int.reduceToNat, Nat.reducePow, reduceIte, reduceCtorEq, i11, ew])|((with_reducible first|refine jW ?hy ?_|refine jY ?hy ?_);case hy=>rfl)|((with_reducible first|refine jX ?hy ?_|refine jZ ?hy ?_);case hy=>rfl)|((with_reducible refine jF ?hy ?_);case hy=>decide))
     exact loop_normal (m' := len - (i + 1)) (by omega) ⟨i + 1, T2, F2, rfl, by omega, by rw [hsc]; exact ⟨hM3, S2.fr.trans hf3, S2.new⟩, rfl⟩
    ·rw [show insC n (eLs n zs tm mo i) ((i : Nat) : Int) (pickN (zs i).u n) (pickN (zs i).v n) ((pickN (zs i).w 41 - 20) * tm + mo) = 72 from hins] at h0
     cases h0
   ·rw [if_neg heq] at hins
    rw [if_pos heq] at hsc
    refine ins_ok S2.m hins fun H3 T3 F3 hM3 _ hf3 hT3 => ?_
    repeat' (first|(with_reducible refine xs_nil ?_)|((first|((with_reducible apply xs_rd);case hi=>rfl)|((with_reducible apply xs_guard_yes);(case hi=>rfl);(case hy=>rfl)));(case hr=>rfl);(case h1=>intro H' hS'; (try simp only [Cells, and_true] at hS');simp only [go_sem, Nat.reduceEqDiff, Nat.reduceAdd, Nat.reduceMul, Nat.reduceLeDiff, Nat.reduceLT, Int.reduceLT, Int.reduceLE, Int.reduceEq, Int.reduceNeg, Int.reduceToNat, Nat.reducePow, reduceIte, reduceCtorEq, i11, ew, hS']; rfl))|((with_reducible refine xs_tail ?hz ?_);case hz=>rfl)|((with_reducible refine xs_keep ?hz ?_);case hz=>first|(with_reducible assumption)|(simp only [go_sem, Nat.reduceEqDiff, Nat.reduceAdd, Nat.reduceMul, Nat.reduceLeDiff, Nat.reduceLT, Int.reduceLT, Int.reduceLE, Int.reduceEq, Int.reduceNeg, Int.reduceToNat, Nat.reducePow, reduceIte, reduceCtorEq, Cells, and_true, i11, ew]; done)|assumption)|((with_reducible apply xs_guard_no);(case hi=>rfl);(case hy=>rfl);(case hS=>assumption))|((first|((with_reducible apply xs_op);(case hi=>rfl))|((with_reducible apply xs_op_yes);(case hi=>rfl);(case hy=>rfl)));(case hr=>rfl);intro K hK; simp only [go_sem, Nat.reduceEqDiff, Nat.reduceAdd, Nat.reduceMul, Nat.reduceLeDiff, Nat.reduceLT, Int.reduceLT, Int.reduceLE, Int.reduceEq, Int.reduceNeg, Int.reduceToNat, Nat.reducePow, reduceIte, reduceCtorEq, i11, ew])|(with_reducible first|refine jA ?_|(refine hK _ _ ?_;clear hK K)|refine jJ fun K hK=>?_|refine jK ?_|refine jL ?_|refine jM ?_|refine jN ?_|refine jO ?_|refine jP ?_|refine jQ ?_|(refine jB ?_;clear hK K)|(refine jC ?_;clear hK K)|refine jD ?_|refine jE ?_|refine jG ?_|refine jH ?_|refine jI ?_)|((with_reducible refine jR ?hq ?_);case hq=>rfl)|((first|(with_reducible first|refine jS fun K hK=>?_|refine jT ?_|refine jU ?_)|((with_reducible refine jV ?hy fun K hK=>?_);case hy=>rfl));simp only [go_sem, Nat.reduceEqDiff, Nat.reduceAdd, Nat.reduceMul, Nat.reduceLeDiff, Nat.reduceLT, Int.reduceLT, Int.reduceLE, Int.reduceEq, Int.reduceNeg, Int.reduceToNat, Nat.reducePow, reduceIte, reduceCtorEq, i11, ew])|((with_reducible first|refine jW ?hy ?_|refine jY ?hy ?_);case hy=>rfl)|((with_reducible first|refine jX ?hy ?_|refine jZ ?hy ?_);case hy=>rfl)|((with_reducible refine jF ?hy ?_);case hy=>decide))
    exact loop_normal (m' := len - (i + 1)) (by omega) ⟨i + 1, T3, F3, rfl, by omega, by rw [hsc]; exact S2.op hM3 hf3 hT3, rfl⟩
  ·have t2 : ((i : Int) < 150) = False := eq_false (by omega)
   have t2' : (i < 150) = False := eq_false h150
   repeat' (first|(with_reducible first|refine jA ?_|(refine hK _ _ ?_;clear hK K)|refine jJ fun K hK=>?_|refine jK ?_|refine jL ?_|refine jM ?_|refine jN ?_|refine jO ?_|refine jP ?_|refine jQ ?_|(refine jB ?_;clear hK K)|(refine jC ?_;clear hK K)|refine jD ?_|refine jE ?_|refine jG ?_|refine jH ?_|refine jI ?_)|((with_reducible refine jR ?hq ?_);case hq=>rfl)|((first|(with_reducible first|refine jS fun K hK=>?_|refine jT ?_|refine jU ?_)|((with_reducible refine jV ?hy fun K hK=>?_);case hy=>rfl));simp only [go_sem, Nat.reduceEqDiff, Nat.reduceAdd, Nat.reduceMul, Nat.reduceLeDiff, Nat.reduceLT, Int.reduceLT, Int.reduceLE, Int.reduceEq, Int.reduceNeg, Int.reduceToNat, Nat.reducePow, reduceIte, reduceCtorEq, i1, i9, i11, t1, t1', t2, t2'])|((with_reducible first|refine jW ?hy ?_|refine jY ?hy ?_);case hy=>rfl)|((with_reducible first|refine jX ?hy ?_|refine jZ ?hy ?_);case hy=>rfl)|((with_reducible refine jF ?hy ?_);case hy=>decide))
   have e : min len 150 = i := by omega
   rw [e] at fin
   exact fin H2 f T2 F2 S2
 ·have t1 : ((i : Int) < (len : Int)) = False := eq_false (by omega)
  have t1' : (i < len) = False := eq_false hlt
  repeat' (first|(with_reducible first|refine jA ?_|(refine hK _ _ ?_;clear hK K)|refine jJ fun K hK=>?_|refine jK ?_|refine jL ?_|refine jM ?_|refine jN ?_|refine jO ?_|refine jP ?_|refine jQ ?_|(refine jB ?_;clear hK K)|(refine jC ?_;clear hK K)|refine jD ?_|refine jE ?_|refine jG ?_|refine jH ?_|refine jI ?_)|((with_reducible refine jR ?hq ?_);case hq=>rfl)|((first|(with_reducible first|refine jS fun K hK=>?_|refine jT ?_|refine jU ?_)|((with_reducible refine jV ?hy fun K hK=>?_);case hy=>rfl));simp only [go_sem, Nat.reduceEqDiff, Nat.reduceAdd, Nat.reduceMul, Nat.reduceLeDiff, Nat.reduceLT, Int.reduceLT, Int.reduceLE, Int.reduceEq, Int.reduceNeg, Int.reduceToNat, Nat.reducePow, reduceIte, reduceCtorEq, i1, i9, i11, t1, t1'])|((with_reducible first|refine jW ?hy ?_|refine jY ?hy ?_);case hy=>rfl)|((with_reducible first|refine jX ?hy ?_|refine jZ ?hy ?_);case hy=>rfl)|((with_reducible refine jF ?hy ?_);case hy=>decide))
  have e : min len 150 = i := by omega
  rw [e] at fin
  exact fin H2 f T2 F2 S2
end
end Go.Proofs.Ytafehbegoanajaa
namespace Go.Ms
open Go Go.Hp Go.Li Go.Br
open Go.Proofs.Ytafehbegoanajaa (inB okArg inB_of)
theorem inB_in {n : Nat} {a : Int} {k : Nat} (h : a = k) (hk : k < n) : inB n a = true := by subst h; exact inB_of hk
theorem insBack {n i : Nat} {l F : List Ed} {x : Ed} (h : Fp n l F) (hi : l[i]? = some x) : insC n (woL l i) x.id x.u x.v x.w = 0 := by
 have hx := List.mem_of_getElem? hi
 obtain ⟨⟨u, v, eu, ev, hu, hv, huv⟩, hok⟩ := h.ok x hx
 have h1 : ¬ ((inB n x.u && inB n x.v) = false) := by rw [inB_in eu hu, inB_in ev hv]; decide
 have h2 : ¬ (okArg x.id x.w = false) := by rw [hok]; decide
 have h3 : byId (woL l i) x.id = none := byId_none.2 fun y hy e => by
  have := (mem_wo h.uq hi).1 hy
  exact this.2 (uq_of h.uq y this.1 x hx e)
 have h4 := woL_len hi
 have h5 := h.len
 unfold insC
 rw [if_neg h1, if_neg h2, h3]
 have h6 : ¬ x.u = x.v := by rw [eu, ev]; omega
 simp [h6]; omega
end Go.Ms
namespace Go.Proofs.Ytafehbegoanajaa
open Go Go.Hp Go.Li Go.Br Go.Ms
theorem pick_n {H : Heap} {L : Value → Heap → Prop} {c : Int} {n : Nat} (h : -9223372036854775808 ≤ c ∧ c ≤ 9223372036854775807) (hn : 0 < n) (fin : ∀ k : Nat, pickN c n = k → k < n → L (.int .i64 (k : Nat)) H) : CallsH Try.prog 10 #[.int .i64 c, .int .i64 (n : Nat)] H L := by
 refine Pkisthmuslaw07.pick_ok h.1 h.2 (by omega) ?_
 obtain ⟨u0, u1⟩ := pickN_range c (n := (n : Int)) (by omega)
 obtain ⟨u, eu⟩ := Int.eq_ofNat_of_zero_le u0
 rw [eu] at u1 ⊢
 exact fin u eu (Int.ofNat_lt.1 u1)
end Go.Proofs.Ytafehbegoanajaa
namespace Go.Hp
open Go
section
variable {α : Type} {C : α → List Value} {k : Nat} {H : Heap} {B By : Option Nat} {s : Value} {xs ys : List α}
theorem SR.cap {a : Option Addr} {n c : Nat} (h : SR C k H B (.slice a n c) xs) : n ≤ c ∧ n = xs.length := by
 obtain ⟨_, ⟨_, h, hz⟩ | ⟨g, c', rest, _, h, _, _, hc⟩⟩ := h
 ·simp only [Value.slice.injEq] at h
  obtain ⟨_, rfl, rfl⟩ := h
  exact ⟨Nat.le_refl _, hz.symm⟩
 ·simp only [Value.slice.injEq] at h
  obtain ⟨_, rfl, rfl⟩ := h
  exact ⟨hc, rfl⟩
theorem append_part {P : Program} {t e : TypeId} {te : TL} {lo hi d c : Nat} {st a : Option Addr} {K : Value → Heap → Prop} (hC : ∀ x, (C x).length = k) (hp : ∀ x, ∀ u ∈ C x, plainVal u = true)
  (he : elems P t = some (none, e, k)) (ht : tl P e = some te) (hs : SR C k H B s xs) (hy : SR C k H By (.slice a ys.length c) ys) (h1 : lo ≤ hi) (h2 : hi ≤ ys.length) (hst : st = if c = lo then a else a.map (·.add (lo * k))) (hd : d = c - lo)
  (hb0 : 0 < te.bytes) (hb : 2 * (xs.length + (hi - lo)) * te.bytes ≤ 2 ^ 48) (hz : te.zero.cells.size = k)
  (hk : ∀ v' H' B', SR C k H' B' v' (xs ++ (ys.drop lo).take (hi - lo)) → Fr (fun b => B = some b) H H' → (B' = B ∨ ∃ g, B' = some g ∧ H.size ≤ g) → K v' H') : appendX P t s (.slice st (hi - lo) d) H K := by
 have hls : (hi - lo) = ((ys.drop lo).take (hi - lo)).length := by rw [List.length_take, List.length_drop]; omega
 obtain ⟨_, ⟨_, h, hz0⟩ | ⟨g, c', rest, hBy, h, hblk, hlen, hc⟩⟩ := id hy
 ·simp only [Value.slice.injEq] at h
  obtain ⟨rfl, h3, rfl⟩ := h
  have e1 : lo = 0 := by omega
  have e2 : hi = 0 := by omega
  subst e1 e2
  have e3 : st = none := by rw [hst]; simp
  subst e3 hd
  rw [Nat.sub_zero] at hk hb ⊢
  rw [List.take_zero, List.append_nil] at hk
  exact append_own he ht hs (m := 0) (new := []) (.inr ⟨rfl, rfl, rfl⟩) (fun _ h => by cases h) hb0 hb (by simp) hz fun v' H' B' ho hf hB => hk v' H' B' (by unfold SR; simpa using ho) hf hB
 ·simp only [Value.slice.injEq] at h
  obtain ⟨rfl, _, rfl⟩ := h
  by_cases hm : hi - lo = 0
  ·rw [hm] at hk hb ⊢
   rw [List.take_zero, List.append_nil] at hk
   obtain ⟨z, e3⟩ : ∃ z, st = some z := by
    rw [hst]
    split
    ·exact ⟨_, rfl⟩
    ·exact ⟨_, rfl⟩
   subst e3
   exact append_own he ht hs (m := 0) (new := []) (.inl ⟨_, _, rfl, by rw [Nat.zero_mul]; rfl⟩) (fun _ h => by cases h) hb0 hb (by simp) hz fun v' H' B' ho hf hB => hk v' H' B' (by unfold SR; simpa using ho) hf hB
  ·rw [if_neg (by omega)] at hst
   subst hst
   obtain ⟨g', c'', rfl, hv, hc⟩ := hy.open (by intro e; rw [e] at h2; simp at h2; omega)
   simp only [Value.slice.injEq, Option.some.injEq, Addr.mk.injEq] at hv
   obtain ⟨⟨rfl, _⟩, _, rfl⟩ := hv
   have rl := hy.readL hC (o := lo) (m := hi - lo) (by omega)
   rw [Option.map_some, add_mk, Nat.zero_add]
   exact append_srs hC hp he ht hs (ys := (ys.drop lo).take (hi - lo)) rl hls.symm hb0 hb hz hk
end
theorem ir_sr {H : Heap} {B : Option Nat} {v : Value} {xs : List Int} : IR H B v xs ↔ SR (fun x => [Value.int .i64 x]) 1 H B v xs := by
 unfold IR SR
 rw [List.map_eq_flatMap]
theorem whole_st (a : Option Addr) (c k : Nat) : a = if c = 0 then a else a.map (·.add (0 * k)) := by
 rw [Nat.zero_mul]
 cases a with
 | none => simp
 | some q => simp [Addr.add]
theorem append_irp {P : Program} {t e : TypeId} {te : TL} {H : Heap} {B By : Option Nat} {s : Value} {xs ys : List Int} {lo hi d c : Nat} {st a : Option Addr} {K : Value → Heap → Prop}
  (he : elems P t = some (none, e, 1)) (ht : tl P e = some te) (hs : IR H B s xs) (hy : IR H By (.slice a ys.length c) ys) (h1 : lo ≤ hi) (h2 : hi ≤ ys.length) (hst : st = if c = lo then a else a.map (·.add (lo * 1))) (hd : d = c - lo)
  (hb0 : 0 < te.bytes) (hb : 2 * (xs.length + (hi - lo)) * te.bytes ≤ 2 ^ 48) (hz : te.zero.cells.size = 1)
  (hk : ∀ v' H' B', IR H' B' v' (xs ++ (ys.drop lo).take (hi - lo)) → Fr (fun b => B = some b) H H' → (B' = B ∨ ∃ g, B' = some g ∧ H.size ≤ g) → K v' H') : appendX P t s (.slice st (hi - lo) d) H K :=
 append_part (C := fun x => [Value.int .i64 x]) (fun _ => rfl) (fun x u hu => by rw [List.mem_singleton.1 hu]; rfl) he ht (ir_sr.1 hs) (ir_sr.1 hy) h1 h2 hst hd hb0 hb hz fun v' H' B' h => hk v' H' B' (ir_sr.2 h)
end Go.Hp
