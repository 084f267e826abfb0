/-
  bridge.Of: whole.
  An oracle's calls.
  Parts: each vertex' least one, by lowering both ends of each edge until nothing changes.
  The helpers of a law's package: pick, same.
-/
import Derived.Test.YtpeaogldojepnaaG1
import Derived.Test.YtpeaogldojepnaaHpV
import Derived.Test.YtpeaogldojepnaaTabM
namespace Go.Br
open Go Go.Hp Go.Li
theorem ll_old {H : Heap} {b n : Nat} (hb : Blk H b (repL n [Value.slice none 0 0])) : LL (Value.int .i64) H (fun g => g = b) (.slice (some ⟨b, 0, none⟩) n n) (vr n fun _ => ([] : List Int)) := by
 have hr : ∀ m : Nat, repL m [Value.slice none 0 0] = (List.replicate m ((none, .slice none 0 0) : Option Nat × Value)).map Prod.snd := fun m => by
  induction m with
  | zero => rfl
  | succ m ih => rw [List.replicate_succ, List.map_cons, ← ih]; rfl
 refine ⟨some b, List.replicate n (none, .slice none 0 0), by simp [vr_len], ⟨by simp, .inr ⟨b, n, [], rfl, by simp, ?_, by simp, by simp⟩⟩, fun i e xs he hx => ?_, fun i j e e' g he _ hg => ?_, fun i e g he hg => ?_, fun g hg => (Option.some.inj hg).symm, fun g hg => by rw [hg]; exact hb.lt⟩
 ·rw [List.append_nil, ← hr]
  exact hb
 ·have h1 := List.eq_of_mem_replicate (List.mem_of_getElem? he)
  have h2 : xs = [] := by
   obtain ⟨k, _, e⟩ := List.mem_map.1 (List.mem_of_getElem? hx)
   exact e.symm
  subst h1 h2
  exact OR.nil _ _
 ·have h1 := List.eq_of_mem_replicate (List.mem_of_getElem? he)
  rw [h1] at hg; cases hg
 ·have h1 := List.eq_of_mem_replicate (List.mem_of_getElem? he)
  rw [h1] at hg; cases hg
theorem ir_old {H : Heap} {b n : Nat} (hb : Blk H b (repL n [Value.int .i64 0])) : IR H (some b) (.slice (some ⟨b, 0, none⟩) n n) (vr n (nI fun _ => 0)) := by
 refine ⟨by simp, .inr ⟨b, n, [], rfl, by rw [vr_len], ?_, by simp [vr_len], by rw [vr_len]; exact Nat.le_refl _⟩⟩
 rw [List.append_nil, show (nI fun _ => 0) = fun _ => (0 : Int) from rfl, ← rep0]
 exact hb
theorem brep (m : Nat) (b : Bool) : repL m [Value.bool b] = (vr m fun _ => b).map Value.bool := by
 have : repL m [Value.bool b] = (List.replicate m b).map Value.bool := by
  induction m with
  | zero => rfl
  | succ m ih => rw [List.replicate_succ, List.map_cons, ← ih]; rfl
 rw [this]
 unfold vr
 rw [List.map_const', List.length_range]
theorem br_old {H : Heap} {b n : Nat} (hb : Blk H b (repL n [Value.bool false])) : BR H (some b) (.slice (some ⟨b, 0, none⟩) n n) (vr n fun _ => false) := by
 refine ⟨by simp, .inr ⟨b, n, [], rfl, by rw [vr_len], ?_, by simp [vr_len], by rw [vr_len]; exact Nat.le_refl _⟩⟩
 rw [List.append_nil, ← brep]
 exact hb
structure OrM (H : Heap) (o : Nat) (T : Nat → Prop) (ids : List Int) (p : Nat → Nat) (n : Nat) : Prop where
 ex : ∃ vb Bb gb, Blk H o [vb, .slice (some ⟨gb, 0, none⟩) n n] ∧ IR H Bb vb ids ∧ IR H (some gb) (.slice (some ⟨gb, 0, none⟩) n n) (vr n (nI p)) ∧ T o ∧ T gb ∧ ∀ b, Bb = some b → T b
theorem OrM.frame {H H' : Heap} {o n : Nat} {T T' : Nat → Prop} {ids : List Int} {p : Nat → Nat} (h : OrM H o T ids p n) (hf : Fr T' H H') (hT : ∀ b, T b → ¬ T' b) : OrM H' o T ids p n := by
 obtain ⟨vb, Bb, gb, h1, h2, h3, h4, h5, h6⟩ := h
 exact ⟨vb, Bb, gb, h1.frame hf (hT _ h4), h2.frame hf fun b hb => hT _ (h6 b hb), h3.frame hf fun b hb => hT _ (by rw [← Option.some.inj hb]; exact h5), h4, h5, h6⟩
end Go.Br
namespace Go.Proofs.Ytpeaogldojepnaa
open Go Go.Hp Go.Li Go.Br
set_option linter.all false
set_option maxRecDepth 100000
set_option maxHeartbeats 3200000
section
variable {H H' : Heap} {l : List Ed} {n : Nat} {vl : Value} {Bl : Option Nat} {L : Value → Heap → Prop}
theorem Of_ok (hl : SR Ed.cells 4 H Bl vl l) (h1 : 1 ≤ n) (hn : n ≤ 64) (hlen : l.length ≤ 192) (hmay : May n l)
  (fin : ∀ H' o T ids p, OrM H' o T ids p n → (∀ b, T b → H.size ≤ b) → IsBr l ids → Least (Firm l) n p → (∀ v, v < n → p v < n) → Fr (fun _ => False) H H' → L (.tuple #[.pointer (some ⟨o, 0, none⟩), .int .i64 0]) H') :
  CallsH Try.prog 11 #[.int .i64 (n : Nat), vl] H L := by
 obtain ⟨sl, cl, rfl⟩ := hl.slice
 have t1 : ((n : Int) < 1) = False := eq_false (by omega)
 have t1' : (n < 1) = False := eq_false (by omega)
 have t2 : (64 < (n : Int)) = False := eq_false (by omega)
 have t2' : (64 < n) = False := eq_false (by omega)
 have t3 : (192 < (l.length : Int)) = False := eq_false (by omega)
 have t3' : (192 < l.length) = False := eq_false (by omega)
 refine call11 (by simp) ?_
 simp only [Try.f11, Option.getD_some]
 repeat' (first|(with_reducible first|refine jA ?_|(refine hK _ _ ?_;clear hK K)|refine jJ fun K hK=>?_|refine jK ?_|refine jL ?_|refine jM ?_|refine jN ?_|refine jO ?_|refine jP ?_|refine jQ ?_|(refine jB ?_;clear hK K)|(refine jC ?_;clear hK K)|refine jD ?_|refine jE ?_|refine jG ?_|refine jH ?_|refine jI ?_)|((with_reducible refine jR ?hq ?_);case hq=>rfl)|((first|(with_reducible first|refine jS fun K hK=>?_|refine jT ?_|refine jU ?_)|((with_reducible refine jV ?hy fun K hK=>?_);case hy=>rfl));simp only [go_sem, Nat.reduceEqDiff, Nat.reduceAdd, Nat.reduceMul, Nat.reduceLeDiff, Nat.reduceLT, Int.reduceLT, Int.reduceLE, Int.reduceEq, Int.reduceNeg, Int.reduceToNat, Nat.reducePow, reduceIte, reduceCtorEq, t1, t1', t2, t2', t3, t3'])|((with_reducible first|refine jW ?hy ?_|refine jY ?hy ?_);case hy=>rfl)|((with_reducible first|refine jX ?hy ?_|refine jZ ?hy ?_);case hy=>rfl)|((with_reducible refine jF ?hy ?_);case hy=>decide))
 refine may_ok hl hlen hn fun H1 f1 => ?_
 rw [decide_eq_true hmay]
 repeat' (first|(with_reducible first|refine jA ?_|(refine hK _ _ ?_;clear hK K)|refine jJ fun K hK=>?_|refine jK ?_|refine jL ?_|refine jM ?_|refine jN ?_|refine jO ?_|refine jP ?_|refine jQ ?_|(refine jB ?_;clear hK K)|(refine jC ?_;clear hK K)|refine jD ?_|refine jE ?_|refine jG ?_|refine jH ?_|refine jI ?_)|((with_reducible refine jR ?hq ?_);case hq=>rfl)|((first|(with_reducible first|refine jS fun K hK=>?_|refine jT ?_|refine jU ?_)|((with_reducible refine jV ?hy fun K hK=>?_);case hy=>rfl));simp only [go_sem, Nat.reduceEqDiff, Nat.reduceAdd, Nat.reduceMul, Nat.reduceLeDiff, Nat.reduceLT, Int.reduceLT, Int.reduceLE, Int.reduceEq, Int.reduceNeg, Int.reduceToNat, Nat.reducePow, reduceIte, reduceCtorEq, Bool.not_true])|((with_reducible first|refine jW ?hy ?_|refine jY ?hy ?_);case hy=>rfl)|((with_reducible first|refine jX ?hy ?_|refine jZ ?hy ?_);case hy=>rfl)|((with_reducible refine jF ?hy ?_);case hy=>decide))
 have tail : ∀ (e' : Env) (H' : Heap) (s gB gi gw gr : Nat), e' 0 = .int .i64 (n : Nat) → e' 1 = .slice sl l.length cl → e' 6 = .pointer (some ⟨s, 0, none⟩) →
   Blk H' s [.slice sl l.length cl, .slice (some ⟨gB, 0, none⟩) n n, .slice (some ⟨gi, 0, none⟩) n n, .slice (some ⟨gw, 0, none⟩) n n, .int .i64 0, .slice (some ⟨gr, 0, none⟩) l.length l.length] →
   Blk H' gB (repL n [Value.slice none 0 0]) → Blk H' gi (repL n [Value.int .i64 0]) → Blk H' gw (repL n [Value.int .i64 0]) → Blk H' gr (repL l.length [Value.bool false]) → Fr (fun _ => False) H1 H' → H1.size ≤ gB → H1.size ≤ gi → H1.size ≤ gw → H1.size ≤ gr → H1.size ≤ s →
   gB ≠ gi → gB ≠ gw → gB ≠ gr → gi ≠ gw → gi ≠ gr → gw ≠ gr → s ≠ gB → s ≠ gi → s ≠ gw → s ≠ gr → K e' H' := by
  intro e0 H2 s gB gi gw gr i0 i1 i6 hd bB bi bw br0 f2 sB si sw sr ss d1 d2 d3 d4 d5 d6 d7 d8 d9 d10
  have lB := bB.lt
  have li := bi.lt
  have lw := bw.lt
  have lr := br0.lt
  have ls := hd.lt
  have fH := f1.trans f2
  have hl2 := hl.frame fH fun _ _ h => h
  have hLB : ∀ b, Bl = some b → b < H1.size := fun b hb => Nat.lt_of_lt_of_le (hl.lt hb) f1.size
  have hL2 := ll_old (H := H2) (n := n) bB
  refine hK _ _ ?_
  clear hK K
  repeat' (first|(with_reducible first|refine jA ?_|(refine hK _ _ ?_;clear hK K)|refine jJ fun K hK=>?_|refine jK ?_|refine jL ?_|refine jM ?_|refine jN ?_|refine jO ?_|refine jP ?_|refine jQ ?_|(refine jB ?_;clear hK K)|(refine jC ?_;clear hK K)|refine jD ?_|refine jE ?_|refine jG ?_|refine jH ?_|refine jI ?_)|((with_reducible refine jR ?hq ?_);case hq=>rfl)|((first|(with_reducible first|refine jS fun K hK=>?_|refine jT ?_|refine jU ?_)|((with_reducible refine jV ?hy fun K hK=>?_);case hy=>rfl));simp only [go_sem, Nat.reduceEqDiff, Nat.reduceAdd, Nat.reduceMul, Nat.reduceLeDiff, Nat.reduceLT, Int.reduceLT, Int.reduceLE, Int.reduceEq, Int.reduceNeg, Int.reduceToNat, Nat.reducePow, reduceIte, reduceCtorEq, i1, i6])|((with_reducible first|refine jW ?hy ?_|refine jY ?hy ?_);case hy=>rfl)|((with_reducible first|refine jX ?hy ?_|refine jZ ?hy ?_);case hy=>rfl)|((with_reducible refine jF ?hy ?_);case hy=>decide))
  refine ofA hl2 hn hlen hmay hd rfl hL2 d7 (fun b hb e => by have := hLB b hb; omega) i0 i1 i6 rfl rfl rfl fun e3 H3 TB j0 j1 j6 hL3 hTB f3 => ?_
  have hd3 := hd.frame f3 d7
  have hl3 := hl2.frame f3 fun b hb e => by have := hLB b hb; omega
  have bi3 := bi.frame f3 (Ne.symm d1)
  have bw3 := bw.frame f3 (Ne.symm d2)
  have br3 := br0.frame f3 (Ne.symm d3)
  have hTB2 : ∀ b, TB b → b ≠ s ∧ b ≠ gi ∧ b ≠ gw ∧ b ≠ gr ∧ H1.size ≤ b := fun b hb => by
   rcases hTB b hb with e | e
   ·subst e; exact ⟨Ne.symm d7, d1, d2, d3, sB⟩
   ·have := f2.size
    exact ⟨by omega, by omega, by omega, by omega, by omega⟩
  obtain ⟨col, hcol⟩ : ∃ col : Nat → Nat, col = fun b => open Classical in if b = s then 1 else if b = gi then 2 else if b = gw then 3 else if b = gr then 4 else if Bl = some b then 5 else if TB b then 6 else 0 := ⟨_, rfl⟩
  have s3 := f3.size
  have hS : SeAt H3 s gi gw gr (.slice sl l.length cl) (.slice (some ⟨gB, 0, none⟩) n n) Bl TB col l n (besI l l.length) (fun _ => 0) (fun _ => 0) 0 (fun _ => false) := by
   refine ⟨hd3, hl3, hL3, ir_old bi3, ir_old bw3, br_old br3, by simp [hcol], by simp [hcol, Ne.symm d8], by simp [hcol, Ne.symm d9, Ne.symm d4], by simp [hcol, Ne.symm d10, Ne.symm d5, Ne.symm d6], fun b hb => ?_, fun b hb => ?_, fun b hb => ?_⟩
   ·have := hLB b hb
    have e1 : b ≠ s := by omega
    have e2 : b ≠ gi := by omega
    have e3 : b ≠ gw := by omega
    have e4 : b ≠ gr := by omega
    simp [hcol, e1, e2, e3, e4, hb]
   ·obtain ⟨e1, e2, e3, e4, e5⟩ := hTB2 b hb
    have e6 : ¬ Bl = some b := fun e => by have := hLB b e; omega
    simp [hcol, e1, e2, e3, e4, e6, hb]
   ·rw [hcol] at hb
    simp only at hb
    split at hb
    ·omega
    split at hb
    ·omega
    split at hb
    ·omega
    split at hb
    ·omega
    split at hb
    ·rename_i e; have := hLB b e; have := f2.size; omega
    split at hb
    ·rename_i e; exact hL3.lt e
    ·exact absurd rfl hb
  have hwr : ∀ b, Wr col b → H1.size ≤ b := fun b hb => by
   unfold Wr at hb
   rw [hcol] at hb
   simp only at hb
   split at hb
   ·omega
   split at hb
   ·omega
   split at hb
   ·omega
   split at hb
   ·omega
   split at hb
   ·omega
   split at hb <;> omega
  have hdg : ∀ v, v < n → (besI l l.length v).length ≤ 100000 := fun v _ => by
   have := List.length_filter_le (fun k => incB l k v) (List.range l.length)
   unfold besI
   rw [List.length_range] at this
   omega
  have hg := gok_of hmay
  clear hcol
  repeat' (first|(with_reducible first|refine jA ?_|(refine hK _ _ ?_;clear hK K)|refine jJ fun K hK=>?_|refine jK ?_|refine jL ?_|refine jM ?_|refine jN ?_|refine jO ?_|refine jP ?_|refine jQ ?_|(refine jB ?_;clear hK K)|(refine jC ?_;clear hK K)|refine jD ?_|refine jE ?_|refine jG ?_|refine jH ?_|refine jI ?_)|((with_reducible refine jR ?hq ?_);case hq=>rfl)|((first|(with_reducible first|refine jS fun K hK=>?_|refine jT ?_|refine jU ?_)|((with_reducible refine jV ?hy fun K hK=>?_);case hy=>rfl));simp only [go_sem, Nat.reduceEqDiff, Nat.reduceAdd, Nat.reduceMul, Nat.reduceLeDiff, Nat.reduceLT, Int.reduceLT, Int.reduceLE, Int.reduceEq, Int.reduceNeg, Int.reduceToNat, Nat.reducePow, reduceIte, reduceCtorEq, j0])|((with_reducible first|refine jW ?hy ?_|refine jY ?hy ?_);case hy=>rfl)|((with_reducible first|refine jX ?hy ?_|refine jZ ?hy ?_);case hy=>rfl)|((with_reducible refine jF ?hy ?_);case hy=>decide))
  refine ofB hg hn hlen hdg hS j1 j6 rfl rfl fun e4 H4 inn low c br T k1 k6 hS4 hI hall f4 => ?_
  have hdn := hI.done hg hall
  repeat' (first|(with_reducible first|refine jA ?_|(refine hK _ _ ?_;clear hK K)|refine jJ fun K hK=>?_|refine jK ?_|refine jL ?_|refine jM ?_|refine jN ?_|refine jO ?_|refine jP ?_|refine jQ ?_|(refine jB ?_;clear hK K)|(refine jC ?_;clear hK K)|refine jD ?_|refine jE ?_|refine jG ?_|refine jH ?_|refine jI ?_)|((with_reducible refine jR ?hq ?_);case hq=>rfl)|((first|(with_reducible first|refine jS fun K hK=>?_|refine jT ?_|refine jU ?_)|((with_reducible refine jV ?hy fun K hK=>?_);case hy=>rfl));simp only [go_sem, Nat.reduceEqDiff, Nat.reduceAdd, Nat.reduceMul, Nat.reduceLeDiff, Nat.reduceLT, Int.reduceLT, Int.reduceLE, Int.reduceEq, Int.reduceNeg, Int.reduceToNat, Nat.reducePow, reduceIte, reduceCtorEq, k6])|((with_reducible first|refine jW ?hy ?_|refine jY ?hy ?_);case hy=>rfl)|((with_reducible first|refine jX ?hy ?_|refine jZ ?hy ?_);case hy=>rfl)|((with_reducible refine jF ?hy ?_);case hy=>decide))
  refine sblocks_ok hg hn hlen hdg hS4 hdn fun H5 q p hP hpn hq hqs f5 => ?_
  have hS5 := hS4.frame f5 fun _ _ h => h
  have c5 := hS5.hd.cellOf (i := 5) rfl
  have bo := Blk.new H5 [.slice none 0 0, .slice (some ⟨q, 0, none⟩) n n] 63
  have fo : Fr (fun _ => False) H5 (H5.push (.cells #[.slice none 0 0, .slice (some ⟨q, 0, none⟩) n n] 63)) := (Fr.refl _ _).push _
  have l5 := hS5.lt
  have c5' := (hS5.frame fo fun _ _ h => h).hd.cellOf (i := 5) rfl
  repeat' (first|(with_reducible first|refine jA ?_|(refine hK _ _ ?_;clear hK K)|refine jJ fun K hK=>?_|refine jK ?_|refine jL ?_|refine jM ?_|refine jN ?_|refine jO ?_|refine jP ?_|refine jQ ?_|(refine jB ?_;clear hK K)|(refine jC ?_;clear hK K)|refine jD ?_|refine jE ?_|refine jG ?_|refine jH ?_|refine jI ?_)|((with_reducible refine jR ?hq ?_);case hq=>rfl)|((first|(with_reducible first|refine jS fun K hK=>?_|refine jT ?_|refine jU ?_)|((with_reducible refine jV ?hy fun K hK=>?_);case hy=>rfl));simp only [go_sem, Nat.reduceEqDiff, Nat.reduceAdd, Nat.reduceMul, Nat.reduceLeDiff, Nat.reduceLT, Int.reduceLT, Int.reduceLE, Int.reduceEq, Int.reduceNeg, Int.reduceToNat, Nat.reducePow, reduceIte, reduceCtorEq, k6, c5'])|((with_reducible first|refine jW ?hy ?_|refine jY ?hy ?_);case hy=>rfl)|((with_reducible first|refine jX ?hy ?_|refine jZ ?hy ?_);case hy=>rfl)|((with_reducible refine jF ?hy ?_);case hy=>decide))
  have hS6 := hS5.frame fo fun _ _ h => h
  have z0 := fH.size
  have z2 := f2.size
  have z1 := f1.size
  have z3 := f3.size
  have z4 := f4.size
  have z5 := f5.size
  refine ofC hS6.ed hlen hS6.fr bo (by omega) (fun b hb e => by have := hLB b hb; omega) k1 rfl rfl rfl rfl fun e6 H6 Bb vb m10 bo6 hi6 hBb f6 => ?_
  have d0 := bo6.cellOf (i := 0) rfl
  obtain ⟨sb, cb, rfl⟩ := hi6.slice
  repeat' (first|(with_reducible first|refine jA ?_|(refine hK _ _ ?_;clear hK K)|refine jJ fun K hK=>?_|refine jK ?_|refine jL ?_|refine jM ?_|refine jN ?_|refine jO ?_|refine jP ?_|refine jQ ?_|(refine jB ?_;clear hK K)|(refine jC ?_;clear hK K)|refine jD ?_|refine jE ?_|refine jG ?_|refine jH ?_|refine jI ?_)|((with_reducible refine jR ?hq ?_);case hq=>rfl)|((first|(with_reducible first|refine jS fun K hK=>?_|refine jT ?_|refine jU ?_)|((with_reducible refine jV ?hy fun K hK=>?_);case hy=>rfl));simp only [go_sem, Nat.reduceEqDiff, Nat.reduceAdd, Nat.reduceMul, Nat.reduceLeDiff, Nat.reduceLT, Int.reduceLT, Int.reduceLE, Int.reduceEq, Int.reduceNeg, Int.reduceToNat, Nat.reducePow, reduceIte, reduceCtorEq, m10, d0])|((with_reducible first|refine jW ?hy ?_|refine jY ?hy ?_);case hy=>rfl)|((with_reducible first|refine jX ?hy ?_|refine jZ ?hy ?_);case hy=>rfl)|((with_reducible refine jF ?hy ?_);case hy=>decide))
  have hil := idsB_len l br l.length
  refine sort_ok hi6 (by omega) fun H7 hi7 f7 => ?_
  have hq6 := ((hq.frame fo fun _ _ h => h).frame f6 (fun b hb e => by have := hq.lt hb; omega)).frame f7 fun b hb e => by
   have z := hBb b e
   rw [Array.size_push] at z
   have := hq.lt hb
   omega
  have bo7 := bo6.frame f7 fun e => by have := hBb _ e; rw [Array.size_push] at this; omega
  have fin2 := fin H7 H5.size (fun b => H.size ≤ b) _ p ⟨_, Bb, q, bo7, hi7, hq6, (by omega), (by omega), fun b hb => by have := hBb b hb; rw [Array.size_push] at this; omega⟩ (fun _ h => h) (isBr_sort hmay.2 hdn) hP hpn
   (((((((fH.trans' f3 (fun b hb e => by omega)).trans' f4 (fun b hb e => by have := hwr b e; omega)).trans f5).trans fo)).trans' f6 (fun b hb e => by omega)).trans' f7 fun b hb e => by have := hBb b e; rw [Array.size_push] at this; omega)
  clear fin
  repeat' (first|(with_reducible first|refine jA ?_|(refine hK _ _ ?_;clear hK K)|refine jJ fun K hK=>?_|refine jK ?_|refine jL ?_|refine jM ?_|refine jN ?_|refine jO ?_|refine jP ?_|refine jQ ?_|(refine jB ?_;clear hK K)|(refine jC ?_;clear hK K)|refine jD ?_|refine jE ?_|refine jG ?_|refine jH ?_|refine jI ?_)|((with_reducible refine jR ?hq ?_);case hq=>rfl)|((first|(with_reducible first|refine jS fun K hK=>?_|refine jT ?_|refine jU ?_)|((with_reducible refine jV ?hy fun K hK=>?_);case hy=>rfl));simp only [go_sem, Nat.reduceEqDiff, Nat.reduceAdd, Nat.reduceMul, Nat.reduceLeDiff, Nat.reduceLT, Int.reduceLT, Int.reduceLE, Int.reduceEq, Int.reduceNeg, Int.reduceToNat, Nat.reducePow, reduceIte, reduceCtorEq, m10])|((with_reducible first|refine jW ?hy ?_|refine jY ?hy ?_);case hy=>rfl)|((with_reducible first|refine jX ?hy ?_|refine jZ ?hy ?_);case hy=>rfl)|((with_reducible refine jF ?hy ?_);case hy=>decide))
  exact fin2
 refine x_drawF (.fork4 [0, 1, 3, 5, 7, 8] 2 (.fork3 [] 4 (.fork [] 6 (.lin [] [9, 10, 11, 12]) 9 (.lin [] [6, 10, 11, 12])) 6 (.fork [] 4 (.lin [] [9, 10, 11, 12]) 9 (.lin [] [4, 10, 11, 12])) 9 (.fork [] 4 (.lin [] [6, 10, 11, 12]) 6 (.lin [] [4, 10, 11, 12]))) 4 (.fork3 [] 2 (.fork [] 6 (.lin [] [9, 10, 11, 12]) 9 (.lin [] [6, 10, 11, 12])) 6 (.fork [] 2 (.lin [] [9, 10, 11, 12]) 9 (.lin [] [2, 10, 11, 12])) 9 (.fork [] 2 (.lin [] [6, 10, 11, 12]) 6 (.lin [] [2, 10, 11, 12]))) 6 (.fork3 [] 2 (.fork [] 4 (.lin [] [9, 10, 11, 12]) 9 (.lin [] [4, 10, 11, 12])) 4 (.fork [] 2 (.lin [] [9, 10, 11, 12]) 9 (.lin [] [2, 10, 11, 12])) 9 (.fork [] 2 (.lin [] [4, 10, 11, 12]) 4 (.lin [] [2, 10, 11, 12]))) 9 (.fork3 [] 2 (.fork [] 4 (.lin [] [6, 10, 11, 12]) 6 (.lin [] [4, 10, 11, 12])) 4 (.fork [] 2 (.lin [] [6, 10, 11, 12]) 6 (.lin [] [2, 10, 11, 12])) 6 (.fork [] 2 (.lin [] [4, 10, 11, 12]) 4 (.lin [] [2, 10, 11, 12])))) rfl (by kernel_rfl) (Cells []) trivial ?_
 refine xf_fork4 ?_
 repeat' (first|(with_reducible refine xs_nil ?_)|((first|((with_reducible apply xs_rd);case hi=>rfl)|((with_reducible apply xs_guard_yes);(case hi=>rfl);(case hy=>rfl)));(case hr=>rfl);(case h1=>intro H' hS'; (try simp only [Cells, and_true] at hS');simp only [go_sem, Nat.reduceEqDiff, Nat.reduceAdd, Nat.reduceMul, Nat.reduceLeDiff, Nat.reduceLT, Int.reduceLT, Int.reduceLE, Int.reduceEq, Int.reduceNeg, Int.reduceToNat, Nat.reducePow, reduceIte, reduceCtorEq, hS']; rfl))|((with_reducible refine xs_tail ?hz ?_);case hz=>rfl)|((with_reducible refine xs_keep ?hz ?_);case hz=>first|(with_reducible assumption)|(simp only [go_sem, Nat.reduceEqDiff, Nat.reduceAdd, Nat.reduceMul, Nat.reduceLeDiff, Nat.reduceLT, Int.reduceLT, Int.reduceLE, Int.reduceEq, Int.reduceNeg, Int.reduceToNat, Nat.reducePow, reduceIte, reduceCtorEq, Cells, and_true]; done)|assumption)|((with_reducible apply xs_guard_no);(case hi=>rfl);(case hy=>rfl);(case hS=>assumption))|((first|((with_reducible apply xs_op);(case hi=>rfl))|((with_reducible apply xs_op_yes);(case hi=>rfl);(case hy=>rfl)));(case hr=>rfl);intro K hK; simp only [go_sem, Nat.reduceEqDiff, Nat.reduceAdd, Nat.reduceMul, Nat.reduceLeDiff, Nat.reduceLT, Int.reduceLT, Int.reduceLE, Int.reduceEq, Int.reduceNeg, Int.reduceToNat, Nat.reducePow, reduceIte, reduceCtorEq])|(with_reducible first|refine jA ?_|(refine hK _ _ ?_;clear hK K)|refine jJ fun K hK=>?_|refine jK ?_|refine jL ?_|refine jM ?_|refine jN ?_|refine jO ?_|refine jP ?_|refine jQ ?_|(refine jB ?_;clear hK K)|(refine jC ?_;clear hK K)|refine jD ?_|refine jE ?_|refine jG ?_|refine jH ?_|refine jI ?_)|((with_reducible refine jR ?hq ?_);case hq=>rfl)|((first|(with_reducible first|refine jS fun K hK=>?_|refine jT ?_|refine jU ?_)|((with_reducible refine jV ?hy fun K hK=>?_);case hy=>rfl));simp only [go_sem, Nat.reduceEqDiff, Nat.reduceAdd, Nat.reduceMul, Nat.reduceLeDiff, Nat.reduceLT, Int.reduceLT, Int.reduceLE, Int.reduceEq, Int.reduceNeg, Int.reduceToNat, Nat.reducePow, reduceIte, reduceCtorEq])|((with_reducible first|refine jW ?hy ?_|refine jY ?hy ?_);case hy=>rfl)|((with_reducible first|refine jX ?hy ?_|refine jZ ?hy ?_);case hy=>rfl)|((with_reducible refine jF ?hy ?_);case hy=>decide))
 refine ⟨?_, ?_, ?_, ?_⟩
 all_goals
  repeat' (first|(with_reducible refine xs_nil ?_)|((first|((with_reducible apply xs_rd);case hi=>rfl)|((with_reducible apply xs_guard_yes);(case hi=>rfl);(case hy=>rfl)));(case hr=>rfl);(case h1=>intro H' hS'; (try simp only [Cells, and_true] at hS');simp only [go_sem, Nat.reduceEqDiff, Nat.reduceAdd, Nat.reduceMul, Nat.reduceLeDiff, Nat.reduceLT, Int.reduceLT, Int.reduceLE, Int.reduceEq, Int.reduceNeg, Int.reduceToNat, Nat.reducePow, reduceIte, reduceCtorEq, hS']; rfl))|((with_reducible refine xs_tail ?hz ?_);case hz=>rfl)|((with_reducible refine xs_keep ?hz ?_);case hz=>first|(with_reducible assumption)|(simp only [go_sem, Nat.reduceEqDiff, Nat.reduceAdd, Nat.reduceMul, Nat.reduceLeDiff, Nat.reduceLT, Int.reduceLT, Int.reduceLE, Int.reduceEq, Int.reduceNeg, Int.reduceToNat, Nat.reducePow, reduceIte, reduceCtorEq, Cells, and_true]; done)|assumption)|((with_reducible apply xs_guard_no);(case hi=>rfl);(case hy=>rfl);(case hS=>assumption))|((first|((with_reducible apply xs_op);(case hi=>rfl))|((with_reducible apply xs_op_yes);(case hi=>rfl);(case hy=>rfl)));(case hr=>rfl);intro K hK; simp only [go_sem, Nat.reduceEqDiff, Nat.reduceAdd, Nat.reduceMul, Nat.reduceLeDiff, Nat.reduceLT, Int.reduceLT, Int.reduceLE, Int.reduceEq, Int.reduceNeg, Int.reduceToNat, Nat.reducePow, reduceIte, reduceCtorEq])|(with_reducible first|refine jA ?_|(refine hK _ _ ?_;clear hK K)|refine jJ fun K hK=>?_|refine jK ?_|refine jL ?_|refine jM ?_|refine jN ?_|refine jO ?_|refine jP ?_|refine jQ ?_|(refine jB ?_;clear hK K)|(refine jC ?_;clear hK K)|refine jD ?_|refine jE ?_|refine jG ?_|refine jH ?_|refine jI ?_)|((with_reducible refine jR ?hq ?_);case hq=>rfl)|((first|(with_reducible first|refine jS fun K hK=>?_|refine jT ?_|refine jU ?_)|((with_reducible refine jV ?hy fun K hK=>?_);case hy=>rfl));simp only [go_sem, Nat.reduceEqDiff, Nat.reduceAdd, Nat.reduceMul, Nat.reduceLeDiff, Nat.reduceLT, Int.reduceLT, Int.reduceLE, Int.reduceEq, Int.reduceNeg, Int.reduceToNat, Nat.reducePow, reduceIte, reduceCtorEq])|((with_reducible first|refine jW ?hy ?_|refine jY ?hy ?_);case hy=>rfl)|((with_reducible first|refine jX ?hy ?_|refine jZ ?hy ?_);case hy=>rfl)|((with_reducible refine jF ?hy ?_);case hy=>decide))
  refine ⟨Nat.le_refl _, by omega, ?_⟩
  refine hK _ _ ⟨fun _ => trivial, ?_⟩
  clear hK K
  refine xf_fork3 ?_
  repeat' (first|(with_reducible refine xs_nil ?_)|((first|((with_reducible apply xs_rd);case hi=>rfl)|((with_reducible apply xs_guard_yes);(case hi=>rfl);(case hy=>rfl)));(case hr=>rfl);(case h1=>intro H' hS'; (try simp only [Cells, and_true] at hS');simp only [go_sem, Nat.reduceEqDiff, Nat.reduceAdd, Nat.reduceMul, Nat.reduceLeDiff, Nat.reduceLT, Int.reduceLT, Int.reduceLE, Int.reduceEq, Int.reduceNeg, Int.reduceToNat, Nat.reducePow, reduceIte, reduceCtorEq, hS']; rfl))|((with_reducible refine xs_tail ?hz ?_);case hz=>rfl)|((with_reducible refine xs_keep ?hz ?_);case hz=>first|(with_reducible assumption)|(simp only [go_sem, Nat.reduceEqDiff, Nat.reduceAdd, Nat.reduceMul, Nat.reduceLeDiff, Nat.reduceLT, Int.reduceLT, Int.reduceLE, Int.reduceEq, Int.reduceNeg, Int.reduceToNat, Nat.reducePow, reduceIte, reduceCtorEq, Cells, and_true]; done)|assumption)|((with_reducible apply xs_guard_no);(case hi=>rfl);(case hy=>rfl);(case hS=>assumption))|((first|((with_reducible apply xs_op);(case hi=>rfl))|((with_reducible apply xs_op_yes);(case hi=>rfl);(case hy=>rfl)));(case hr=>rfl);intro K hK; simp only [go_sem, Nat.reduceEqDiff, Nat.reduceAdd, Nat.reduceMul, Nat.reduceLeDiff, Nat.reduceLT, Int.reduceLT, Int.reduceLE, Int.reduceEq, Int.reduceNeg, Int.reduceToNat, Nat.reducePow, reduceIte, reduceCtorEq])|(with_reducible first|refine jA ?_|(refine hK _ _ ?_;clear hK K)|refine jJ fun K hK=>?_|refine jK ?_|refine jL ?_|refine jM ?_|refine jN ?_|refine jO ?_|refine jP ?_|refine jQ ?_|(refine jB ?_;clear hK K)|(refine jC ?_;clear hK K)|refine jD ?_|refine jE ?_|refine jG ?_|refine jH ?_|refine jI ?_)|((with_reducible refine jR ?hq ?_);case hq=>rfl)|((first|(with_reducible first|refine jS fun K hK=>?_|refine jT ?_|refine jU ?_)|((with_reducible refine jV ?hy fun K hK=>?_);case hy=>rfl));simp only [go_sem, Nat.reduceEqDiff, Nat.reduceAdd, Nat.reduceMul, Nat.reduceLeDiff, Nat.reduceLT, Int.reduceLT, Int.reduceLE, Int.reduceEq, Int.reduceNeg, Int.reduceToNat, Nat.reducePow, reduceIte, reduceCtorEq])|((with_reducible first|refine jW ?hy ?_|refine jY ?hy ?_);case hy=>rfl)|((with_reducible first|refine jX ?hy ?_|refine jZ ?hy ?_);case hy=>rfl)|((with_reducible refine jF ?hy ?_);case hy=>decide))
  refine ⟨?_, ?_, ?_⟩
 all_goals
  repeat' (first|(with_reducible refine xs_nil ?_)|((first|((with_reducible apply xs_rd);case hi=>rfl)|((with_reducible apply xs_guard_yes);(case hi=>rfl);(case hy=>rfl)));(case hr=>rfl);(case h1=>intro H' hS'; (try simp only [Cells, and_true] at hS');simp only [go_sem, Nat.reduceEqDiff, Nat.reduceAdd, Nat.reduceMul, Nat.reduceLeDiff, Nat.reduceLT, Int.reduceLT, Int.reduceLE, Int.reduceEq, Int.reduceNeg, Int.reduceToNat, Nat.reducePow, reduceIte, reduceCtorEq, hS']; rfl))|((with_reducible refine xs_tail ?hz ?_);case hz=>rfl)|((with_reducible refine xs_keep ?hz ?_);case hz=>first|(with_reducible assumption)|(simp only [go_sem, Nat.reduceEqDiff, Nat.reduceAdd, Nat.reduceMul, Nat.reduceLeDiff, Nat.reduceLT, Int.reduceLT, Int.reduceLE, Int.reduceEq, Int.reduceNeg, Int.reduceToNat, Nat.reducePow, reduceIte, reduceCtorEq, Cells, and_true]; done)|assumption)|((with_reducible apply xs_guard_no);(case hi=>rfl);(case hy=>rfl);(case hS=>assumption))|((first|((with_reducible apply xs_op);(case hi=>rfl))|((with_reducible apply xs_op_yes);(case hi=>rfl);(case hy=>rfl)));(case hr=>rfl);intro K hK; simp only [go_sem, Nat.reduceEqDiff, Nat.reduceAdd, Nat.reduceMul, Nat.reduceLeDiff, Nat.reduceLT, Int.reduceLT, Int.reduceLE, Int.reduceEq, Int.reduceNeg, Int.reduceToNat, Nat.reducePow, reduceIte, reduceCtorEq])|(with_reducible first|refine jA ?_|(refine hK _ _ ?_;clear hK K)|refine jJ fun K hK=>?_|refine jK ?_|refine jL ?_|refine jM ?_|refine jN ?_|refine jO ?_|refine jP ?_|refine jQ ?_|(refine jB ?_;clear hK K)|(refine jC ?_;clear hK K)|refine jD ?_|refine jE ?_|refine jG ?_|refine jH ?_|refine jI ?_)|((with_reducible refine jR ?hq ?_);case hq=>rfl)|((first|(with_reducible first|refine jS fun K hK=>?_|refine jT ?_|refine jU ?_)|((with_reducible refine jV ?hy fun K hK=>?_);case hy=>rfl));simp only [go_sem, Nat.reduceEqDiff, Nat.reduceAdd, Nat.reduceMul, Nat.reduceLeDiff, Nat.reduceLT, Int.reduceLT, Int.reduceLE, Int.reduceEq, Int.reduceNeg, Int.reduceToNat, Nat.reducePow, reduceIte, reduceCtorEq])|((with_reducible first|refine jW ?hy ?_|refine jY ?hy ?_);case hy=>rfl)|((with_reducible first|refine jX ?hy ?_|refine jZ ?hy ?_);case hy=>rfl)|((with_reducible refine jF ?hy ?_);case hy=>decide))
  refine ⟨Nat.le_refl _, by omega, ?_⟩
  refine hK _ _ ⟨fun _ => trivial, ?_⟩
  clear hK K
  refine xf_fork ?_
  repeat' (first|(with_reducible refine xs_nil ?_)|((first|((with_reducible apply xs_rd);case hi=>rfl)|((with_reducible apply xs_guard_yes);(case hi=>rfl);(case hy=>rfl)));(case hr=>rfl);(case h1=>intro H' hS'; (try simp only [Cells, and_true] at hS');simp only [go_sem, Nat.reduceEqDiff, Nat.reduceAdd, Nat.reduceMul, Nat.reduceLeDiff, Nat.reduceLT, Int.reduceLT, Int.reduceLE, Int.reduceEq, Int.reduceNeg, Int.reduceToNat, Nat.reducePow, reduceIte, reduceCtorEq, hS']; rfl))|((with_reducible refine xs_tail ?hz ?_);case hz=>rfl)|((with_reducible refine xs_keep ?hz ?_);case hz=>first|(with_reducible assumption)|(simp only [go_sem, Nat.reduceEqDiff, Nat.reduceAdd, Nat.reduceMul, Nat.reduceLeDiff, Nat.reduceLT, Int.reduceLT, Int.reduceLE, Int.reduceEq, Int.reduceNeg, Int.reduceToNat, Nat.reducePow, reduceIte, reduceCtorEq, Cells, and_true]; done)|assumption)|((with_reducible apply xs_guard_no);(case hi=>rfl);(case hy=>rfl);(case hS=>assumption))|((first|((with_reducible apply xs_op);(case hi=>rfl))|((with_reducible apply xs_op_yes);(case hi=>rfl);(case hy=>rfl)));(case hr=>rfl);intro K hK; simp only [go_sem, Nat.reduceEqDiff, Nat.reduceAdd, Nat.reduceMul, Nat.reduceLeDiff, Nat.reduceLT, Int.reduceLT, Int.reduceLE, Int.reduceEq, Int.reduceNeg, Int.reduceToNat, Nat.reducePow, reduceIte, reduceCtorEq])|(with_reducible first|refine jA ?_|(refine hK _ _ ?_;clear hK K)|refine jJ fun K hK=>?_|refine jK ?_|refine jL ?_|refine jM ?_|refine jN ?_|refine jO ?_|refine jP ?_|refine jQ ?_|(refine jB ?_;clear hK K)|(refine jC ?_;clear hK K)|refine jD ?_|refine jE ?_|refine jG ?_|refine jH ?_|refine jI ?_)|((with_reducible refine jR ?hq ?_);case hq=>rfl)|((first|(with_reducible first|refine jS fun K hK=>?_|refine jT ?_|refine jU ?_)|((with_reducible refine jV ?hy fun K hK=>?_);case hy=>rfl));simp only [go_sem, Nat.reduceEqDiff, Nat.reduceAdd, Nat.reduceMul, Nat.reduceLeDiff, Nat.reduceLT, Int.reduceLT, Int.reduceLE, Int.reduceEq, Int.reduceNeg, Int.reduceToNat, Nat.reducePow, reduceIte, reduceCtorEq])|((with_reducible first|refine jW ?hy ?_|refine jY ?hy ?_);case hy=>rfl)|((with_reducible first|refine jX ?hy ?_|refine jZ ?hy ?_);case hy=>rfl)|((with_reducible refine jF ?hy ?_);case hy=>decide))
  refine ⟨?_, ?_⟩
 all_goals
  repeat' (first|(with_reducible refine xs_nil ?_)|((first|((with_reducible apply xs_rd);case hi=>rfl)|((with_reducible apply xs_guard_yes);(case hi=>rfl);(case hy=>rfl)));(case hr=>rfl);(case h1=>intro H' hS'; (try simp only [Cells, and_true] at hS');simp only [go_sem, Nat.reduceEqDiff, Nat.reduceAdd, Nat.reduceMul, Nat.reduceLeDiff, Nat.reduceLT, Int.reduceLT, Int.reduceLE, Int.reduceEq, Int.reduceNeg, Int.reduceToNat, Nat.reducePow, reduceIte, reduceCtorEq, hS']; rfl))|((with_reducible refine xs_tail ?hz ?_);case hz=>rfl)|((with_reducible refine xs_keep ?hz ?_);case hz=>first|(with_reducible assumption)|(simp only [go_sem, Nat.reduceEqDiff, Nat.reduceAdd, Nat.reduceMul, Nat.reduceLeDiff, Nat.reduceLT, Int.reduceLT, Int.reduceLE, Int.reduceEq, Int.reduceNeg, Int.reduceToNat, Nat.reducePow, reduceIte, reduceCtorEq, Cells, and_true]; done)|assumption)|((with_reducible apply xs_guard_no);(case hi=>rfl);(case hy=>rfl);(case hS=>assumption))|((first|((with_reducible apply xs_op);(case hi=>rfl))|((with_reducible apply xs_op_yes);(case hi=>rfl);(case hy=>rfl)));(case hr=>rfl);intro K hK; simp only [go_sem, Nat.reduceEqDiff, Nat.reduceAdd, Nat.reduceMul, Nat.reduceLeDiff, Nat.reduceLT, Int.reduceLT, Int.reduceLE, Int.reduceEq, Int.reduceNeg, Int.reduceToNat, Nat.reducePow, reduceIte, reduceCtorEq])|(with_reducible first|refine jA ?_|(refine hK _ _ ?_;clear hK K)|refine jJ fun K hK=>?_|refine jK ?_|refine jL ?_|refine jM ?_|refine jN ?_|refine jO ?_|refine jP ?_|refine jQ ?_|(refine jB ?_;clear hK K)|(refine jC ?_;clear hK K)|refine jD ?_|refine jE ?_|refine jG ?_|refine jH ?_|refine jI ?_)|((with_reducible refine jR ?hq ?_);case hq=>rfl)|((first|(with_reducible first|refine jS fun K hK=>?_|refine jT ?_|refine jU ?_)|((with_reducible refine jV ?hy fun K hK=>?_);case hy=>rfl));simp only [go_sem, Nat.reduceEqDiff, Nat.reduceAdd, Nat.reduceMul, Nat.reduceLeDiff, Nat.reduceLT, Int.reduceLT, Int.reduceLE, Int.reduceEq, Int.reduceNeg, Int.reduceToNat, Nat.reducePow, reduceIte, reduceCtorEq])|((with_reducible first|refine jW ?hy ?_|refine jY ?hy ?_);case hy=>rfl)|((with_reducible first|refine jX ?hy ?_|refine jZ ?hy ?_);case hy=>rfl)|((with_reducible refine jF ?hy ?_);case hy=>decide))
  refine ⟨Nat.le_refl _, by omega, ?_⟩
  refine hK _ _ ⟨fun _ => trivial, ?_⟩
  clear hK K
  refine xf_lin ?_
  repeat' (first|(with_reducible refine xs_nil ?_)|((first|((with_reducible apply xs_rd);case hi=>rfl)|((with_reducible apply xs_guard_yes);(case hi=>rfl);(case hy=>rfl)));(case hr=>rfl);(case h1=>intro H' hS'; (try simp only [Cells, and_true] at hS');simp only [go_sem, Nat.reduceEqDiff, Nat.reduceAdd, Nat.reduceMul, Nat.reduceLeDiff, Nat.reduceLT, Int.reduceLT, Int.reduceLE, Int.reduceEq, Int.reduceNeg, Int.reduceToNat, Nat.reducePow, reduceIte, reduceCtorEq, hS']; rfl))|((with_reducible refine xs_tail ?hz ?_);case hz=>rfl)|((with_reducible refine xs_keep ?hz ?_);case hz=>first|(with_reducible assumption)|(simp only [go_sem, Nat.reduceEqDiff, Nat.reduceAdd, Nat.reduceMul, Nat.reduceLeDiff, Nat.reduceLT, Int.reduceLT, Int.reduceLE, Int.reduceEq, Int.reduceNeg, Int.reduceToNat, Nat.reducePow, reduceIte, reduceCtorEq, Cells, and_true]; done)|assumption)|((with_reducible apply xs_guard_no);(case hi=>rfl);(case hy=>rfl);(case hS=>assumption))|((first|((with_reducible apply xs_op);(case hi=>rfl))|((with_reducible apply xs_op_yes);(case hi=>rfl);(case hy=>rfl)));(case hr=>rfl);intro K hK; simp only [go_sem, Nat.reduceEqDiff, Nat.reduceAdd, Nat.reduceMul, Nat.reduceLeDiff, Nat.reduceLT, Int.reduceLT, Int.reduceLE, Int.reduceEq, Int.reduceNeg, Int.reduceToNat, Nat.reducePow, reduceIte, reduceCtorEq])|(with_reducible first|refine jA ?_|(refine hK _ _ ?_;clear hK K)|refine jJ fun K hK=>?_|refine jK ?_|refine jL ?_|refine jM ?_|refine jN ?_|refine jO ?_|refine jP ?_|refine jQ ?_|(refine jB ?_;clear hK K)|(refine jC ?_;clear hK K)|refine jD ?_|refine jE ?_|refine jG ?_|refine jH ?_|refine jI ?_)|((with_reducible refine jR ?hq ?_);case hq=>rfl)|((first|(with_reducible first|refine jS fun K hK=>?_|refine jT ?_|refine jU ?_)|((with_reducible refine jV ?hy fun K hK=>?_);case hy=>rfl));simp only [go_sem, Nat.reduceEqDiff, Nat.reduceAdd, Nat.reduceMul, Nat.reduceLeDiff, Nat.reduceLT, Int.reduceLT, Int.reduceLE, Int.reduceEq, Int.reduceNeg, Int.reduceToNat, Nat.reducePow, reduceIte, reduceCtorEq])|((with_reducible first|refine jW ?hy ?_|refine jY ?hy ?_);case hy=>rfl)|((with_reducible first|refine jX ?hy ?_|refine jZ ?hy ?_);case hy=>rfl)|((with_reducible refine jF ?hy ?_);case hy=>decide))
  refine ⟨Nat.le_refl _, by omega, ?_⟩
  refine hK _ _ ⟨fun _ => trivial, ?_⟩
  clear hK K
  repeat' (first|(with_reducible refine xs_nil ?_)|((first|((with_reducible apply xs_rd);case hi=>rfl)|((with_reducible apply xs_guard_yes);(case hi=>rfl);(case hy=>rfl)));(case hr=>rfl);(case h1=>intro H' hS'; (try simp only [Cells, and_true] at hS');simp only [go_sem, Nat.reduceEqDiff, Nat.reduceAdd, Nat.reduceMul, Nat.reduceLeDiff, Nat.reduceLT, Int.reduceLT, Int.reduceLE, Int.reduceEq, Int.reduceNeg, Int.reduceToNat, Nat.reducePow, reduceIte, reduceCtorEq, hS']; rfl))|((with_reducible refine xs_tail ?hz ?_);case hz=>rfl)|((with_reducible refine xs_keep ?hz ?_);case hz=>first|(with_reducible assumption)|(simp only [go_sem, Nat.reduceEqDiff, Nat.reduceAdd, Nat.reduceMul, Nat.reduceLeDiff, Nat.reduceLT, Int.reduceLT, Int.reduceLE, Int.reduceEq, Int.reduceNeg, Int.reduceToNat, Nat.reducePow, reduceIte, reduceCtorEq, Cells, and_true]; done)|assumption)|((with_reducible apply xs_guard_no);(case hi=>rfl);(case hy=>rfl);(case hS=>assumption))|((first|((with_reducible apply xs_op);(case hi=>rfl))|((with_reducible apply xs_op_yes);(case hi=>rfl);(case hy=>rfl)));(case hr=>rfl);intro K hK; simp only [go_sem, Nat.reduceEqDiff, Nat.reduceAdd, Nat.reduceMul, Nat.reduceLeDiff, Nat.reduceLT, Int.reduceLT, Int.reduceLE, Int.reduceEq, Int.reduceNeg, Int.reduceToNat, Nat.reducePow, reduceIte, reduceCtorEq])|(with_reducible first|refine jA ?_|(refine hK _ _ ?_;clear hK K)|refine jJ fun K hK=>?_|refine jK ?_|refine jL ?_|refine jM ?_|refine jN ?_|refine jO ?_|refine jP ?_|refine jQ ?_|(refine jB ?_;clear hK K)|(refine jC ?_;clear hK K)|refine jD ?_|refine jE ?_|refine jG ?_|refine jH ?_|refine jI ?_)|((with_reducible refine jR ?hq ?_);case hq=>rfl)|((first|(with_reducible first|refine jS fun K hK=>?_|refine jT ?_|refine jU ?_)|((with_reducible refine jV ?hy fun K hK=>?_);case hy=>rfl));simp only [go_sem, Nat.reduceEqDiff, Nat.reduceAdd, Nat.reduceMul, Nat.reduceLeDiff, Nat.reduceLT, Int.reduceLT, Int.reduceLE, Int.reduceEq, Int.reduceNeg, Int.reduceToNat, Nat.reducePow, reduceIte, reduceCtorEq])|((with_reducible first|refine jW ?hy ?_|refine jY ?hy ?_);case hy=>rfl)|((with_reducible first|refine jX ?hy ?_|refine jZ ?hy ?_);case hy=>rfl)|((with_reducible refine jF ?hy ?_);case hy=>decide))
  refine tail _ _ _ _ _ _ _ rfl rfl rfl (Blk.new _ [_, _, _, _, _, _] _) (by first | exact (Blk.new _ _ _).push _ | exact ((Blk.new _ _ _).push _).push _ | exact (((Blk.new _ _ _).push _).push _).push _ | exact ((((Blk.new _ _ _).push _).push _).push _).push _) (by first | exact (Blk.new _ _ _).push _ | exact ((Blk.new _ _ _).push _).push _ | exact (((Blk.new _ _ _).push _).push _).push _ | exact ((((Blk.new _ _ _).push _).push _).push _).push _) (by first | exact (Blk.new _ _ _).push _ | exact ((Blk.new _ _ _).push _).push _ | exact (((Blk.new _ _ _).push _).push _).push _ | exact ((((Blk.new _ _ _).push _).push _).push _).push _) (by first | exact (Blk.new _ _ _).push _ | exact ((Blk.new _ _ _).push _).push _ | exact (((Blk.new _ _ _).push _).push _).push _ | exact ((((Blk.new _ _ _).push _).push _).push _).push _) (((((Fr.refl _ _).push _).push _).push _).push _ |>.push _) (by (try simp only [Array.size_push]); omega) (by (try simp only [Array.size_push]); omega) (by (try simp only [Array.size_push]); omega) (by (try simp only [Array.size_push]); omega) (by (try simp only [Array.size_push]); omega) (by (try simp only [Array.size_push]); omega) (by (try simp only [Array.size_push]); omega) (by (try simp only [Array.size_push]); omega) (by (try simp only [Array.size_push]); omega) (by (try simp only [Array.size_push]); omega) (by (try simp only [Array.size_push]); omega) (by (try simp only [Array.size_push]); omega) (by (try simp only [Array.size_push]); omega) (by (try simp only [Array.size_push]); omega) (by (try simp only [Array.size_push]); omega)
theorem Of_few (hl : SR Ed.cells 4 H Bl vl l) {m : Int} (h : m < 1 ∨ 64 < m ∨ 192 < l.length) (fin : L (.tuple #[.pointer none, .int .i64 1]) H) :
  CallsH Try.prog 11 #[.int .i64 m, vl] H L := by
 obtain ⟨sl, cl, rfl⟩ := hl.slice
 refine call11 (by simp) ?_
 simp only [Try.f11, Option.getD_some]
 by_cases h1 : m < 1
 ·have t1 : (m < 1) = True := eq_true h1
  repeat' (first|(with_reducible first|refine jA ?_|(refine hK _ _ ?_;clear hK K)|refine jJ fun K hK=>?_|refine jK ?_|refine jL ?_|refine jM ?_|refine jN ?_|refine jO ?_|refine jP ?_|refine jQ ?_|(refine jB ?_;clear hK K)|(refine jC ?_;clear hK K)|refine jD ?_|refine jE ?_|refine jG ?_|refine jH ?_|refine jI ?_)|((with_reducible refine jR ?hq ?_);case hq=>rfl)|((first|(with_reducible first|refine jS fun K hK=>?_|refine jT ?_|refine jU ?_)|((with_reducible refine jV ?hy fun K hK=>?_);case hy=>rfl));simp only [go_sem, Nat.reduceEqDiff, Nat.reduceAdd, Nat.reduceMul, Nat.reduceLeDiff, Nat.reduceLT, Int.reduceLT, Int.reduceLE, Int.reduceEq, Int.reduceNeg, Int.reduceToNat, Nat.reducePow, reduceIte, reduceCtorEq, t1])|((with_reducible first|refine jW ?hy ?_|refine jY ?hy ?_);case hy=>rfl)|((with_reducible first|refine jX ?hy ?_|refine jZ ?hy ?_);case hy=>rfl)|((with_reducible refine jF ?hy ?_);case hy=>decide))
  exact fin
 have t1 : (m < 1) = False := eq_false h1
 by_cases h2 : 64 < m
 ·have t2 : (64 < m) = True := eq_true h2
  repeat' (first|(with_reducible first|refine jA ?_|(refine hK _ _ ?_;clear hK K)|refine jJ fun K hK=>?_|refine jK ?_|refine jL ?_|refine jM ?_|refine jN ?_|refine jO ?_|refine jP ?_|refine jQ ?_|(refine jB ?_;clear hK K)|(refine jC ?_;clear hK K)|refine jD ?_|refine jE ?_|refine jG ?_|refine jH ?_|refine jI ?_)|((with_reducible refine jR ?hq ?_);case hq=>rfl)|((first|(with_reducible first|refine jS fun K hK=>?_|refine jT ?_|refine jU ?_)|((with_reducible refine jV ?hy fun K hK=>?_);case hy=>rfl));simp only [go_sem, Nat.reduceEqDiff, Nat.reduceAdd, Nat.reduceMul, Nat.reduceLeDiff, Nat.reduceLT, Int.reduceLT, Int.reduceLE, Int.reduceEq, Int.reduceNeg, Int.reduceToNat, Nat.reducePow, reduceIte, reduceCtorEq, t1, t2])|((with_reducible first|refine jW ?hy ?_|refine jY ?hy ?_);case hy=>rfl)|((with_reducible first|refine jX ?hy ?_|refine jZ ?hy ?_);case hy=>rfl)|((with_reducible refine jF ?hy ?_);case hy=>decide))
  exact fin
 have t2 : (64 < m) = False := eq_false h2
 have t3 : (192 < (l.length : Int)) = True := eq_true (by omega)
 have t3' : (192 < l.length) = True := eq_true (by omega)
 repeat' (first|(with_reducible first|refine jA ?_|(refine hK _ _ ?_;clear hK K)|refine jJ fun K hK=>?_|refine jK ?_|refine jL ?_|refine jM ?_|refine jN ?_|refine jO ?_|refine jP ?_|refine jQ ?_|(refine jB ?_;clear hK K)|(refine jC ?_;clear hK K)|refine jD ?_|refine jE ?_|refine jG ?_|refine jH ?_|refine jI ?_)|((with_reducible refine jR ?hq ?_);case hq=>rfl)|((first|(with_reducible first|refine jS fun K hK=>?_|refine jT ?_|refine jU ?_)|((with_reducible refine jV ?hy fun K hK=>?_);case hy=>rfl));simp only [go_sem, Nat.reduceEqDiff, Nat.reduceAdd, Nat.reduceMul, Nat.reduceLeDiff, Nat.reduceLT, Int.reduceLT, Int.reduceLE, Int.reduceEq, Int.reduceNeg, Int.reduceToNat, Nat.reducePow, reduceIte, reduceCtorEq, t1, t2, t3, t3'])|((with_reducible first|refine jW ?hy ?_|refine jY ?hy ?_);case hy=>rfl)|((with_reducible first|refine jX ?hy ?_|refine jZ ?hy ?_);case hy=>rfl)|((with_reducible refine jF ?hy ?_);case hy=>decide))
 exact fin
theorem Of_not (hl : SR Ed.cells 4 H Bl vl l) (h1 : 1 ≤ n) (hn : n ≤ 64) (hlen : l.length ≤ 192) (hmay : ¬ May n l) (fin : ∀ H', Fr (fun _ => False) H H' → L (.tuple #[.pointer none, .int .i64 81]) H') :
  CallsH Try.prog 11 #[.int .i64 (n : Nat), vl] H L := by
 obtain ⟨sl, cl, rfl⟩ := hl.slice
 have t1 : ((n : Int) < 1) = False := eq_false (by omega)
 have t1' : (n < 1) = False := eq_false (by omega)
 have t2 : (64 < (n : Int)) = False := eq_false (by omega)
 have t2' : (64 < n) = False := eq_false (by omega)
 have t3 : (192 < (l.length : Int)) = False := eq_false (by omega)
 have t3' : (192 < l.length) = False := eq_false (by omega)
 refine call11 (by simp) ?_
 simp only [Try.f11, Option.getD_some]
 repeat' (first|(with_reducible first|refine jA ?_|(refine hK _ _ ?_;clear hK K)|refine jJ fun K hK=>?_|refine jK ?_|refine jL ?_|refine jM ?_|refine jN ?_|refine jO ?_|refine jP ?_|refine jQ ?_|(refine jB ?_;clear hK K)|(refine jC ?_;clear hK K)|refine jD ?_|refine jE ?_|refine jG ?_|refine jH ?_|refine jI ?_)|((with_reducible refine jR ?hq ?_);case hq=>rfl)|((first|(with_reducible first|refine jS fun K hK=>?_|refine jT ?_|refine jU ?_)|((with_reducible refine jV ?hy fun K hK=>?_);case hy=>rfl));simp only [go_sem, Nat.reduceEqDiff, Nat.reduceAdd, Nat.reduceMul, Nat.reduceLeDiff, Nat.reduceLT, Int.reduceLT, Int.reduceLE, Int.reduceEq, Int.reduceNeg, Int.reduceToNat, Nat.reducePow, reduceIte, reduceCtorEq, t1, t1', t2, t2', t3, t3'])|((with_reducible first|refine jW ?hy ?_|refine jY ?hy ?_);case hy=>rfl)|((with_reducible first|refine jX ?hy ?_|refine jZ ?hy ?_);case hy=>rfl)|((with_reducible refine jF ?hy ?_);case hy=>decide))
 refine may_ok hl hlen hn fun H1 f1 => ?_
 rw [decide_eq_false hmay]
 repeat' (first|(with_reducible first|refine jA ?_|(refine hK _ _ ?_;clear hK K)|refine jJ fun K hK=>?_|refine jK ?_|refine jL ?_|refine jM ?_|refine jN ?_|refine jO ?_|refine jP ?_|refine jQ ?_|(refine jB ?_;clear hK K)|(refine jC ?_;clear hK K)|refine jD ?_|refine jE ?_|refine jG ?_|refine jH ?_|refine jI ?_)|((with_reducible refine jR ?hq ?_);case hq=>rfl)|((first|(with_reducible first|refine jS fun K hK=>?_|refine jT ?_|refine jU ?_)|((with_reducible refine jV ?hy fun K hK=>?_);case hy=>rfl));simp only [go_sem, Nat.reduceEqDiff, Nat.reduceAdd, Nat.reduceMul, Nat.reduceLeDiff, Nat.reduceLT, Int.reduceLT, Int.reduceLE, Int.reduceEq, Int.reduceNeg, Int.reduceToNat, Nat.reducePow, reduceIte, reduceCtorEq, Bool.not_false])|((with_reducible first|refine jW ?hy ?_|refine jY ?hy ?_);case hy=>rfl)|((with_reducible first|refine jX ?hy ?_|refine jZ ?hy ?_);case hy=>rfl)|((with_reducible refine jF ?hy ?_);case hy=>decide))
 exact fin _ f1
end
end Go.Proofs.Ytpeaogldojepnaa
namespace Go.Br
open Go Go.Hp Go.Li
theorem rd_slice_nil {P : Program} {H : Heap} {t e : TypeId} {k : Nat} (he : elems P t = some (none, e, k)) (a : Option Addr) (n c : Nat) :
  Rd P H ((Pure.pure () : Sem Unit) >>= fun _ => binOp .eql t (.slice a n c) (.slice none 0 0)) (.bool a.isNone) := by
 obtain ⟨ti, te, h2, h3, h4, h5⟩ := elems_spec he
 have hu := rd_underlying (H := H) h2
 rw [h5] at hu
 simp only [descOf] at hu
 have key : Rd P H (Op.equal t (.slice a n c) (.slice none 0 0)) a.isNone := by
  unfold Op.equal Op.maxDepth Op.equalIn
  refine Rd.bind hu ?_
  cases a <;> exact Rd.ret' rfl
 refine Rd.bind (x := ()) (Rd.ret _) ?_
 unfold binOp
 simp only []
 exact Rd.bind key (Rd.ret _)
theorem cnt_le (n : Nat) (p : Nat → Nat) : cnt n p ≤ n := by
 unfold cnt
 exact Nat.le_trans (List.length_filter_le ..) (by simp)
theorem cnt_succ (j : Nat) (p : Nat → Nat) : cnt (j + 1) p = cnt j p + if p j = j then 1 else 0 := by
 unfold cnt
 rw [List.range_succ, List.filter_append, List.length_append]
 by_cases e : p j = j <;> simp [e]
structure Out (H : Heap) (B : Option Nat) (v : Value) (xs : List Int) : Prop where
 ex : (B = none ∧ v = .slice none 0 0 ∧ xs = []) ∨ ∃ g rest, B = some g ∧ v = .slice (some ⟨g, 0, none⟩) xs.length xs.length ∧ Blk H g (xs.map (Value.int .i64) ++ rest)
theorem Out.rds {H : Heap} {B : Option Nat} {v : Value} {xs : List Int} (h : Out H B v xs) : Rds H B v xs := by
 obtain ⟨rfl, rfl, rfl⟩ | ⟨g, rest, rfl, rfl, hb⟩ := h.ex
 ·exact ⟨none, 0, rfl, fun i x hi => by simp at hi⟩
 ·refine ⟨some ⟨g, 0, none⟩, xs.length, rfl, fun i x hi => ⟨g, 0, rfl, rfl, ?_⟩⟩
  rw [Nat.zero_add]
  have hlt := (List.getElem?_eq_some_iff.1 hi).1
  refine hb.cellOf ?_
  rw [List.getElem?_append_left (by rw [List.length_map]; exact hlt), List.getElem?_map, hi]
  rfl
theorem Out.frame {S : Nat → Prop} {H H' : Heap} {B : Option Nat} {v : Value} {xs : List Int} (h : Out H B v xs) (hf : Fr S H H') (hb : ∀ g, B = some g → ¬ S g) : Out H' B v xs := by
 obtain h | ⟨g, rest, h1, h2, h3⟩ := h.ex
 ·exact ⟨.inl h⟩
 ·exact ⟨.inr ⟨g, rest, h1, h2, h3.frame hf (hb g h1)⟩⟩
end Go.Br
namespace Go.Proofs.Ytpeaogldojepnaa
open Go Go.Hp Go.Li Go.Br
set_option linter.all false
set_option maxRecDepth 100000
set_option maxHeartbeats 1600000
section
variable {H H' : Heap} {o n : Nat} {T : Nat → Prop} {ids : List Int} {p : Nat → Nat} {L : Value → Heap → Prop}
theorem has_ok (h : OrM H o T ids p n) (hn : n ≤ 64) {k : Int} (fin : L (.bool (decide (0 ≤ k ∧ k < n))) H) :
  CallsH Try.prog 29 #[.pointer (some ⟨o, 0, none⟩), .int .i64 k] H L := by
 obtain ⟨vb, Bb, gb, h1, h2, h3, _⟩ := h.ex
 have c1 := h1.cellOf (i := 1) rfl
 refine call29 (by simp) ?_
 simp only [Try.f29, Option.getD_some]
 by_cases h0 : 0 ≤ k
 ·have t1 : (0 ≤ k) = True := eq_true h0
  by_cases hk : k < n
  ·have t2 : (k < (n : Int)) = True := eq_true hk
   rw [decide_eq_true ⟨h0, hk⟩] at fin
   repeat' (first|(with_reducible first|refine jA ?_|(refine hK _ _ ?_;clear hK K)|refine jJ fun K hK=>?_|refine jK ?_|refine jL ?_|refine jM ?_|refine jN ?_|refine jO ?_|refine jP ?_|refine jQ ?_|(refine jB ?_;clear hK K)|(refine jC ?_;clear hK K)|refine jD ?_|refine jE ?_|refine jG ?_|refine jH ?_|refine jI ?_)|((with_reducible refine jR ?hq ?_);case hq=>rfl)|((first|(with_reducible first|refine jS fun K hK=>?_|refine jT ?_|refine jU ?_)|((with_reducible refine jV ?hy fun K hK=>?_);case hy=>rfl));simp only [go_sem, Nat.reduceEqDiff, Nat.reduceAdd, Nat.reduceMul, Nat.reduceLeDiff, Nat.reduceLT, Int.reduceLT, Int.reduceLE, Int.reduceEq, Int.reduceNeg, Int.reduceToNat, Nat.reducePow, reduceIte, reduceCtorEq, c1, t1, t2])|((with_reducible first|refine jW ?hy ?_|refine jY ?hy ?_);case hy=>rfl)|((with_reducible first|refine jX ?hy ?_|refine jZ ?hy ?_);case hy=>rfl)|((with_reducible refine jF ?hy ?_);case hy=>decide))
   exact fin
  ·have t2 : (k < (n : Int)) = False := eq_false hk
   rw [decide_eq_false fun e => hk e.2] at fin
   repeat' (first|(with_reducible first|refine jA ?_|(refine hK _ _ ?_;clear hK K)|refine jJ fun K hK=>?_|refine jK ?_|refine jL ?_|refine jM ?_|refine jN ?_|refine jO ?_|refine jP ?_|refine jQ ?_|(refine jB ?_;clear hK K)|(refine jC ?_;clear hK K)|refine jD ?_|refine jE ?_|refine jG ?_|refine jH ?_|refine jI ?_)|((with_reducible refine jR ?hq ?_);case hq=>rfl)|((first|(with_reducible first|refine jS fun K hK=>?_|refine jT ?_|refine jU ?_)|((with_reducible refine jV ?hy fun K hK=>?_);case hy=>rfl));simp only [go_sem, Nat.reduceEqDiff, Nat.reduceAdd, Nat.reduceMul, Nat.reduceLeDiff, Nat.reduceLT, Int.reduceLT, Int.reduceLE, Int.reduceEq, Int.reduceNeg, Int.reduceToNat, Nat.reducePow, reduceIte, reduceCtorEq, c1, t1, t2])|((with_reducible first|refine jW ?hy ?_|refine jY ?hy ?_);case hy=>rfl)|((with_reducible first|refine jX ?hy ?_|refine jZ ?hy ?_);case hy=>rfl)|((with_reducible refine jF ?hy ?_);case hy=>decide))
   exact fin
 ·have t1 : (0 ≤ k) = False := eq_false h0
  rw [decide_eq_false fun e => h0 e.1] at fin
  repeat' (first|(with_reducible first|refine jA ?_|(refine hK _ _ ?_;clear hK K)|refine jJ fun K hK=>?_|refine jK ?_|refine jL ?_|refine jM ?_|refine jN ?_|refine jO ?_|refine jP ?_|refine jQ ?_|(refine jB ?_;clear hK K)|(refine jC ?_;clear hK K)|refine jD ?_|refine jE ?_|refine jG ?_|refine jH ?_|refine jI ?_)|((with_reducible refine jR ?hq ?_);case hq=>rfl)|((first|(with_reducible first|refine jS fun K hK=>?_|refine jT ?_|refine jU ?_)|((with_reducible refine jV ?hy fun K hK=>?_);case hy=>rfl));simp only [go_sem, Nat.reduceEqDiff, Nat.reduceAdd, Nat.reduceMul, Nat.reduceLeDiff, Nat.reduceLT, Int.reduceLT, Int.reduceLE, Int.reduceEq, Int.reduceNeg, Int.reduceToNat, Nat.reducePow, reduceIte, reduceCtorEq, c1, t1])|((with_reducible first|refine jW ?hy ?_|refine jY ?hy ?_);case hy=>rfl)|((with_reducible first|refine jX ?hy ?_|refine jZ ?hy ?_);case hy=>rfl)|((with_reducible refine jF ?hy ?_);case hy=>decide))
  exact fin
theorem Block_ok (h : OrM H o T ids p n) (hn : n ≤ 64) {k : Nat} (hk : k < n) (fin : L (.tuple #[.int .i64 (p k : Nat), .int .i64 0]) H) :
  CallsH Try.prog 15 #[.pointer (some ⟨o, 0, none⟩), .int .i64 (k : Nat)] H L := by
 obtain ⟨vb, Bb, gb, h1, h2, h3, _⟩ := id h.ex
 have c1 := h1.cellOf (i := 1) rfl
 have c2 := h3.cell (vr_get (f := nI p) hk)
 have t1 : (k < n) = True := eq_true hk
 refine call15 (by simp) ?_
 simp only [Try.f15, Option.getD_some]
 repeat' (first|(with_reducible first|refine jA ?_|(refine hK _ _ ?_;clear hK K)|refine jJ fun K hK=>?_|refine jK ?_|refine jL ?_|refine jM ?_|refine jN ?_|refine jO ?_|refine jP ?_|refine jQ ?_|(refine jB ?_;clear hK K)|(refine jC ?_;clear hK K)|refine jD ?_|refine jE ?_|refine jG ?_|refine jH ?_|refine jI ?_)|((with_reducible refine jR ?hq ?_);case hq=>rfl)|((first|(with_reducible first|refine jS fun K hK=>?_|refine jT ?_|refine jU ?_)|((with_reducible refine jV ?hy fun K hK=>?_);case hy=>rfl));simp only [go_sem, Nat.reduceEqDiff, Nat.reduceAdd, Nat.reduceMul, Nat.reduceLeDiff, Nat.reduceLT, Int.reduceLT, Int.reduceLE, Int.reduceEq, Int.reduceNeg, Int.reduceToNat, Nat.reducePow, reduceIte, reduceCtorEq])|((with_reducible first|refine jW ?hy ?_|refine jY ?hy ?_);case hy=>rfl)|((with_reducible first|refine jX ?hy ?_|refine jZ ?hy ?_);case hy=>rfl)|((with_reducible refine jF ?hy ?_);case hy=>decide))
 refine has_ok h hn ?_
 rw [decide_eq_true (⟨by omega, by omega⟩ : (0 : Int) ≤ (k : Int) ∧ (k : Int) < n)]
 repeat' (first|(with_reducible first|refine jA ?_|(refine hK _ _ ?_;clear hK K)|refine jJ fun K hK=>?_|refine jK ?_|refine jL ?_|refine jM ?_|refine jN ?_|refine jO ?_|refine jP ?_|refine jQ ?_|(refine jB ?_;clear hK K)|(refine jC ?_;clear hK K)|refine jD ?_|refine jE ?_|refine jG ?_|refine jH ?_|refine jI ?_)|((with_reducible refine jR ?hq ?_);case hq=>rfl)|((first|(with_reducible first|refine jS fun K hK=>?_|refine jT ?_|refine jU ?_)|((with_reducible refine jV ?hy fun K hK=>?_);case hy=>rfl));simp only [go_sem, Nat.reduceEqDiff, Nat.reduceAdd, Nat.reduceMul, Nat.reduceLeDiff, Nat.reduceLT, Int.reduceLT, Int.reduceLE, Int.reduceEq, Int.reduceNeg, Int.reduceToNat, Nat.reducePow, reduceIte, reduceCtorEq, c1, c2, t1, Bool.not_true])|((with_reducible first|refine jW ?hy ?_|refine jY ?hy ?_);case hy=>rfl)|((with_reducible first|refine jX ?hy ?_|refine jZ ?hy ?_);case hy=>rfl)|((with_reducible refine jF ?hy ?_);case hy=>decide))
 exact fin
theorem Block_bad (h : OrM H o T ids p n) (hn : n ≤ 64) {k : Int} (hk : ¬ (0 ≤ k ∧ k < n)) (fin : L (.tuple #[.int .i64 0, .int .i64 80]) H) :
  CallsH Try.prog 15 #[.pointer (some ⟨o, 0, none⟩), .int .i64 k] H L := by
 refine call15 (by simp) ?_
 simp only [Try.f15, Option.getD_some]
 repeat' (first|(with_reducible first|refine jA ?_|(refine hK _ _ ?_;clear hK K)|refine jJ fun K hK=>?_|refine jK ?_|refine jL ?_|refine jM ?_|refine jN ?_|refine jO ?_|refine jP ?_|refine jQ ?_|(refine jB ?_;clear hK K)|(refine jC ?_;clear hK K)|refine jD ?_|refine jE ?_|refine jG ?_|refine jH ?_|refine jI ?_)|((with_reducible refine jR ?hq ?_);case hq=>rfl)|((first|(with_reducible first|refine jS fun K hK=>?_|refine jT ?_|refine jU ?_)|((with_reducible refine jV ?hy fun K hK=>?_);case hy=>rfl));simp only [go_sem, Nat.reduceEqDiff, Nat.reduceAdd, Nat.reduceMul, Nat.reduceLeDiff, Nat.reduceLT, Int.reduceLT, Int.reduceLE, Int.reduceEq, Int.reduceNeg, Int.reduceToNat, Nat.reducePow, reduceIte, reduceCtorEq])|((with_reducible first|refine jW ?hy ?_|refine jY ?hy ?_);case hy=>rfl)|((with_reducible first|refine jX ?hy ?_|refine jZ ?hy ?_);case hy=>rfl)|((with_reducible refine jF ?hy ?_);case hy=>decide))
 refine has_ok h hn ?_
 rw [decide_eq_false hk]
 repeat' (first|(with_reducible first|refine jA ?_|(refine hK _ _ ?_;clear hK K)|refine jJ fun K hK=>?_|refine jK ?_|refine jL ?_|refine jM ?_|refine jN ?_|refine jO ?_|refine jP ?_|refine jQ ?_|(refine jB ?_;clear hK K)|(refine jC ?_;clear hK K)|refine jD ?_|refine jE ?_|refine jG ?_|refine jH ?_|refine jI ?_)|((with_reducible refine jR ?hq ?_);case hq=>rfl)|((first|(with_reducible first|refine jS fun K hK=>?_|refine jT ?_|refine jU ?_)|((with_reducible refine jV ?hy fun K hK=>?_);case hy=>rfl));simp only [go_sem, Nat.reduceEqDiff, Nat.reduceAdd, Nat.reduceMul, Nat.reduceLeDiff, Nat.reduceLT, Int.reduceLT, Int.reduceLE, Int.reduceEq, Int.reduceNeg, Int.reduceToNat, Nat.reducePow, reduceIte, reduceCtorEq, Bool.not_false])|((with_reducible first|refine jW ?hy ?_|refine jY ?hy ?_);case hy=>rfl)|((with_reducible first|refine jX ?hy ?_|refine jZ ?hy ?_);case hy=>rfl)|((with_reducible refine jF ?hy ?_);case hy=>decide))
 exact fin
theorem Same_ok (h : OrM H o T ids p n) (hn : n ≤ 64) {u v : Nat} (hu : u < n) (hv : v < n) (fin : L (.tuple #[.bool (decide (p u = p v)), .int .i64 0]) H) :
  CallsH Try.prog 22 #[.pointer (some ⟨o, 0, none⟩), .int .i64 (u : Nat), .int .i64 (v : Nat)] H L := by
 obtain ⟨vb, Bb, gb, h1, h2, h3, _⟩ := id h.ex
 have c1 := h1.cellOf (i := 1) rfl
 have c2 := h3.cell (vr_get (f := nI p) hu)
 have c3 := h3.cell (vr_get (f := nI p) hv)
 have t1 : (u < n) = True := eq_true hu
 have t2 : (v < n) = True := eq_true hv
 have t3 : ((nI p u) == (nI p v)) = decide (p u = p v) := by
  unfold nI
  by_cases e : p u = p v
  ·simp [e]
  ·rw [decide_eq_false e]; exact beq_false_of_ne (by omega)
 refine call22 (by simp) ?_
 simp only [Try.f22, Option.getD_some]
 repeat' (first|(with_reducible first|refine jA ?_|(refine hK _ _ ?_;clear hK K)|refine jJ fun K hK=>?_|refine jK ?_|refine jL ?_|refine jM ?_|refine jN ?_|refine jO ?_|refine jP ?_|refine jQ ?_|(refine jB ?_;clear hK K)|(refine jC ?_;clear hK K)|refine jD ?_|refine jE ?_|refine jG ?_|refine jH ?_|refine jI ?_)|((with_reducible refine jR ?hq ?_);case hq=>rfl)|((first|(with_reducible first|refine jS fun K hK=>?_|refine jT ?_|refine jU ?_)|((with_reducible refine jV ?hy fun K hK=>?_);case hy=>rfl));simp only [go_sem, Nat.reduceEqDiff, Nat.reduceAdd, Nat.reduceMul, Nat.reduceLeDiff, Nat.reduceLT, Int.reduceLT, Int.reduceLE, Int.reduceEq, Int.reduceNeg, Int.reduceToNat, Nat.reducePow, reduceIte, reduceCtorEq])|((with_reducible first|refine jW ?hy ?_|refine jY ?hy ?_);case hy=>rfl)|((with_reducible first|refine jX ?hy ?_|refine jZ ?hy ?_);case hy=>rfl)|((with_reducible refine jF ?hy ?_);case hy=>decide))
 refine has_ok h hn ?_
 rw [decide_eq_true (⟨by omega, by omega⟩ : (0 : Int) ≤ (u : Int) ∧ (u : Int) < n)]
 repeat' (first|(with_reducible first|refine jA ?_|(refine hK _ _ ?_;clear hK K)|refine jJ fun K hK=>?_|refine jK ?_|refine jL ?_|refine jM ?_|refine jN ?_|refine jO ?_|refine jP ?_|refine jQ ?_|(refine jB ?_;clear hK K)|(refine jC ?_;clear hK K)|refine jD ?_|refine jE ?_|refine jG ?_|refine jH ?_|refine jI ?_)|((with_reducible refine jR ?hq ?_);case hq=>rfl)|((first|(with_reducible first|refine jS fun K hK=>?_|refine jT ?_|refine jU ?_)|((with_reducible refine jV ?hy fun K hK=>?_);case hy=>rfl));simp only [go_sem, Nat.reduceEqDiff, Nat.reduceAdd, Nat.reduceMul, Nat.reduceLeDiff, Nat.reduceLT, Int.reduceLT, Int.reduceLE, Int.reduceEq, Int.reduceNeg, Int.reduceToNat, Nat.reducePow, reduceIte, reduceCtorEq, Bool.not_true])|((with_reducible first|refine jW ?hy ?_|refine jY ?hy ?_);case hy=>rfl)|((with_reducible first|refine jX ?hy ?_|refine jZ ?hy ?_);case hy=>rfl)|((with_reducible refine jF ?hy ?_);case hy=>decide))
 refine has_ok h hn ?_
 rw [decide_eq_true (⟨by omega, by omega⟩ : (0 : Int) ≤ (v : Int) ∧ (v : Int) < n)]
 repeat' (first|(with_reducible first|refine jA ?_|(refine hK _ _ ?_;clear hK K)|refine jJ fun K hK=>?_|refine jK ?_|refine jL ?_|refine jM ?_|refine jN ?_|refine jO ?_|refine jP ?_|refine jQ ?_|(refine jB ?_;clear hK K)|(refine jC ?_;clear hK K)|refine jD ?_|refine jE ?_|refine jG ?_|refine jH ?_|refine jI ?_)|((with_reducible refine jR ?hq ?_);case hq=>rfl)|((first|(with_reducible first|refine jS fun K hK=>?_|refine jT ?_|refine jU ?_)|((with_reducible refine jV ?hy fun K hK=>?_);case hy=>rfl));simp only [go_sem, Nat.reduceEqDiff, Nat.reduceAdd, Nat.reduceMul, Nat.reduceLeDiff, Nat.reduceLT, Int.reduceLT, Int.reduceLE, Int.reduceEq, Int.reduceNeg, Int.reduceToNat, Nat.reducePow, reduceIte, reduceCtorEq, c1, c2, c3, t1, t2, t3, Bool.not_true])|((with_reducible first|refine jW ?hy ?_|refine jY ?hy ?_);case hy=>rfl)|((with_reducible first|refine jX ?hy ?_|refine jZ ?hy ?_);case hy=>rfl)|((with_reducible refine jF ?hy ?_);case hy=>decide))
 exact fin
theorem Same_bad (h : OrM H o T ids p n) (hn : n ≤ 64) {u v : Int} (hk : ¬ ((0 ≤ u ∧ u < n) ∧ 0 ≤ v ∧ v < n)) (fin : L (.tuple #[.bool false, .int .i64 80]) H) :
  CallsH Try.prog 22 #[.pointer (some ⟨o, 0, none⟩), .int .i64 u, .int .i64 v] H L := by
 refine call22 (by simp) ?_
 simp only [Try.f22, Option.getD_some]
 repeat' (first|(with_reducible first|refine jA ?_|(refine hK _ _ ?_;clear hK K)|refine jJ fun K hK=>?_|refine jK ?_|refine jL ?_|refine jM ?_|refine jN ?_|refine jO ?_|refine jP ?_|refine jQ ?_|(refine jB ?_;clear hK K)|(refine jC ?_;clear hK K)|refine jD ?_|refine jE ?_|refine jG ?_|refine jH ?_|refine jI ?_)|((with_reducible refine jR ?hq ?_);case hq=>rfl)|((first|(with_reducible first|refine jS fun K hK=>?_|refine jT ?_|refine jU ?_)|((with_reducible refine jV ?hy fun K hK=>?_);case hy=>rfl));simp only [go_sem, Nat.reduceEqDiff, Nat.reduceAdd, Nat.reduceMul, Nat.reduceLeDiff, Nat.reduceLT, Int.reduceLT, Int.reduceLE, Int.reduceEq, Int.reduceNeg, Int.reduceToNat, Nat.reducePow, reduceIte, reduceCtorEq])|((with_reducible first|refine jW ?hy ?_|refine jY ?hy ?_);case hy=>rfl)|((with_reducible first|refine jX ?hy ?_|refine jZ ?hy ?_);case hy=>rfl)|((with_reducible refine jF ?hy ?_);case hy=>decide))
 refine has_ok h hn ?_
 by_cases hu : 0 ≤ u ∧ u < n
 ·rw [decide_eq_true hu]
  repeat' (first|(with_reducible first|refine jA ?_|(refine hK _ _ ?_;clear hK K)|refine jJ fun K hK=>?_|refine jK ?_|refine jL ?_|refine jM ?_|refine jN ?_|refine jO ?_|refine jP ?_|refine jQ ?_|(refine jB ?_;clear hK K)|(refine jC ?_;clear hK K)|refine jD ?_|refine jE ?_|refine jG ?_|refine jH ?_|refine jI ?_)|((with_reducible refine jR ?hq ?_);case hq=>rfl)|((first|(with_reducible first|refine jS fun K hK=>?_|refine jT ?_|refine jU ?_)|((with_reducible refine jV ?hy fun K hK=>?_);case hy=>rfl));simp only [go_sem, Nat.reduceEqDiff, Nat.reduceAdd, Nat.reduceMul, Nat.reduceLeDiff, Nat.reduceLT, Int.reduceLT, Int.reduceLE, Int.reduceEq, Int.reduceNeg, Int.reduceToNat, Nat.reducePow, reduceIte, reduceCtorEq, Bool.not_true])|((with_reducible first|refine jW ?hy ?_|refine jY ?hy ?_);case hy=>rfl)|((with_reducible first|refine jX ?hy ?_|refine jZ ?hy ?_);case hy=>rfl)|((with_reducible refine jF ?hy ?_);case hy=>decide))
  refine has_ok h hn ?_
  rw [decide_eq_false fun e => hk ⟨hu, e⟩]
  repeat' (first|(with_reducible first|refine jA ?_|(refine hK _ _ ?_;clear hK K)|refine jJ fun K hK=>?_|refine jK ?_|refine jL ?_|refine jM ?_|refine jN ?_|refine jO ?_|refine jP ?_|refine jQ ?_|(refine jB ?_;clear hK K)|(refine jC ?_;clear hK K)|refine jD ?_|refine jE ?_|refine jG ?_|refine jH ?_|refine jI ?_)|((with_reducible refine jR ?hq ?_);case hq=>rfl)|((first|(with_reducible first|refine jS fun K hK=>?_|refine jT ?_|refine jU ?_)|((with_reducible refine jV ?hy fun K hK=>?_);case hy=>rfl));simp only [go_sem, Nat.reduceEqDiff, Nat.reduceAdd, Nat.reduceMul, Nat.reduceLeDiff, Nat.reduceLT, Int.reduceLT, Int.reduceLE, Int.reduceEq, Int.reduceNeg, Int.reduceToNat, Nat.reducePow, reduceIte, reduceCtorEq, Bool.not_false])|((with_reducible first|refine jW ?hy ?_|refine jY ?hy ?_);case hy=>rfl)|((with_reducible first|refine jX ?hy ?_|refine jZ ?hy ?_);case hy=>rfl)|((with_reducible refine jF ?hy ?_);case hy=>decide))
  exact fin
 ·rw [decide_eq_false hu]
  repeat' (first|(with_reducible first|refine jA ?_|(refine hK _ _ ?_;clear hK K)|refine jJ fun K hK=>?_|refine jK ?_|refine jL ?_|refine jM ?_|refine jN ?_|refine jO ?_|refine jP ?_|refine jQ ?_|(refine jB ?_;clear hK K)|(refine jC ?_;clear hK K)|refine jD ?_|refine jE ?_|refine jG ?_|refine jH ?_|refine jI ?_)|((with_reducible refine jR ?hq ?_);case hq=>rfl)|((first|(with_reducible first|refine jS fun K hK=>?_|refine jT ?_|refine jU ?_)|((with_reducible refine jV ?hy fun K hK=>?_);case hy=>rfl));simp only [go_sem, Nat.reduceEqDiff, Nat.reduceAdd, Nat.reduceMul, Nat.reduceLeDiff, Nat.reduceLT, Int.reduceLT, Int.reduceLE, Int.reduceEq, Int.reduceNeg, Int.reduceToNat, Nat.reducePow, reduceIte, reduceCtorEq, Bool.not_false])|((with_reducible first|refine jW ?hy ?_|refine jY ?hy ?_);case hy=>rfl)|((with_reducible first|refine jX ?hy ?_|refine jZ ?hy ?_);case hy=>rfl)|((with_reducible refine jF ?hy ?_);case hy=>decide))
  exact fin
theorem Blocks_ok (h : OrM H o T ids p n) (hn : n ≤ 64) (fin : L (.int .i64 (cnt n p : Nat)) H) :
  CallsH Try.prog 14 #[.pointer (some ⟨o, 0, none⟩)] H L := by
 obtain ⟨vb, Bb, gb, h1, h2, hq, _⟩ := id h.ex
 have c1 := h1.cellOf (i := 1) rfl
 refine call14 (by simp) ?_
 simp only [Try.f14, Option.getD_some]
 repeat' (first|(with_reducible first|refine jA ?_|(refine hK _ _ ?_;clear hK K)|refine jJ fun K hK=>?_|refine jK ?_|refine jL ?_|refine jM ?_|refine jN ?_|refine jO ?_|refine jP ?_|refine jQ ?_|(refine jB ?_;clear hK K)|(refine jC ?_;clear hK K)|refine jD ?_|refine jE ?_|refine jG ?_|refine jH ?_|refine jI ?_)|((with_reducible refine jR ?hq ?_);case hq=>rfl)|((first|(with_reducible first|refine jS fun K hK=>?_|refine jT ?_|refine jU ?_)|((with_reducible refine jV ?hy fun K hK=>?_);case hy=>rfl));simp only [go_sem, Nat.reduceEqDiff, Nat.reduceAdd, Nat.reduceMul, Nat.reduceLeDiff, Nat.reduceLT, Int.reduceLT, Int.reduceLE, Int.reduceEq, Int.reduceNeg, Int.reduceToNat, Nat.reducePow, reduceIte, reduceCtorEq, c1])|((with_reducible first|refine jW ?hy ?_|refine jY ?hy ?_);case hy=>rfl)|((with_reducible first|refine jX ?hy ?_|refine jZ ?hy ?_);case hy=>rfl)|((with_reducible refine jF ?hy ?_);case hy=>decide))
 refine x_loop (fun m e' H' => H' = H ∧ ∃ i : Nat, e' 11 = .int .i64 (i : Nat) ∧ e' 3 = .int .i64 (cnt i p : Nat) ∧ i ≤ n ∧ m = n - i) n ⟨rfl, 0, rfl, rfl, Nat.zero_le _, rfl⟩ ?_
 rintro m e1 H2 ⟨rfl, i, i11, i3, hi, hm⟩ hoff
 have i9 : e1 9 = .slice (some ⟨gb, 0, none⟩) n n := (hoff 9 rfl).trans rfl
 have i10 : e1 10 = .int .i64 (n : Nat) := (hoff 10 rfl).trans rfl
 clear hoff
 have cw : IntKind.i64.wrap ((cnt i p : Nat) + 1 : Int) = ((cnt i p + 1 : Nat) : Int) := by have := cnt_le i p; rw [wrap_i64] <;> omega
 have ew : IntKind.i64.wrap ((i : Int) + 1) = ((i + 1 : Nat) : Int) := by rw [wrap_i64] <;> omega
 by_cases hlt : i < n
 ·have t1 : ((i : Int) < (n : Int)) = True := eq_true (by omega)
  have t1' : (i < n) = True := eq_true hlt
  have ci := hq.cell (vr_get (f := nI p) hlt)
  by_cases he : p i = i
  ·have t2 : ((i : Int) == (nI p i)) = true := by simp [nI, he]
   repeat' (first|(with_reducible first|refine jA ?_|(refine hK _ _ ?_;clear hK K)|refine jJ fun K hK=>?_|refine jK ?_|refine jL ?_|refine jM ?_|refine jN ?_|refine jO ?_|refine jP ?_|refine jQ ?_|(refine jB ?_;clear hK K)|(refine jC ?_;clear hK K)|refine jD ?_|refine jE ?_|refine jG ?_|refine jH ?_|refine jI ?_)|((with_reducible refine jR ?hq ?_);case hq=>rfl)|((first|(with_reducible first|refine jS fun K hK=>?_|refine jT ?_|refine jU ?_)|((with_reducible refine jV ?hy fun K hK=>?_);case hy=>rfl));simp only [go_sem, Nat.reduceEqDiff, Nat.reduceAdd, Nat.reduceMul, Nat.reduceLeDiff, Nat.reduceLT, Int.reduceLT, Int.reduceLE, Int.reduceEq, Int.reduceNeg, Int.reduceToNat, Nat.reducePow, reduceIte, reduceCtorEq, i9, i10, i11, i3, t1, t1', ci, t2, cw, ew])|((with_reducible first|refine jW ?hy ?_|refine jY ?hy ?_);case hy=>rfl)|((with_reducible first|refine jX ?hy ?_|refine jZ ?hy ?_);case hy=>rfl)|((with_reducible refine jF ?hy ?_);case hy=>decide))
   exact loop_normal (m' := n - (i + 1)) (by omega) ⟨rfl, i + 1, rfl, by rw [cnt_succ, if_pos he]; rfl, hlt, rfl⟩
  ·have t2 : ((i : Int) == (nI p i)) = false := beq_false_of_ne (by unfold nI; omega)
   repeat' (first|(with_reducible first|refine jA ?_|(refine hK _ _ ?_;clear hK K)|refine jJ fun K hK=>?_|refine jK ?_|refine jL ?_|refine jM ?_|refine jN ?_|refine jO ?_|refine jP ?_|refine jQ ?_|(refine jB ?_;clear hK K)|(refine jC ?_;clear hK K)|refine jD ?_|refine jE ?_|refine jG ?_|refine jH ?_|refine jI ?_)|((with_reducible refine jR ?hq ?_);case hq=>rfl)|((first|(with_reducible first|refine jS fun K hK=>?_|refine jT ?_|refine jU ?_)|((with_reducible refine jV ?hy fun K hK=>?_);case hy=>rfl));simp only [go_sem, Nat.reduceEqDiff, Nat.reduceAdd, Nat.reduceMul, Nat.reduceLeDiff, Nat.reduceLT, Int.reduceLT, Int.reduceLE, Int.reduceEq, Int.reduceNeg, Int.reduceToNat, Nat.reducePow, reduceIte, reduceCtorEq, i9, i10, i11, t1, t1', ci, t2, ew])|((with_reducible first|refine jW ?hy ?_|refine jY ?hy ?_);case hy=>rfl)|((with_reducible first|refine jX ?hy ?_|refine jZ ?hy ?_);case hy=>rfl)|((with_reducible refine jF ?hy ?_);case hy=>decide))
   exact loop_normal (m' := n - (i + 1)) (by omega) ⟨rfl, i + 1, rfl, by rw [cnt_succ, if_neg he]; exact i3, hlt, rfl⟩
 ·have t1 : ((i : Int) < (n : Int)) = False := eq_false (by omega)
  have t1' : (i < n) = False := eq_false hlt
  obtain rfl : i = n := by omega
  repeat' (first|(with_reducible first|refine jA ?_|(refine hK _ _ ?_;clear hK K)|refine jJ fun K hK=>?_|refine jK ?_|refine jL ?_|refine jM ?_|refine jN ?_|refine jO ?_|refine jP ?_|refine jQ ?_|(refine jB ?_;clear hK K)|(refine jC ?_;clear hK K)|refine jD ?_|refine jE ?_|refine jG ?_|refine jH ?_|refine jI ?_)|((with_reducible refine jR ?hq ?_);case hq=>rfl)|((first|(with_reducible first|refine jS fun K hK=>?_|refine jT ?_|refine jU ?_)|((with_reducible refine jV ?hy fun K hK=>?_);case hy=>rfl));simp only [go_sem, Nat.reduceEqDiff, Nat.reduceAdd, Nat.reduceMul, Nat.reduceLeDiff, Nat.reduceLT, Int.reduceLT, Int.reduceLE, Int.reduceEq, Int.reduceNeg, Int.reduceToNat, Nat.reducePow, reduceIte, reduceCtorEq, i10, i11, i3, t1, t1'])|((with_reducible first|refine jW ?hy ?_|refine jY ?hy ?_);case hy=>rfl)|((with_reducible first|refine jX ?hy ?_|refine jZ ?hy ?_);case hy=>rfl)|((with_reducible refine jF ?hy ?_);case hy=>decide))
  exact fin
theorem call27 {args : Array Value} {H : Heap} {K : Value → Heap → Prop} (ha : args.size ≤ 9) (h : codeX Try.prog [] (Try.f27.body.getD .skip) (endQ Try.prog [.tmp 2] K) (Env.init args) H) : CallsH Try.prog 27 args H K :=
 callsH_of mixed [] 9 [.tmp 2] (f := 27) (fn := Try.f27) (by kernel_rfl) (by kernel_rfl) (c := Try.f27.body.getD .skip) (by kernel_rfl) (by kernel_rfl) (by kernel_rfl) (by kernel_rfl) ha h
theorem call28 {args : Array Value} {H : Heap} {K : Value → Heap → Prop} (ha : args.size ≤ 8) (h : codeX Try.prog [] (Try.f28.body.getD .skip) (endQ Try.prog [.tmp 2] K) (Env.init args) H) : CallsH Try.prog 28 args H K :=
 callsH_of mixed [] 8 [.tmp 2] (f := 28) (fn := Try.f28) (by kernel_rfl) (by kernel_rfl) (c := Try.f28.body.getD .skip) (by kernel_rfl) (by kernel_rfl) (by kernel_rfl) (by kernel_rfl) ha h
theorem Clip_ok0 (fin : L (.slice none 0 0) H) : CallsH Try.prog 27 #[.slice none 0 0] H L := by
 refine call27 (by simp) ?_
 simp only [Try.f27, Option.getD_some]
 repeat' (first|(with_reducible first|refine jA ?_|(refine hK _ _ ?_;clear hK K)|refine jJ fun K hK=>?_|refine jK ?_|refine jL ?_|refine jM ?_|refine jN ?_|refine jO ?_|refine jP ?_|refine jQ ?_|(refine jB ?_;clear hK K)|(refine jC ?_;clear hK K)|refine jD ?_|refine jE ?_|refine jG ?_|refine jH ?_|refine jI ?_)|((with_reducible refine jR ?hq ?_);case hq=>rfl)|((first|(with_reducible first|refine jS fun K hK=>?_|refine jT ?_|refine jU ?_)|((with_reducible refine jV ?hy fun K hK=>?_);case hy=>rfl));simp only [go_sem, Nat.reduceEqDiff, Nat.reduceAdd, Nat.reduceMul, Nat.reduceLeDiff, Nat.reduceLT, Int.reduceLT, Int.reduceLE, Int.reduceEq, Int.reduceNeg, Int.reduceToNat, Nat.reducePow, reduceIte, reduceCtorEq])|((with_reducible first|refine jW ?hy ?_|refine jY ?hy ?_);case hy=>rfl)|((with_reducible first|refine jX ?hy ?_|refine jZ ?hy ?_);case hy=>rfl)|((with_reducible refine jF ?hy ?_);case hy=>decide))
 exact fin
theorem Clip_ok {g c : Nat} {xs : List Int} (hc : xs.length ≤ c) (fin : L (.slice (some ⟨g, 0, none⟩) xs.length xs.length) H) :
  CallsH Try.prog 27 #[.slice (some ⟨g, 0, none⟩) xs.length c] H L := by
 have t1 : (xs.length ≤ c) = True := eq_true hc
 have t0 : (xs.length ≤ xs.length) = True := eq_true (Nat.le_refl _)
 refine call27 (by simp) ?_
 simp only [Try.f27, Option.getD_some]
 repeat' (first|(with_reducible first|refine jA ?_|(refine hK _ _ ?_;clear hK K)|refine jJ fun K hK=>?_|refine jK ?_|refine jL ?_|refine jM ?_|refine jN ?_|refine jO ?_|refine jP ?_|refine jQ ?_|(refine jB ?_;clear hK K)|(refine jC ?_;clear hK K)|refine jD ?_|refine jE ?_|refine jG ?_|refine jH ?_|refine jI ?_)|((with_reducible refine jR ?hq ?_);case hq=>rfl)|((first|(with_reducible first|refine jS fun K hK=>?_|refine jT ?_|refine jU ?_)|((with_reducible refine jV ?hy fun K hK=>?_);case hy=>rfl));simp only [go_sem, Nat.reduceEqDiff, Nat.reduceAdd, Nat.reduceMul, Nat.reduceLeDiff, Nat.reduceLT, Int.reduceLT, Int.reduceLE, Int.reduceEq, Int.reduceNeg, Int.reduceToNat, Nat.reducePow, reduceIte, reduceCtorEq, t0, t1, ite_self, Nat.sub_zero])|((with_reducible first|refine jW ?hy ?_|refine jY ?hy ?_);case hy=>rfl)|((with_reducible first|refine jX ?hy ?_|refine jZ ?hy ?_);case hy=>rfl)|((with_reducible refine jF ?hy ?_);case hy=>decide))
 exact fin
theorem Clone_ok {B : Option Nat} {v : Value} {xs : List Int} (h : IR H B v xs) (hl : xs.length ≤ 100000) (fin : ∀ H' B' v', IR H' B' v' xs → (∀ b, B' = some b → H.size ≤ b) → Fr (fun _ => False) H H' → L v' H') :
  CallsH Try.prog 28 #[v] H L := by
 obtain ⟨h0, ⟨rfl, rfl, hz⟩ | ⟨g, c, rest, rfl, rfl, hb, hlc, hc⟩⟩ := id h
 ·skip
  refine call28 (by simp) ?_
  simp only [Try.f28, Option.getD_some]
  repeat' (first|(with_reducible first|refine jA ?_|(refine hK _ _ ?_;clear hK K)|refine jJ fun K hK=>?_|refine jK ?_|refine jL ?_|refine jM ?_|refine jN ?_|refine jO ?_|refine jP ?_|refine jQ ?_|(refine jB ?_;clear hK K)|(refine jC ?_;clear hK K)|refine jD ?_|refine jE ?_|refine jG ?_|refine jH ?_|refine jI ?_)|((with_reducible refine jR ?hq ?_);case hq=>rfl)|((first|(with_reducible first|refine jS fun K hK=>?_|refine jT ?_|refine jU ?_)|((with_reducible refine jV ?hy fun K hK=>?_);case hy=>rfl));simp only [go_sem, Nat.reduceEqDiff, Nat.reduceAdd, Nat.reduceMul, Nat.reduceLeDiff, Nat.reduceLT, Int.reduceLT, Int.reduceLE, Int.reduceEq, Int.reduceNeg, Int.reduceToNat, Nat.reducePow, reduceIte, reduceCtorEq])|((with_reducible first|refine jW ?hy ?_|refine jY ?hy ?_);case hy=>rfl)|((with_reducible first|refine jX ?hy ?_|refine jZ ?hy ?_);case hy=>rfl)|((with_reducible refine jF ?hy ?_);case hy=>decide))
  refine ⟨_, rd_slice_nil elems32 _ _ _, ?_⟩
  repeat' (first|(with_reducible first|refine jA ?_|(refine hK _ _ ?_;clear hK K)|refine jJ fun K hK=>?_|refine jK ?_|refine jL ?_|refine jM ?_|refine jN ?_|refine jO ?_|refine jP ?_|refine jQ ?_|(refine jB ?_;clear hK K)|(refine jC ?_;clear hK K)|refine jD ?_|refine jE ?_|refine jG ?_|refine jH ?_|refine jI ?_)|((with_reducible refine jR ?hq ?_);case hq=>rfl)|((first|(with_reducible first|refine jS fun K hK=>?_|refine jT ?_|refine jU ?_)|((with_reducible refine jV ?hy fun K hK=>?_);case hy=>rfl));simp only [go_sem, Nat.reduceEqDiff, Nat.reduceAdd, Nat.reduceMul, Nat.reduceLeDiff, Nat.reduceLT, Int.reduceLT, Int.reduceLE, Int.reduceEq, Int.reduceNeg, Int.reduceToNat, Nat.reducePow, reduceIte, reduceCtorEq, Option.isNone_none])|((with_reducible first|refine jW ?hy ?_|refine jY ?hy ?_);case hy=>rfl)|((with_reducible first|refine jX ?hy ?_|refine jZ ?hy ?_);case hy=>rfl)|((with_reducible refine jF ?hy ?_);case hy=>decide))
  exact fin _ none _ h nofun (Fr.refl _ _)
 ·have fz : Fr (fun _ => False) H (H.push (.cells #[] 3)) := (Fr.refl _ _).push _
  have hz : IR (H.push (.cells #[] 3)) (some H.size) (.slice (some ⟨H.size, 0, none⟩) 0 0) [] := ⟨rfl, .inr ⟨H.size, 0, [], rfl, rfl, Blk.new H [] _, rfl, Nat.le_refl _⟩⟩
  have h1 := h.frame fz fun _ _ h => h
  have hy := readL_blk (hb.frame fz fun h => h) xs.length 0 0 (by simp)
  rw [Nat.zero_add, List.drop_zero, List.take_append_of_le_length (by simp), List.take_of_length_le (by simp)] at hy
  refine call28 (by simp) ?_
  simp only [Try.f28, Option.getD_some]
  repeat' (first|(with_reducible first|refine jA ?_|(refine hK _ _ ?_;clear hK K)|refine jJ fun K hK=>?_|refine jK ?_|refine jL ?_|refine jM ?_|refine jN ?_|refine jO ?_|refine jP ?_|refine jQ ?_|(refine jB ?_;clear hK K)|(refine jC ?_;clear hK K)|refine jD ?_|refine jE ?_|refine jG ?_|refine jH ?_|refine jI ?_)|((with_reducible refine jR ?hq ?_);case hq=>rfl)|((first|(with_reducible first|refine jS fun K hK=>?_|refine jT ?_|refine jU ?_)|((with_reducible refine jV ?hy fun K hK=>?_);case hy=>rfl));simp only [go_sem, Nat.reduceEqDiff, Nat.reduceAdd, Nat.reduceMul, Nat.reduceLeDiff, Nat.reduceLT, Int.reduceLT, Int.reduceLE, Int.reduceEq, Int.reduceNeg, Int.reduceToNat, Nat.reducePow, reduceIte, reduceCtorEq])|((with_reducible first|refine jW ?hy ?_|refine jY ?hy ?_);case hy=>rfl)|((with_reducible first|refine jX ?hy ?_|refine jZ ?hy ?_);case hy=>rfl)|((with_reducible refine jF ?hy ?_);case hy=>decide))
  refine ⟨_, rd_slice_nil elems32 _ _ _, ?_⟩
  repeat' (first|(with_reducible first|refine jA ?_|(refine hK _ _ ?_;clear hK K)|refine jJ fun K hK=>?_|refine jK ?_|refine jL ?_|refine jM ?_|refine jN ?_|refine jO ?_|refine jP ?_|refine jQ ?_|(refine jB ?_;clear hK K)|(refine jC ?_;clear hK K)|refine jD ?_|refine jE ?_|refine jG ?_|refine jH ?_|refine jI ?_)|((with_reducible refine jR ?hq ?_);case hq=>rfl)|((first|(with_reducible first|refine jS fun K hK=>?_|refine jT ?_|refine jU ?_)|((with_reducible refine jV ?hy fun K hK=>?_);case hy=>rfl));simp only [go_sem, Nat.reduceEqDiff, Nat.reduceAdd, Nat.reduceMul, Nat.reduceLeDiff, Nat.reduceLT, Int.reduceLT, Int.reduceLE, Int.reduceEq, Int.reduceNeg, Int.reduceToNat, Nat.reducePow, reduceIte, reduceCtorEq, Option.isNone_some])|((with_reducible first|refine jW ?hy ?_|refine jY ?hy ?_);case hy=>rfl)|((with_reducible first|refine jX ?hy ?_|refine jZ ?hy ?_);case hy=>rfl)|((with_reducible refine jF ?hy ?_);case hy=>decide))
  refine append_irs elems32 tl3 hz (ys := xs) hy rfl (by decide) (by simp; omega) rfl fun v' H' B' hv hf hB => ?_
  repeat' (first|(with_reducible first|refine jA ?_|(refine hK _ _ ?_;clear hK K)|refine jJ fun K hK=>?_|refine jK ?_|refine jL ?_|refine jM ?_|refine jN ?_|refine jO ?_|refine jP ?_|refine jQ ?_|(refine jB ?_;clear hK K)|(refine jC ?_;clear hK K)|refine jD ?_|refine jE ?_|refine jG ?_|refine jH ?_|refine jI ?_)|((with_reducible refine jR ?hq ?_);case hq=>rfl)|((first|(with_reducible first|refine jS fun K hK=>?_|refine jT ?_|refine jU ?_)|((with_reducible refine jV ?hy fun K hK=>?_);case hy=>rfl));simp only [go_sem, Nat.reduceEqDiff, Nat.reduceAdd, Nat.reduceMul, Nat.reduceLeDiff, Nat.reduceLT, Int.reduceLT, Int.reduceLE, Int.reduceEq, Int.reduceNeg, Int.reduceToNat, Nat.reducePow, reduceIte, reduceCtorEq])|((with_reducible first|refine jW ?hy ?_|refine jY ?hy ?_);case hy=>rfl)|((with_reducible first|refine jX ?hy ?_|refine jZ ?hy ?_);case hy=>rfl)|((with_reducible refine jF ?hy ?_);case hy=>decide))
  refine fin H' B' v' (by simpa using hv) (fun b hb => ?_) (fz.trans' hf fun b hb e => by have := Option.some.inj e; omega)
  rcases hB with e | ⟨g', e1, e2⟩
  ·rw [e] at hb; exact Nat.le_of_eq (Option.some.inj hb)
  ·rw [e1] at hb
   have := fz.size
   have := Option.some.inj hb
   omega
theorem Bridges_ok (h : OrM H o T ids p n) (hl : ids.length ≤ 100000) (fin : ∀ H' B v, Out H' B v ids → (∀ b, B = some b → H.size ≤ b) → Fr (fun _ => False) H H' → L v H') :
  CallsH Try.prog 13 #[.pointer (some ⟨o, 0, none⟩)] H L := by
 obtain ⟨vb, Bb, gb, h1, h2, h3, _⟩ := id h.ex
 have c0 := h1.cellOf (i := 0) rfl
 obtain ⟨sb, cb, rfl⟩ := h2.slice
 refine call13 (by simp) ?_
 simp only [Try.f13, Option.getD_some]
 repeat' (first|(with_reducible first|refine jA ?_|(refine hK _ _ ?_;clear hK K)|refine jJ fun K hK=>?_|refine jK ?_|refine jL ?_|refine jM ?_|refine jN ?_|refine jO ?_|refine jP ?_|refine jQ ?_|(refine jB ?_;clear hK K)|(refine jC ?_;clear hK K)|refine jD ?_|refine jE ?_|refine jG ?_|refine jH ?_|refine jI ?_)|((with_reducible refine jR ?hq ?_);case hq=>rfl)|((first|(with_reducible first|refine jS fun K hK=>?_|refine jT ?_|refine jU ?_)|((with_reducible refine jV ?hy fun K hK=>?_);case hy=>rfl));simp only [go_sem, Nat.reduceEqDiff, Nat.reduceAdd, Nat.reduceMul, Nat.reduceLeDiff, Nat.reduceLT, Int.reduceLT, Int.reduceLE, Int.reduceEq, Int.reduceNeg, Int.reduceToNat, Nat.reducePow, reduceIte, reduceCtorEq, c0])|((with_reducible first|refine jW ?hy ?_|refine jY ?hy ?_);case hy=>rfl)|((with_reducible first|refine jX ?hy ?_|refine jZ ?hy ?_);case hy=>rfl)|((with_reducible refine jF ?hy ?_);case hy=>decide))
 refine Clone_ok h2 hl fun H1 B1 v1 hv1 hB1 f1 => ?_
 repeat' (first|(with_reducible first|refine jA ?_|(refine hK _ _ ?_;clear hK K)|refine jJ fun K hK=>?_|refine jK ?_|refine jL ?_|refine jM ?_|refine jN ?_|refine jO ?_|refine jP ?_|refine jQ ?_|(refine jB ?_;clear hK K)|(refine jC ?_;clear hK K)|refine jD ?_|refine jE ?_|refine jG ?_|refine jH ?_|refine jI ?_)|((with_reducible refine jR ?hq ?_);case hq=>rfl)|((first|(with_reducible first|refine jS fun K hK=>?_|refine jT ?_|refine jU ?_)|((with_reducible refine jV ?hy fun K hK=>?_);case hy=>rfl));simp only [go_sem, Nat.reduceEqDiff, Nat.reduceAdd, Nat.reduceMul, Nat.reduceLeDiff, Nat.reduceLT, Int.reduceLT, Int.reduceLE, Int.reduceEq, Int.reduceNeg, Int.reduceToNat, Nat.reducePow, reduceIte, reduceCtorEq])|((with_reducible first|refine jW ?hy ?_|refine jY ?hy ?_);case hy=>rfl)|((with_reducible first|refine jX ?hy ?_|refine jZ ?hy ?_);case hy=>rfl)|((with_reducible refine jF ?hy ?_);case hy=>decide))
 obtain ⟨h0, ⟨rfl, rfl, hz⟩ | ⟨g, c, rest, rfl, rfl, hb, hlc, hc⟩⟩ := id hv1
 ·have e := List.length_eq_zero_iff.1 hz
  subst e
  refine Clip_ok0 ?_
  repeat' (first|(with_reducible first|refine jA ?_|(refine hK _ _ ?_;clear hK K)|refine jJ fun K hK=>?_|refine jK ?_|refine jL ?_|refine jM ?_|refine jN ?_|refine jO ?_|refine jP ?_|refine jQ ?_|(refine jB ?_;clear hK K)|(refine jC ?_;clear hK K)|refine jD ?_|refine jE ?_|refine jG ?_|refine jH ?_|refine jI ?_)|((with_reducible refine jR ?hq ?_);case hq=>rfl)|((first|(with_reducible first|refine jS fun K hK=>?_|refine jT ?_|refine jU ?_)|((with_reducible refine jV ?hy fun K hK=>?_);case hy=>rfl));simp only [go_sem, Nat.reduceEqDiff, Nat.reduceAdd, Nat.reduceMul, Nat.reduceLeDiff, Nat.reduceLT, Int.reduceLT, Int.reduceLE, Int.reduceEq, Int.reduceNeg, Int.reduceToNat, Nat.reducePow, reduceIte, reduceCtorEq])|((with_reducible first|refine jW ?hy ?_|refine jY ?hy ?_);case hy=>rfl)|((with_reducible first|refine jX ?hy ?_|refine jZ ?hy ?_);case hy=>rfl)|((with_reducible refine jF ?hy ?_);case hy=>decide))
  exact fin H1 none _ ⟨.inl ⟨rfl, rfl, rfl⟩⟩ nofun f1
 ·refine Clip_ok hc ?_
  repeat' (first|(with_reducible first|refine jA ?_|(refine hK _ _ ?_;clear hK K)|refine jJ fun K hK=>?_|refine jK ?_|refine jL ?_|refine jM ?_|refine jN ?_|refine jO ?_|refine jP ?_|refine jQ ?_|(refine jB ?_;clear hK K)|(refine jC ?_;clear hK K)|refine jD ?_|refine jE ?_|refine jG ?_|refine jH ?_|refine jI ?_)|((with_reducible refine jR ?hq ?_);case hq=>rfl)|((first|(with_reducible first|refine jS fun K hK=>?_|refine jT ?_|refine jU ?_)|((with_reducible refine jV ?hy fun K hK=>?_);case hy=>rfl));simp only [go_sem, Nat.reduceEqDiff, Nat.reduceAdd, Nat.reduceMul, Nat.reduceLeDiff, Nat.reduceLT, Int.reduceLT, Int.reduceLE, Int.reduceEq, Int.reduceNeg, Int.reduceToNat, Nat.reducePow, reduceIte, reduceCtorEq])|((with_reducible first|refine jW ?hy ?_|refine jY ?hy ?_);case hy=>rfl)|((with_reducible first|refine jX ?hy ?_|refine jZ ?hy ?_);case hy=>rfl)|((with_reducible refine jF ?hy ?_);case hy=>decide))
  exact fin H1 (some g) _ ⟨.inr ⟨g, rest, rfl, rfl, hb⟩⟩ hB1 f1
end
end Go.Proofs.Ytpeaogldojepnaa
namespace Go.Br
open Go Go.Hp Go.Li
set_option linter.unusedVariables false
def EdAt (H : Heap) (q : Addr) (x : Ed) : Prop := hcell H q = some (.int .i64 x.id) ∧ hcell H ⟨q.block, q.off + 1, none⟩ = some (.int .i64 x.u) ∧ hcell H ⟨q.block, q.off + 2, none⟩ = some (.int .i64 x.v) ∧ hcell H ⟨q.block, q.off + 3, none⟩ = some (.int .i64 x.w)
def RdE (T : Nat → Prop) (H : Heap) (vl : Value) (l : List Ed) : Prop := ∃ a c, vl = .slice a l.length c ∧ ∀ i x, l[i]? = some x → ∃ q : Addr, a = some q ∧ T (q.add (i * 4)).block ∧ EdAt H (q.add (i * 4)) x
theorem EdAt.frame {S : Nat → Prop} {H H' : Heap} {q : Addr} {x : Ed} (h : EdAt H q x) (hf : Fr S H H') (hq : ¬ S q.block) : EdAt H' q x := by
 obtain ⟨h0, h1, h2, h3⟩ := h
 have mv : ∀ {a : Addr} {v : Value}, a.block = q.block → hcell H a = some v → hcell H' a = some v := fun e h => by rw [hf.cell (hcell_lt h) (e ▸ hq)]; exact h
 exact ⟨mv rfl h0, mv rfl h1, mv rfl h2, mv rfl h3⟩
theorem RdE.frame {S T : Nat → Prop} {H H' : Heap} {vl : Value} {l : List Ed} (h : RdE T H vl l) (hf : Fr S H H') (hT : ∀ b, T b → ¬ S b) : RdE T H' vl l := by
 obtain ⟨a, c, hv, hr⟩ := h
 refine ⟨a, c, hv, fun i x hi => ?_⟩
 obtain ⟨q, h1, h2, h3⟩ := hr i x hi
 exact ⟨q, h1, h2, h3.frame hf (hT _ h2)⟩
theorem sr_rde {H : Heap} {B : Option Nat} {vl : Value} {l : List Ed} (h : SR Ed.cells 4 H B vl l) : RdE (fun b => B = some b) H vl l := by
 obtain ⟨a, c, hv⟩ := h.slice
 refine ⟨a, c, hv, fun i x hi => ?_⟩
 obtain ⟨g, c', hB, hv', _, hc⟩ := h.at edC_len hi
 rw [hv] at hv'
 simp only [Value.slice.injEq] at hv'
 refine ⟨⟨g, 0, none⟩, hv'.1, ?_, ?_⟩
 ·rw [add_mk]; exact hB
 ·rw [add_mk, Nat.zero_add]
  have q0 := hc 0 _ rfl
  rw [Nat.add_zero] at q0
  exact ⟨q0, hc 1 _ rfl, hc 2 _ rfl, hc 3 _ rfl⟩
def tot (n : Nat) (p : Nat → Nat) : Nat := ((List.range n).map p).sum
theorem tot_up {p : Nat → Nat} {v x : Nat} : ∀ {n : Nat}, v < n → tot n (up p v x) + p v = tot n p + x
 | n + 1, hv => by
  unfold tot
  rw [List.range_succ, List.map_append, List.map_append, List.sum_append, List.sum_append]
  simp only [List.map_cons, List.map_nil, List.sum_cons, List.sum_nil, Nat.add_zero]
  by_cases e : v = n
  ·subst e
   have : (List.range v).map (up p v x) = (List.range v).map p := List.map_congr_left fun i hi => up_ne _ _ (by have := List.mem_range.1 hi; omega)
   rw [this, up_same]
   omega
  ·have ih := tot_up (p := p) (x := x) (show v < n by omega)
   unfold tot at ih
   rw [up_ne p x (Ne.symm e)]
   omega
theorem tot_le {p : Nat → Nat} {m : Nat} : ∀ {n : Nat}, (∀ v, v < n → p v ≤ m) → tot n p ≤ n * m
 | 0, _ => by simp [tot]
 | n + 1, h => by
  have ih := tot_le (n := n) fun v hv => h v (by omega)
  unfold tot at ih ⊢
  rw [List.range_succ, List.map_append, List.sum_append]
  simp only [List.map_cons, List.map_nil, List.sum_cons, List.sum_nil, Nat.add_zero]
  have := h n (by omega)
  rw [Nat.add_mul, Nat.one_mul]
  omega
structure Pa (l : List Ed) (n : Nat) (p : Nat → Nat) : Prop where
 con : ∀ v, v < n → Con (Al l) v (p v)
 le : ∀ v, v < n → p v ≤ v
theorem Pa.init (l : List Ed) (n : Nat) : Pa l n fun v => v := ⟨fun v _ => .refl _, fun v _ => Nat.le_refl _⟩
theorem Pa.step {l : List Ed} {n i a b m : Nat} {p : Nat → Nat} (h : Pa l n p) (hi : Inc l i a b) (ha : a < n) (hb : b < n) (hm : (m = p a ∧ p a ≤ p b) ∨ (m = p b ∧ p b ≤ p a)) : Pa l n (up (up p a m) b m) := by
 have hab : Con (Al l) a b := .one ⟨i, hi⟩
 have ca : Con (Al l) a m := by
  rcases hm with ⟨rfl, _⟩ | ⟨rfl, _⟩
  ·exact h.con a ha
  ·exact hab.trans (h.con b hb)
 have la := h.le a ha
 have lb := h.le b hb
 refine ⟨fun v hv => ?_, fun v hv => ?_⟩
 ·by_cases e : v = b
  ·subst e; rw [up_same]; exact hab.symm.trans ca
  ·rw [up_ne _ _ e]
   by_cases e2 : v = a
   ·subst e2; rw [up_same]; exact ca
   ·rw [up_ne _ _ e2]; exact h.con v hv
 ·by_cases e : v = b
  ·subst e; rw [up_same]; omega
  ·rw [up_ne _ _ e]
   by_cases e2 : v = a
   ·subst e2; rw [up_same]; omega
   ·rw [up_ne _ _ e2]; exact h.le v hv
theorem Pa.done {l : List Ed} {n : Nat} {p : Nat → Nat} (h : Pa l n p) (heq : ∀ i x y, Inc l i x y → p x = p y) : Least (Al l) n p := by
 refine ⟨h.con, fun v w hv hw c => ?_⟩
 have : ∀ {a b : Nat}, Con (Al l) a b → p a = p b := fun c => by
  induction c with
  | refl => rfl
  | snoc _ e ih =>
   refine ih.trans ?_
   rcases e with ⟨j, e⟩ | ⟨j, e⟩
   ·exact heq j _ _ e
   ·exact (heq j _ _ e).symm
 have := this c
 have := h.le w hw
 omega
end Go.Br
namespace Go.Proofs.Ytpeaogldojepnaa
open Go Go.Hp Go.Li Go.Br
set_option linter.all false
set_option maxRecDepth 100000
set_option maxHeartbeats 3200000
section
variable {H H' : Heap} {l : List Ed} {n : Nat} {vl : Value} {T : Nat → Prop} {L : Value → Heap → Prop}
theorem Parts_ok (hl : RdE T H vl l) (hT : ∀ b, T b → b < H.size) (hn : n ≤ 64) (hll : l.length ≤ 4611686018427387904) (hok : ∀ x ∈ l, ∃ u v : Nat, x.u = u ∧ x.v = v ∧ u < n ∧ v < n)
  (fin : ∀ H' q p, Least (Al l) n p → IR H' (some q) (.slice (some ⟨q, 0, none⟩) n n) (vr n (nI p)) → H.size ≤ q → Fr (fun _ => False) H H' → L (.slice (some ⟨q, 0, none⟩) n n) H') :
  CallsH Try.prog 21 #[.int .i64 (n : Nat), vl] H L := by
 obtain ⟨a, c, rfl, _⟩ := id hl
 refine call21 (by simp) ?_
 simp only [Try.f21, Option.getD_some]
 repeat' (first|(with_reducible first|refine jA ?_|(refine hK _ _ ?_;clear hK K)|refine jJ fun K hK=>?_|refine jK ?_|refine jL ?_|refine jM ?_|refine jN ?_|refine jO ?_|refine jP ?_|refine jQ ?_|(refine jB ?_;clear hK K)|(refine jC ?_;clear hK K)|refine jD ?_|refine jE ?_|refine jG ?_|refine jH ?_|refine jI ?_)|((with_reducible refine jR ?hq ?_);case hq=>rfl)|((first|(with_reducible first|refine jS fun K hK=>?_|refine jT ?_|refine jU ?_)|((with_reducible refine jV ?hy fun K hK=>?_);case hy=>rfl));simp only [go_sem, Nat.reduceEqDiff, Nat.reduceAdd, Nat.reduceMul, Nat.reduceLeDiff, Nat.reduceLT, Int.reduceLT, Int.reduceLE, Int.reduceEq, Int.reduceNeg, Int.reduceToNat, Nat.reducePow, reduceIte, reduceCtorEq])|((with_reducible first|refine jW ?hy ?_|refine jY ?hy ?_);case hy=>rfl)|((with_reducible first|refine jX ?hy ?_|refine jZ ?hy ?_);case hy=>rfl)|((with_reducible refine jF ?hy ?_);case hy=>decide))
 refine ⟨Nat.le_refl _, by omega, ?_⟩
 have hz := ir_zero H n 3
 change K _ (H.push (.cells (repL n [Value.int .i64 0]).toArray 3))
 generalize hH1 : H.push _ = H1 at hz ⊢
 have f1 : Fr (fun _ => False) H H1 := by rw [← hH1]; exact (Fr.refl _ _).push _
 have z1 : H1.size = H.size + 1 := by rw [← hH1]; simp
 clear hH1
 generalize hq : H.size = q at hz z1 ⊢
 repeat' (first|(with_reducible first|refine jA ?_|(refine hK _ _ ?_;clear hK K)|refine jJ fun K hK=>?_|refine jK ?_|refine jL ?_|refine jM ?_|refine jN ?_|refine jO ?_|refine jP ?_|refine jQ ?_|(refine jB ?_;clear hK K)|(refine jC ?_;clear hK K)|refine jD ?_|refine jE ?_|refine jG ?_|refine jH ?_|refine jI ?_)|((with_reducible refine jR ?hq ?_);case hq=>rfl)|((first|(with_reducible first|refine jS fun K hK=>?_|refine jT ?_|refine jU ?_)|((with_reducible refine jV ?hy fun K hK=>?_);case hy=>rfl));simp only [go_sem, Nat.reduceEqDiff, Nat.reduceAdd, Nat.reduceMul, Nat.reduceLeDiff, Nat.reduceLT, Int.reduceLT, Int.reduceLE, Int.reduceEq, Int.reduceNeg, Int.reduceToNat, Nat.reducePow, reduceIte, reduceCtorEq])|((with_reducible first|refine jW ?hy ?_|refine jY ?hy ?_);case hy=>rfl)|((with_reducible first|refine jX ?hy ?_|refine jZ ?hy ?_);case hy=>rfl)|((with_reducible refine jF ?hy ?_);case hy=>decide))
 refine x_loop (fun m e' H' => ∃ (i : Nat), e' 6 = .int .i64 (i : Nat) ∧ i ≤ n ∧ IR H' (some q) (.slice (some ⟨q, 0, none⟩) n n) (vr n (nI fun x => if x < i then x else 0)) ∧ Fr (fun _ => False) H H' ∧ m = n - i) n
  ⟨0, rfl, Nat.zero_le _, by rw [show vr n (nI fun x => if x < 0 then x else 0) = vr n (fun _ => (0 : Int)) from vr_congr fun i hi => by simp [nI]]; exact hz, f1, rfl⟩ ?_
 rintro m e1 H2 ⟨i, i6, hi, hi2, f2, hm⟩ hoff
 have i0 : e1 0 = .int .i64 (n : Nat) := (hoff 0 rfl).trans rfl
 have i1 : e1 1 = .slice a l.length c := (hoff 1 rfl).trans rfl
 have i5 : e1 5 = .slice (some ⟨q, 0, none⟩) n n := (hoff 5 rfl).trans rfl
 clear hoff
 by_cases hlt : i < n
 ·have t1 : ((i : Int) < (n : Int)) = True := eq_true (by omega)
  have t1' : (i < n) = True := eq_true hlt
  have ew : IntKind.i64.wrap ((i : Int) + 1) = ((i + 1 : Nat) : Int) := by rw [wrap_i64] <;> omega
  obtain ⟨wi, h3⟩ := hi2.write (i := i) (by rw [vr_len]; exact hlt) ((i : Nat) : Int)
  rw [vr_set, nI_up] at h3
  have e3 : up (fun x => if x < i then x else 0) i i = fun x => if x < i + 1 then x else 0 := by
   funext x
   by_cases e : x = i
   ·subst e; rw [up_same, if_pos (by omega)]
   ·rw [up_ne _ _ e]
    by_cases h : x < i
    ·rw [if_pos h, if_pos (by omega)]
    ·rw [if_neg h, if_neg (by omega)]
  rw [e3] at h3
  repeat' (first|(with_reducible first|refine jA ?_|(refine hK _ _ ?_;clear hK K)|refine jJ fun K hK=>?_|refine jK ?_|refine jL ?_|refine jM ?_|refine jN ?_|refine jO ?_|refine jP ?_|refine jQ ?_|(refine jB ?_;clear hK K)|(refine jC ?_;clear hK K)|refine jD ?_|refine jE ?_|refine jG ?_|refine jH ?_|refine jI ?_)|((with_reducible refine jR ?hq ?_);case hq=>rfl)|((first|(with_reducible first|refine jS fun K hK=>?_|refine jT ?_|refine jU ?_)|((with_reducible refine jV ?hy fun K hK=>?_);case hy=>rfl));simp only [go_sem, Nat.reduceEqDiff, Nat.reduceAdd, Nat.reduceMul, Nat.reduceLeDiff, Nat.reduceLT, Int.reduceLT, Int.reduceLE, Int.reduceEq, Int.reduceNeg, Int.reduceToNat, Nat.reducePow, reduceIte, reduceCtorEq, i0, i1, i5, i6, t1, t1', wi, ew])|((with_reducible first|refine jW ?hy ?_|refine jY ?hy ?_);case hy=>rfl)|((with_reducible first|refine jX ?hy ?_|refine jZ ?hy ?_);case hy=>rfl)|((with_reducible refine jF ?hy ?_);case hy=>decide))
  exact loop_normal (m' := n - (i + 1)) (by omega) ⟨i + 1, rfl, hlt, h3, f2.trans' (Fr.set (S := (· = q)) (Fr.refl _ _) (.inl rfl) _) fun b hb e => by omega, rfl⟩
 have t1 : ((i : Int) < (n : Int)) = False := eq_false (by omega)
 have t1' : (i < n) = False := eq_false hlt
 obtain rfl : i = n := by omega
 repeat' (first|(with_reducible first|refine jA ?_|(refine hK _ _ ?_;clear hK K)|refine jJ fun K hK=>?_|refine jK ?_|refine jL ?_|refine jM ?_|refine jN ?_|refine jO ?_|refine jP ?_|refine jQ ?_|(refine jB ?_;clear hK K)|(refine jC ?_;clear hK K)|refine jD ?_|refine jE ?_|refine jG ?_|refine jH ?_|refine jI ?_)|((with_reducible refine jR ?hq ?_);case hq=>rfl)|((first|(with_reducible first|refine jS fun K hK=>?_|refine jT ?_|refine jU ?_)|((with_reducible refine jV ?hy fun K hK=>?_);case hy=>rfl));simp only [go_sem, Nat.reduceEqDiff, Nat.reduceAdd, Nat.reduceMul, Nat.reduceLeDiff, Nat.reduceLT, Int.reduceLT, Int.reduceLE, Int.reduceEq, Int.reduceNeg, Int.reduceToNat, Nat.reducePow, reduceIte, reduceCtorEq, i0, i6, t1, t1'])|((with_reducible first|refine jW ?hy ?_|refine jY ?hy ?_);case hy=>rfl)|((with_reducible first|refine jX ?hy ?_|refine jZ ?hy ?_);case hy=>rfl)|((with_reducible refine jF ?hy ?_);case hy=>decide))
 have hi3 : IR H2 (some q) (.slice (some ⟨q, 0, none⟩) i i) (vr i (nI fun x => x)) := by
  have : vr i (nI fun x => if x < i then x else 0) = vr i (nI fun x => x) := vr_congr fun x hx => by simp [nI, hx]
  rw [← this]; exact hi2
 refine x_loop (fun m e' H' => ∃ (b : Bool) (p : Nat → Nat), e' 7 = .bool b ∧ Pa l i p ∧ IR H' (some q) (.slice (some ⟨q, 0, none⟩) i i) (vr i (nI p)) ∧ (b = false → ∀ j x y, Inc l j x y → p x = p y) ∧ Fr (fun _ => False) H H' ∧ m = if b then tot i p + 1 else 0) (tot i (fun x => x) + 1)
  ⟨true, _, rfl, Pa.init l i, hi3, nofun, f2, rfl⟩ ?_
 clear hi2 hi3 f2 f1 z1 hz hm
 rintro m e3 H3 ⟨b, p, i7, hP, hp3, hb, f3, hm⟩ hoff
 have j0 : e3 0 = .int .i64 (i : Nat) := (hoff 0 rfl).trans i0
 have j1 : e3 1 = .slice a l.length c := (hoff 1 rfl).trans i1
 have j5 : e3 5 = .slice (some ⟨q, 0, none⟩) i i := (hoff 5 rfl).trans i5
 clear hoff i0 i1 i5
 cases b with
 | false =>
  repeat' (first|(with_reducible first|refine jA ?_|(refine hK _ _ ?_;clear hK K)|refine jJ fun K hK=>?_|refine jK ?_|refine jL ?_|refine jM ?_|refine jN ?_|refine jO ?_|refine jP ?_|refine jQ ?_|(refine jB ?_;clear hK K)|(refine jC ?_;clear hK K)|refine jD ?_|refine jE ?_|refine jG ?_|refine jH ?_|refine jI ?_)|((with_reducible refine jR ?hq ?_);case hq=>rfl)|((first|(with_reducible first|refine jS fun K hK=>?_|refine jT ?_|refine jU ?_)|((with_reducible refine jV ?hy fun K hK=>?_);case hy=>rfl));simp only [go_sem, Nat.reduceEqDiff, Nat.reduceAdd, Nat.reduceMul, Nat.reduceLeDiff, Nat.reduceLT, Int.reduceLT, Int.reduceLE, Int.reduceEq, Int.reduceNeg, Int.reduceToNat, Nat.reducePow, reduceIte, reduceCtorEq, i7, j5])|((with_reducible first|refine jW ?hy ?_|refine jY ?hy ?_);case hy=>rfl)|((with_reducible first|refine jX ?hy ?_|refine jZ ?hy ?_);case hy=>rfl)|((with_reducible refine jF ?hy ?_);case hy=>decide))
  exact fin _ q p (hP.done (hb rfl)) hp3 (by omega) f3
 | true =>
  rw [if_pos rfl] at hm
  repeat' (first|(with_reducible first|refine jA ?_|(refine hK _ _ ?_;clear hK K)|refine jJ fun K hK=>?_|refine jK ?_|refine jL ?_|refine jM ?_|refine jN ?_|refine jO ?_|refine jP ?_|refine jQ ?_|(refine jB ?_;clear hK K)|(refine jC ?_;clear hK K)|refine jD ?_|refine jE ?_|refine jG ?_|refine jH ?_|refine jI ?_)|((with_reducible refine jR ?hq ?_);case hq=>rfl)|((first|(with_reducible first|refine jS fun K hK=>?_|refine jT ?_|refine jU ?_)|((with_reducible refine jV ?hy fun K hK=>?_);case hy=>rfl));simp only [go_sem, Nat.reduceEqDiff, Nat.reduceAdd, Nat.reduceMul, Nat.reduceLeDiff, Nat.reduceLT, Int.reduceLT, Int.reduceLE, Int.reduceEq, Int.reduceNeg, Int.reduceToNat, Nat.reducePow, reduceIte, reduceCtorEq, i7])|((with_reducible first|refine jW ?hy ?_|refine jY ?hy ?_);case hy=>rfl)|((with_reducible first|refine jX ?hy ?_|refine jZ ?hy ?_);case hy=>rfl)|((with_reducible refine jF ?hy ?_);case hy=>decide))
  refine x_loop (fun m' e' H' => ∃ (k : Nat) (b : Bool) (p' : Nat → Nat), e' 8 = .int .i64 (k : Nat) ∧ e' 7 = .bool b ∧ k ≤ l.length ∧ Pa l i p' ∧ IR H' (some q) (.slice (some ⟨q, 0, none⟩) i i) (vr i (nI p')) ∧ (b = false → ∀ j x y, j < k → Inc l j x y → p' x = p' y) ∧ (b = false → tot i p' ≤ tot i p) ∧ (b = true → tot i p' < tot i p) ∧ Fr (fun _ => False) H H' ∧ m' = l.length - k) l.length
   ⟨0, false, p, rfl, rfl, Nat.zero_le _, hP, hp3, fun _ j x y hj => absurd hj (Nat.not_lt_zero _), fun _ => Nat.le_refl _, nofun, f3, rfl⟩ ?_
  clear hp3 hb f3 hP
  rintro m4 e4 H4 ⟨k, b, p4, k8, k7, hk, hP, hp4, hb, hle, hlt4, f4, hm4⟩ hoff
  have k0 : e4 0 = .int .i64 (i : Nat) := (hoff 0 rfl).trans j0
  have k1 : e4 1 = .slice a l.length c := (hoff 1 rfl).trans j1
  have k5 : e4 5 = .slice (some ⟨q, 0, none⟩) i i := (hoff 5 rfl).trans j5
  clear hoff j0 j1 j5
  by_cases hkl : k < l.length
  ·have t1 : ((k : Int) < (l.length : Int)) = True := eq_true (by omega)
   have t1' : (k < l.length) = True := eq_true hkl
   have ew : IntKind.i64.wrap ((k : Int) + 1) = ((k + 1 : Nat) : Int) := by rw [wrap_i64] <;> omega
   obtain ⟨x, hx⟩ : ∃ x, l[k]? = some x := ⟨_, List.getElem?_eq_getElem hkl⟩
   obtain ⟨u, v, hu, hv, hun, hvn⟩ := hok x (List.mem_of_getElem? hx)
   have hinc : Inc l k u v := ⟨x, hx, .inl ⟨hu, hv⟩⟩
   have hr4 := hl.frame f4 fun _ _ h => h
   obtain ⟨a', c', hv', hr⟩ := hr4
   simp only [Value.slice.injEq] at hv'
   obtain ⟨rfl, _, rfl⟩ := hv'
   obtain ⟨ad, rfl, hTa, q0, q1, q2, q3⟩ := hr k x hx
   rw [hu] at q1
   rw [hv] at q2
   have hTq : (ad.add (k * 4)).block ≠ q := fun e => by have := hT _ hTa; omega
   have cu := hp4.cell (vr_get (f := nI p4) hun)
   have cv := hp4.cell (vr_get (f := nI p4) hvn)
   have hui : (u < i) = True := eq_true hun
   have hvi : (v < i) = True := eq_true hvn
   by_cases heq : p4 u = p4 v
   ·have t2 : ((nI p4 u) != (nI p4 v)) = false := by simp [nI, heq]
    repeat' (first|(with_reducible first|refine jA ?_|(refine hK _ _ ?_;clear hK K)|refine jJ fun K hK=>?_|refine jK ?_|refine jL ?_|refine jM ?_|refine jN ?_|refine jO ?_|refine jP ?_|refine jQ ?_|(refine jB ?_;clear hK K)|(refine jC ?_;clear hK K)|refine jD ?_|refine jE ?_|refine jG ?_|refine jH ?_|refine jI ?_)|((with_reducible refine jR ?hq ?_);case hq=>rfl)|((first|(with_reducible first|refine jS fun K hK=>?_|refine jT ?_|refine jU ?_)|((with_reducible refine jV ?hy fun K hK=>?_);case hy=>rfl));simp only [go_sem, Nat.reduceEqDiff, Nat.reduceAdd, Nat.reduceMul, Nat.reduceLeDiff, Nat.reduceLT, Int.reduceLT, Int.reduceLE, Int.reduceEq, Int.reduceNeg, Int.reduceToNat, Nat.reducePow, reduceIte, reduceCtorEq, k0, k1, k5, k8, t1, t1', q1, q2, cu, cv, hui, hvi, t2, ew])|((with_reducible first|refine jW ?hy ?_|refine jY ?hy ?_);case hy=>rfl)|((with_reducible first|refine jX ?hy ?_|refine jZ ?hy ?_);case hy=>rfl)|((with_reducible refine jF ?hy ?_);case hy=>decide))
    refine loop_normal (m' := l.length - (k + 1)) (by omega) ⟨k + 1, b, p4, rfl, k7, hkl, hP, hp4, fun hb' j x' y' hj hi => ?_, hle, hlt4, f4, rfl⟩
    rcases Nat.lt_succ_iff_lt_or_eq.1 hj with hj | rfl
    ·exact hb hb' j x' y' hj hi
    ·rcases hinc.ends hi with ⟨rfl, rfl⟩ | ⟨rfl, rfl⟩
     ·exact heq
     ·exact heq.symm
   ·have t2 : ((nI p4 u) != (nI p4 v)) = true := by simp [nI]; omega
    obtain ⟨m5, hm5, hm5'⟩ : ∃ m5 : Nat, (if nI p4 v < nI p4 u then nI p4 v else nI p4 u) = (m5 : Int) ∧ ((m5 = p4 u ∧ p4 u ≤ p4 v) ∨ (m5 = p4 v ∧ p4 v ≤ p4 u)) := by
     unfold nI
     by_cases h : p4 v < p4 u
     ·exact ⟨p4 v, by rw [if_pos (by omega)], .inr ⟨rfl, by omega⟩⟩
     ·exact ⟨p4 u, by rw [if_neg (by omega)], .inl ⟨rfl, by omega⟩⟩
    obtain ⟨w5, hp5⟩ := hp4.write (i := u) (by rw [vr_len]; exact hun) ((m5 : Nat) : Int)
    rw [vr_set, nI_up] at hp5
    have f5 : Fr (· = q) H4 (hset H4 ⟨q, u, none⟩ (.int .i64 (m5 : Nat))) := Fr.set (S := (· = q)) (Fr.refl _ _) (.inl rfl) _
    have q1' := (f5.cell (hcell_lt q1) hTq).trans q1
    have q2' := (f5.cell (hcell_lt q2) hTq).trans q2
    obtain ⟨w6, hp6⟩ := hp5.write (i := v) (by rw [vr_len]; exact hvn) ((m5 : Nat) : Int)
    rw [vr_set, nI_up] at hp6
    repeat' (first|(with_reducible first|refine jA ?_|(refine hK _ _ ?_;clear hK K)|refine jJ fun K hK=>?_|refine jK ?_|refine jL ?_|refine jM ?_|refine jN ?_|refine jO ?_|refine jP ?_|refine jQ ?_|(refine jB ?_;clear hK K)|(refine jC ?_;clear hK K)|refine jD ?_|refine jE ?_|refine jG ?_|refine jH ?_|refine jI ?_)|((with_reducible refine jR ?hq ?_);case hq=>rfl)|((first|(with_reducible first|refine jS fun K hK=>?_|refine jT ?_|refine jU ?_)|((with_reducible refine jV ?hy fun K hK=>?_);case hy=>rfl));simp only [go_sem, Nat.reduceEqDiff, Nat.reduceAdd, Nat.reduceMul, Nat.reduceLeDiff, Nat.reduceLT, Int.reduceLT, Int.reduceLE, Int.reduceEq, Int.reduceNeg, Int.reduceToNat, Nat.reducePow, reduceIte, reduceCtorEq, k0, k1, k5, k8, t1, t1', q1, q2, cu, cv, hui, hvi, t2, hm5, w5, q1', q2', w6, ew])|((with_reducible first|refine jW ?hy ?_|refine jY ?hy ?_);case hy=>rfl)|((with_reducible first|refine jX ?hy ?_|refine jZ ?hy ?_);case hy=>rfl)|((with_reducible refine jF ?hy ?_);case hy=>decide))
    have huv : u ≠ v := fun e => heq (by rw [e])
    have g1 := tot_up (p := p4) (x := m5) hun
    have g2 := tot_up (p := up p4 u m5) (x := m5) hvn
    rw [up_ne _ _ (Ne.symm huv)] at g2
    have g0 : tot i p4 ≤ tot i p := by
     cases b with
     | false => exact hle rfl
     | true => exact Nat.le_of_lt (hlt4 rfl)
    refine loop_normal (m' := l.length - (k + 1)) (by omega) ⟨k + 1, true, _, rfl, rfl, hkl, hP.step hinc hun hvn hm5', hp6, nofun, nofun, fun _ => by omega, f4.trans' (f5.trans (Fr.set (S := (· = q)) (Fr.refl _ _) (.inl rfl) _)) fun b hb e => by omega, rfl⟩
  ·have t1 : ((k : Int) < (l.length : Int)) = False := eq_false (by omega)
   have t1' : (k < l.length) = False := eq_false hkl
   obtain rfl : k = l.length := by omega
   repeat' (first|(with_reducible first|refine jA ?_|(refine hK _ _ ?_;clear hK K)|refine jJ fun K hK=>?_|refine jK ?_|refine jL ?_|refine jM ?_|refine jN ?_|refine jO ?_|refine jP ?_|refine jQ ?_|(refine jB ?_;clear hK K)|(refine jC ?_;clear hK K)|refine jD ?_|refine jE ?_|refine jG ?_|refine jH ?_|refine jI ?_)|((with_reducible refine jR ?hq ?_);case hq=>rfl)|((first|(with_reducible first|refine jS fun K hK=>?_|refine jT ?_|refine jU ?_)|((with_reducible refine jV ?hy fun K hK=>?_);case hy=>rfl));simp only [go_sem, Nat.reduceEqDiff, Nat.reduceAdd, Nat.reduceMul, Nat.reduceLeDiff, Nat.reduceLT, Int.reduceLT, Int.reduceLE, Int.reduceEq, Int.reduceNeg, Int.reduceToNat, Nat.reducePow, reduceIte, reduceCtorEq, k1, k8, t1, t1'])|((with_reducible first|refine jW ?hy ?_|refine jY ?hy ?_);case hy=>rfl)|((with_reducible first|refine jX ?hy ?_|refine jZ ?hy ?_);case hy=>rfl)|((with_reducible refine jF ?hy ?_);case hy=>decide))
   cases b with
   | false => exact loop_normal (m' := 0) (by omega) ⟨false, p4, k7, hP, hp4, fun h j x y hi => hb h j x y hi.lt hi, f4, rfl⟩
   | true => exact loop_normal (m' := tot i p4 + 1) (by have := hlt4 rfl; omega) ⟨true, p4, k7, hP, hp4, nofun, f4, rfl⟩
theorem parts_ok (hl : RdE T H vl l) (hT : ∀ b, T b → b < H.size) (hn : n ≤ 64) (hll : l.length ≤ 4611686018427387904) (hok : ∀ x ∈ l, ∃ u v : Nat, x.u = u ∧ x.v = v ∧ u < n ∧ v < n)
  (fin : ∀ H' p, Least (Al l) n p → Fr (fun _ => False) H H' → L (.int .i64 (cnt n p : Nat)) H') :
  CallsH Try.prog 12 #[.int .i64 (n : Nat), vl] H L := by
 obtain ⟨a, c, rfl, _⟩ := id hl
 refine call12 (by simp) ?_
 simp only [Try.f12, Option.getD_some]
 repeat' (first|(with_reducible first|refine jA ?_|(refine hK _ _ ?_;clear hK K)|refine jJ fun K hK=>?_|refine jK ?_|refine jL ?_|refine jM ?_|refine jN ?_|refine jO ?_|refine jP ?_|refine jQ ?_|(refine jB ?_;clear hK K)|(refine jC ?_;clear hK K)|refine jD ?_|refine jE ?_|refine jG ?_|refine jH ?_|refine jI ?_)|((with_reducible refine jR ?hq ?_);case hq=>rfl)|((first|(with_reducible first|refine jS fun K hK=>?_|refine jT ?_|refine jU ?_)|((with_reducible refine jV ?hy fun K hK=>?_);case hy=>rfl));simp only [go_sem, Nat.reduceEqDiff, Nat.reduceAdd, Nat.reduceMul, Nat.reduceLeDiff, Nat.reduceLT, Int.reduceLT, Int.reduceLE, Int.reduceEq, Int.reduceNeg, Int.reduceToNat, Nat.reducePow, reduceIte, reduceCtorEq])|((with_reducible first|refine jW ?hy ?_|refine jY ?hy ?_);case hy=>rfl)|((with_reducible first|refine jX ?hy ?_|refine jZ ?hy ?_);case hy=>rfl)|((with_reducible refine jF ?hy ?_);case hy=>decide))
 refine Parts_ok hl hT hn hll hok fun H1 q p hP hq hqs f1 => ?_
 repeat' (first|(with_reducible first|refine jA ?_|(refine hK _ _ ?_;clear hK K)|refine jJ fun K hK=>?_|refine jK ?_|refine jL ?_|refine jM ?_|refine jN ?_|refine jO ?_|refine jP ?_|refine jQ ?_|(refine jB ?_;clear hK K)|(refine jC ?_;clear hK K)|refine jD ?_|refine jE ?_|refine jG ?_|refine jH ?_|refine jI ?_)|((with_reducible refine jR ?hq ?_);case hq=>rfl)|((first|(with_reducible first|refine jS fun K hK=>?_|refine jT ?_|refine jU ?_)|((with_reducible refine jV ?hy fun K hK=>?_);case hy=>rfl));simp only [go_sem, Nat.reduceEqDiff, Nat.reduceAdd, Nat.reduceMul, Nat.reduceLeDiff, Nat.reduceLT, Int.reduceLT, Int.reduceLE, Int.reduceEq, Int.reduceNeg, Int.reduceToNat, Nat.reducePow, reduceIte, reduceCtorEq])|((with_reducible first|refine jW ?hy ?_|refine jY ?hy ?_);case hy=>rfl)|((with_reducible first|refine jX ?hy ?_|refine jZ ?hy ?_);case hy=>rfl)|((with_reducible refine jF ?hy ?_);case hy=>decide))
 refine x_loop (fun m e' H' => H' = H1 ∧ ∃ i : Nat, e' 7 = .int .i64 (i : Nat) ∧ e' 6 = .int .i64 (cnt i p : Nat) ∧ i ≤ n ∧ m = n - i) n ⟨rfl, 0, rfl, rfl, Nat.zero_le _, rfl⟩ ?_
 rintro m e1 H2 ⟨rfl, i, i7, i6, hi, hm⟩ hoff
 have i0 : e1 0 = .int .i64 (n : Nat) := (hoff 0 rfl).trans rfl
 have i5 : e1 5 = .slice (some ⟨q, 0, none⟩) n n := (hoff 5 rfl).trans rfl
 clear hoff
 have cle : ∀ j, cnt j p ≤ j := fun j => by
  unfold cnt
  exact Nat.le_trans (List.length_filter_le ..) (by simp)
 have cs : ∀ j, cnt (j + 1) p = cnt j p + if p j = j then 1 else 0 := fun j => by
  unfold cnt
  rw [List.range_succ, List.filter_append, List.length_append]
  by_cases e : p j = j <;> simp [e]
 have cw : IntKind.i64.wrap ((cnt i p : Nat) + 1 : Int) = ((cnt i p + 1 : Nat) : Int) := by have := cle i; rw [wrap_i64] <;> omega
 have ew : IntKind.i64.wrap ((i : Int) + 1) = ((i + 1 : Nat) : Int) := by rw [wrap_i64] <;> omega
 by_cases hlt : i < n
 ·have t1 : ((i : Int) < (n : Int)) = True := eq_true (by omega)
  have t1' : (i < n) = True := eq_true hlt
  have ci := hq.cell (vr_get (f := nI p) hlt)
  by_cases he : p i = i
  ·have t2 : ((nI p i) == (i : Int)) = true := by simp [nI, he]
   repeat' (first|(with_reducible first|refine jA ?_|(refine hK _ _ ?_;clear hK K)|refine jJ fun K hK=>?_|refine jK ?_|refine jL ?_|refine jM ?_|refine jN ?_|refine jO ?_|refine jP ?_|refine jQ ?_|(refine jB ?_;clear hK K)|(refine jC ?_;clear hK K)|refine jD ?_|refine jE ?_|refine jG ?_|refine jH ?_|refine jI ?_)|((with_reducible refine jR ?hq ?_);case hq=>rfl)|((first|(with_reducible first|refine jS fun K hK=>?_|refine jT ?_|refine jU ?_)|((with_reducible refine jV ?hy fun K hK=>?_);case hy=>rfl));simp only [go_sem, Nat.reduceEqDiff, Nat.reduceAdd, Nat.reduceMul, Nat.reduceLeDiff, Nat.reduceLT, Int.reduceLT, Int.reduceLE, Int.reduceEq, Int.reduceNeg, Int.reduceToNat, Nat.reducePow, reduceIte, reduceCtorEq, i0, i5, i7, i6, t1, t1', ci, t2, cw, ew])|((with_reducible first|refine jW ?hy ?_|refine jY ?hy ?_);case hy=>rfl)|((with_reducible first|refine jX ?hy ?_|refine jZ ?hy ?_);case hy=>rfl)|((with_reducible refine jF ?hy ?_);case hy=>decide))
   exact loop_normal (m' := n - (i + 1)) (by omega) ⟨rfl, i + 1, rfl, by rw [cs, if_pos he]; rfl, hlt, rfl⟩
  ·have t2 : ((nI p i) == (i : Int)) = false := by simp [nI]; omega
   repeat' (first|(with_reducible first|refine jA ?_|(refine hK _ _ ?_;clear hK K)|refine jJ fun K hK=>?_|refine jK ?_|refine jL ?_|refine jM ?_|refine jN ?_|refine jO ?_|refine jP ?_|refine jQ ?_|(refine jB ?_;clear hK K)|(refine jC ?_;clear hK K)|refine jD ?_|refine jE ?_|refine jG ?_|refine jH ?_|refine jI ?_)|((with_reducible refine jR ?hq ?_);case hq=>rfl)|((first|(with_reducible first|refine jS fun K hK=>?_|refine jT ?_|refine jU ?_)|((with_reducible refine jV ?hy fun K hK=>?_);case hy=>rfl));simp only [go_sem, Nat.reduceEqDiff, Nat.reduceAdd, Nat.reduceMul, Nat.reduceLeDiff, Nat.reduceLT, Int.reduceLT, Int.reduceLE, Int.reduceEq, Int.reduceNeg, Int.reduceToNat, Nat.reducePow, reduceIte, reduceCtorEq, i0, i5, i7, t1, t1', ci, t2, ew])|((with_reducible first|refine jW ?hy ?_|refine jY ?hy ?_);case hy=>rfl)|((with_reducible first|refine jX ?hy ?_|refine jZ ?hy ?_);case hy=>rfl)|((with_reducible refine jF ?hy ?_);case hy=>decide))
   exact loop_normal (m' := n - (i + 1)) (by omega) ⟨rfl, i + 1, rfl, by rw [cs, if_neg he]; exact i6, hlt, rfl⟩
 ·have t1 : ((i : Int) < (n : Int)) = False := eq_false (by omega)
  have t1' : (i < n) = False := eq_false hlt
  obtain rfl : i = n := by omega
  repeat' (first|(with_reducible first|refine jA ?_|(refine hK _ _ ?_;clear hK K)|refine jJ fun K hK=>?_|refine jK ?_|refine jL ?_|refine jM ?_|refine jN ?_|refine jO ?_|refine jP ?_|refine jQ ?_|(refine jB ?_;clear hK K)|(refine jC ?_;clear hK K)|refine jD ?_|refine jE ?_|refine jG ?_|refine jH ?_|refine jI ?_)|((with_reducible refine jR ?hq ?_);case hq=>rfl)|((first|(with_reducible first|refine jS fun K hK=>?_|refine jT ?_|refine jU ?_)|((with_reducible refine jV ?hy fun K hK=>?_);case hy=>rfl));simp only [go_sem, Nat.reduceEqDiff, Nat.reduceAdd, Nat.reduceMul, Nat.reduceLeDiff, Nat.reduceLT, Int.reduceLT, Int.reduceLE, Int.reduceEq, Int.reduceNeg, Int.reduceToNat, Nat.reducePow, reduceIte, reduceCtorEq, i0, i6, i7, t1, t1'])|((with_reducible first|refine jW ?hy ?_|refine jY ?hy ?_);case hy=>rfl)|((with_reducible first|refine jX ?hy ?_|refine jZ ?hy ?_);case hy=>rfl)|((with_reducible refine jF ?hy ?_);case hy=>decide))
  exact fin _ p hP f1
end
end Go.Proofs.Ytpeaogldojepnaa
namespace Go.Proofs.Ytpeaogldojepnaa.Pkisthmuslaw08
open Go Go.Hp
set_option linter.all false
set_option maxRecDepth 100000

theorem pick_ok {H : Heap} {c n : Int} {K : Value → Heap → Prop} (h0 : -9223372036854775808 ≤ c) (h1 : c ≤ 9223372036854775807) (hn : 0 < n) (hk : K (.int .i64 (pickN c n)) H) :
  CallsH Try.prog 9 #[.int .i64 c, .int .i64 n] H K := by
 have en : (n = 0) = False := by simp; omega
 refine call9 (by simp) ?_
 simp only [Try.f9, Option.getD_some]
 by_cases hc : c < 0
 ·have e1 : (c < 0) = True := by simp [hc]
  have e2 : IntKind.i64.wrap (c + 1) = c + 1 := wrap_i64 (by omega) (by omega)
  have e3 : IntKind.i64.wrap (0 - (c + 1)) = -(c + 1) := by rw [wrap_i64] <;> omega
  have e4 : (-(c + 1)).tmod n = pickN c n := by
   unfold pickN
   rw [if_pos hc, Int.tmod_eq_emod_of_nonneg (by omega)]
  repeat' (first|(with_reducible first|refine jA ?_|(refine hK _ _ ?_;clear hK K)|refine jJ fun K hK=>?_|refine jK ?_|refine jL ?_|refine jM ?_|refine jN ?_|refine jO ?_|refine jP ?_|refine jQ ?_|(refine jB ?_;clear hK K)|(refine jC ?_;clear hK K)|refine jD ?_|refine jE ?_|refine jG ?_|refine jH ?_|refine jI ?_)|((with_reducible refine jR ?hq ?_);case hq=>rfl)|((first|(with_reducible first|refine jS fun K hK=>?_|refine jT ?_|refine jU ?_)|((with_reducible refine jV ?hy fun K hK=>?_);case hy=>rfl));simp only [go_sem, Nat.reduceEqDiff, Nat.reduceAdd, Nat.reduceMul, Nat.reduceLeDiff, Nat.reduceLT, Int.reduceLT, Int.reduceLE, Int.reduceEq, Int.reduceNeg, Int.reduceToNat, Nat.reducePow, reduceIte, reduceCtorEq, e1, e2, e3, e4, en])|((with_reducible first|refine jW ?hy ?_|refine jY ?hy ?_);case hy=>rfl)|((with_reducible first|refine jX ?hy ?_|refine jZ ?hy ?_);case hy=>rfl)|((with_reducible refine jF ?hy ?_);case hy=>decide))
  exact hk
 ·have e1 : (c < 0) = False := by simp [hc]
  have e4 : c.tmod n = pickN c n := by
   unfold pickN
   rw [if_neg hc, Int.tmod_eq_emod_of_nonneg (by omega)]
  repeat' (first|(with_reducible first|refine jA ?_|(refine hK _ _ ?_;clear hK K)|refine jJ fun K hK=>?_|refine jK ?_|refine jL ?_|refine jM ?_|refine jN ?_|refine jO ?_|refine jP ?_|refine jQ ?_|(refine jB ?_;clear hK K)|(refine jC ?_;clear hK K)|refine jD ?_|refine jE ?_|refine jG ?_|refine jH ?_|refine jI ?_)|((with_reducible refine jR ?hq ?_);case hq=>rfl)|((first|(with_reducible first|refine jS fun K hK=>?_|refine jT ?_|refine jU ?_)|((with_reducible refine jV ?hy fun K hK=>?_);case hy=>rfl));simp only [go_sem, Nat.reduceEqDiff, Nat.reduceAdd, Nat.reduceMul, Nat.reduceLeDiff, Nat.reduceLT, Int.reduceLT, Int.reduceLE, Int.reduceEq, Int.reduceNeg, Int.reduceToNat, Nat.reducePow, reduceIte, reduceCtorEq, e1, e4, en])|((with_reducible first|refine jW ?hy ?_|refine jY ?hy ?_);case hy=>rfl)|((with_reducible first|refine jX ?hy ?_|refine jZ ?hy ?_);case hy=>rfl)|((with_reducible refine jF ?hy ?_);case hy=>decide))
  exact hk
theorem same_ok {H : Heap} {B C : Option Nat} {v w : Value} {xs ys : List Int} {K : Value → Heap → Prop} (hv : Rds H B v xs) (hw : Rds H C w ys) (hl : xs.length ≤ 4611686018427387904) (fin : K (.bool (decide (xs = ys))) H) :
  CallsH Try.prog 16 #[v, w] H K := by
 obtain ⟨a, c, ev⟩ := hv.slice
 obtain ⟨a', c', ew⟩ := hw.slice
 refine call16 (by simp) ?_
 simp only [Try.f16, Option.getD_some]
 by_cases h : xs.length = ys.length
 ·have t1 : ((xs.length : Int) != (ys.length : Int)) = false := by simp [h]
  rw [ev, ew]
  repeat' (first|(with_reducible first|refine jA ?_|(refine hK _ _ ?_;clear hK K)|refine jJ fun K hK=>?_|refine jK ?_|refine jL ?_|refine jM ?_|refine jN ?_|refine jO ?_|refine jP ?_|refine jQ ?_|(refine jB ?_;clear hK K)|(refine jC ?_;clear hK K)|refine jD ?_|refine jE ?_|refine jG ?_|refine jH ?_|refine jI ?_)|((with_reducible refine jR ?hq ?_);case hq=>rfl)|((first|(with_reducible first|refine jS fun K hK=>?_|refine jT ?_|refine jU ?_)|((with_reducible refine jV ?hy fun K hK=>?_);case hy=>rfl));simp only [go_sem, Nat.reduceEqDiff, Nat.reduceAdd, Nat.reduceMul, Nat.reduceLeDiff, Nat.reduceLT, Int.reduceLT, Int.reduceLE, Int.reduceEq, Int.reduceNeg, Int.reduceToNat, Nat.reducePow, reduceIte, reduceCtorEq, t1])|((with_reducible first|refine jW ?hy ?_|refine jY ?hy ?_);case hy=>rfl)|((with_reducible first|refine jX ?hy ?_|refine jZ ?hy ?_);case hy=>rfl)|((with_reducible refine jF ?hy ?_);case hy=>decide))
  refine x_loop (fun m e' H' => ∃ i : Nat, H' = H ∧ e' 5 = .int .i64 (i : Nat) ∧ i ≤ xs.length ∧ xs.take i = ys.take i ∧ m = xs.length - i) xs.length ⟨0, rfl, rfl, Nat.zero_le _, rfl, rfl⟩ ?_
  rintro m e1 H1 ⟨i, rfl, i5, hi, heq, rfl⟩ hoff
  have i0 := (hoff 0 rfl).trans rfl
  have i1 := (hoff 1 rfl).trans rfl
  clear hoff
  by_cases hlt : i < xs.length
  ·obtain ⟨x, hx⟩ : ∃ x, xs[i]? = some x := ⟨_, List.getElem?_eq_getElem hlt⟩
   obtain ⟨y, hy⟩ : ∃ y, ys[i]? = some y := ⟨_, List.getElem?_eq_getElem (by omega)⟩
   obtain ⟨b, o, c1, _, hv1, cx⟩ := hv.read hx
   obtain ⟨b2, o2, c2, _, hw1, cy⟩ := hw.read hy
   have i0' := i0.trans (ev.symm.trans hv1)
   have i1' := i1.trans (ew.symm.trans hw1)
   have hlt' : (i < ys.length) = True := by simp; omega
   have ewr : IntKind.i64.wrap ((i : Int) + 1) = ((i + 1 : Nat) : Int) := by rw [wrap_i64] <;> omega
   by_cases hxy : x = y
   ·have t2 : (x != y) = false := by simp [hxy]
    repeat' (first|(with_reducible first|refine jA ?_|(refine hK _ _ ?_;clear hK K)|refine jJ fun K hK=>?_|refine jK ?_|refine jL ?_|refine jM ?_|refine jN ?_|refine jO ?_|refine jP ?_|refine jQ ?_|(refine jB ?_;clear hK K)|(refine jC ?_;clear hK K)|refine jD ?_|refine jE ?_|refine jG ?_|refine jH ?_|refine jI ?_)|((with_reducible refine jR ?hq ?_);case hq=>rfl)|((first|(with_reducible first|refine jS fun K hK=>?_|refine jT ?_|refine jU ?_)|((with_reducible refine jV ?hy fun K hK=>?_);case hy=>rfl));simp only [go_sem, Nat.reduceEqDiff, Nat.reduceAdd, Nat.reduceMul, Nat.reduceLeDiff, Nat.reduceLT, Int.reduceLT, Int.reduceLE, Int.reduceEq, Int.reduceNeg, Int.reduceToNat, Nat.reducePow, reduceIte, reduceCtorEq, i5, i0', i1', hlt, hlt', cx, cy, t2, ewr])|((with_reducible first|refine jW ?hy ?_|refine jY ?hy ?_);case hy=>rfl)|((with_reducible first|refine jX ?hy ?_|refine jZ ?hy ?_);case hy=>rfl)|((with_reducible refine jF ?hy ?_);case hy=>decide))
    refine loop_normal (m' := xs.length - (i + 1)) (by omega) ⟨i + 1, rfl, rfl, by omega, ?_, rfl⟩
    rw [List.take_add_one, List.take_add_one, heq, hx, hy, hxy]
   ·have t2 : (x != y) = true := by simp [hxy]
    repeat' (first|(with_reducible first|refine jA ?_|(refine hK _ _ ?_;clear hK K)|refine jJ fun K hK=>?_|refine jK ?_|refine jL ?_|refine jM ?_|refine jN ?_|refine jO ?_|refine jP ?_|refine jQ ?_|(refine jB ?_;clear hK K)|(refine jC ?_;clear hK K)|refine jD ?_|refine jE ?_|refine jG ?_|refine jH ?_|refine jI ?_)|((with_reducible refine jR ?hq ?_);case hq=>rfl)|((first|(with_reducible first|refine jS fun K hK=>?_|refine jT ?_|refine jU ?_)|((with_reducible refine jV ?hy fun K hK=>?_);case hy=>rfl));simp only [go_sem, Nat.reduceEqDiff, Nat.reduceAdd, Nat.reduceMul, Nat.reduceLeDiff, Nat.reduceLT, Int.reduceLT, Int.reduceLE, Int.reduceEq, Int.reduceNeg, Int.reduceToNat, Nat.reducePow, reduceIte, reduceCtorEq, i5, i0', i1', hlt, hlt', cx, cy, t2])|((with_reducible first|refine jW ?hy ?_|refine jY ?hy ?_);case hy=>rfl)|((with_reducible first|refine jX ?hy ?_|refine jZ ?hy ?_);case hy=>rfl)|((with_reducible refine jF ?hy ?_);case hy=>decide))
    have : decide (xs = ys) = false := by
     rw [decide_eq_false_iff_not]
     intro e
     rw [e, hy] at hx
     exact hxy (Option.some.inj hx).symm
    rw [this] at fin
    exact fin
  ·have hlt' : (i < xs.length) = False := by simp; omega
   repeat' (first|(with_reducible first|refine jA ?_|(refine hK _ _ ?_;clear hK K)|refine jJ fun K hK=>?_|refine jK ?_|refine jL ?_|refine jM ?_|refine jN ?_|refine jO ?_|refine jP ?_|refine jQ ?_|(refine jB ?_;clear hK K)|(refine jC ?_;clear hK K)|refine jD ?_|refine jE ?_|refine jG ?_|refine jH ?_|refine jI ?_)|((with_reducible refine jR ?hq ?_);case hq=>rfl)|((first|(with_reducible first|refine jS fun K hK=>?_|refine jT ?_|refine jU ?_)|((with_reducible refine jV ?hy fun K hK=>?_);case hy=>rfl));simp only [go_sem, Nat.reduceEqDiff, Nat.reduceAdd, Nat.reduceMul, Nat.reduceLeDiff, Nat.reduceLT, Int.reduceLT, Int.reduceLE, Int.reduceEq, Int.reduceNeg, Int.reduceToNat, Nat.reducePow, reduceIte, reduceCtorEq, i5, i0, i1, hlt'])|((with_reducible first|refine jW ?hy ?_|refine jY ?hy ?_);case hy=>rfl)|((with_reducible first|refine jX ?hy ?_|refine jZ ?hy ?_);case hy=>rfl)|((with_reducible refine jF ?hy ?_);case hy=>decide))
   have : decide (xs = ys) = true := by
    rw [decide_eq_true_iff]
    have hi' : i = xs.length := by omega
    rw [hi', List.take_length] at heq
    rw [heq, h, List.take_length]
   rw [this] at fin
   exact fin
 ·have t1 : ((xs.length : Int) != (ys.length : Int)) = true := by simp; omega
  have : decide (xs = ys) = false := by
   rw [decide_eq_false_iff_not]
   intro e; exact h (by rw [e])
  rw [this] at fin
  rw [ev, ew]
  repeat' (first|(with_reducible first|refine jA ?_|(refine hK _ _ ?_;clear hK K)|refine jJ fun K hK=>?_|refine jK ?_|refine jL ?_|refine jM ?_|refine jN ?_|refine jO ?_|refine jP ?_|refine jQ ?_|(refine jB ?_;clear hK K)|(refine jC ?_;clear hK K)|refine jD ?_|refine jE ?_|refine jG ?_|refine jH ?_|refine jI ?_)|((with_reducible refine jR ?hq ?_);case hq=>rfl)|((first|(with_reducible first|refine jS fun K hK=>?_|refine jT ?_|refine jU ?_)|((with_reducible refine jV ?hy fun K hK=>?_);case hy=>rfl));simp only [go_sem, Nat.reduceEqDiff, Nat.reduceAdd, Nat.reduceMul, Nat.reduceLeDiff, Nat.reduceLT, Int.reduceLT, Int.reduceLE, Int.reduceEq, Int.reduceNeg, Int.reduceToNat, Nat.reducePow, reduceIte, reduceCtorEq, t1])|((with_reducible first|refine jW ?hy ?_|refine jY ?hy ?_);case hy=>rfl)|((with_reducible first|refine jX ?hy ?_|refine jZ ?hy ?_);case hy=>rfl)|((with_reducible refine jF ?hy ?_);case hy=>decide))
  exact fin
end Go.Proofs.Ytpeaogldojepnaa.Pkisthmuslaw08
