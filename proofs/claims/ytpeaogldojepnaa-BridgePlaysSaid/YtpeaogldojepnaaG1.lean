/-
  bridge.search: blocks.
  bridge: which edges may be.
  bridge.Of: its loops, each for itself.
  bridge.Of: its other loops.
  slices.Sort over this program: the laying of the library's contract (printed by the kit's lay-plain; the numbers are those of the seat of law08 alone).
  slices.Sort of integers, over heaps.
-/
import Derived.Test.YtpeaogldojepnaaG0
import Derived.Test.YtpeaogldojepnaaTabM
import Derived.Shelf.Sort.AssemblyIn
import Derived.Sort.EveryDepth
import Derived.Shelf.Slices.In.SortNone
import Derived.Sort.OwnSortedInts
namespace Go.Br
open Go Go.Hp Go.Li
def neg (n : Nat) (out : Nat → Int) : Nat := ((List.range n).filter fun v => decide (out v < 0)).length
theorem neg_up {n : Nat} {out : Nat → Int} {y v : Nat} (hy : y < n) (h0 : out y < 0) : neg n (up out y (v : Int)) + 1 = neg n out := by
 unfold neg
 rw [filter_less List.nodup_range (fun v => decide (out v < 0)) (M := y) (List.mem_range.2 hy) (by simp [h0])]
 congr 2
 refine List.filter_congr fun x _ => ?_
 by_cases e : x = y
 ·subst e; rw [up_same]; simp
 ·rw [up_ne _ _ e]; simp [e]
theorem ir_pop {H : Heap} {B : Option Nat} {v : Value} {xs : List Int} {x : Int} (h : IR H B v (xs ++ [x])) : ∃ gf cf, B = some gf ∧ v = .slice (some ⟨gf, 0, none⟩) (xs.length + 1) cf ∧ hcell H ⟨gf, xs.length, none⟩ = some (.int .i64 x) ∧ xs.length + 1 ≤ cf ∧ IR H (some gf) (.slice (some ⟨gf, 0, none⟩) xs.length cf) xs := by
 obtain ⟨gf, cf, rest, h1, h2, h3, h4, h5⟩ := h.row (by simp)
 simp only [List.length_append, List.length_cons, List.length_nil] at h2 h4 h5
 refine ⟨gf, cf, h1, h2, h3.cellOf ?_, by omega, by simp, .inr ⟨gf, cf, .int .i64 x :: rest, rfl, rfl, ?_, ?_, by omega⟩⟩
 ·simp
 ·simpa using h3
 ·simp; omega
theorem rep0 (n : Nat) : repL n [Value.int .i64 0] = (vr n fun _ => (0 : Int)).map (Value.int .i64) := by
 have : ∀ m : Nat, repL m [Value.int .i64 0] = (List.replicate m (0 : Int)).map (Value.int .i64) := fun m => by
  induction m with
  | zero => rfl
  | succ m ih => rw [List.replicate_succ, List.map_cons, ← ih]; rfl
 rw [this]
 unfold vr
 rw [List.map_const', List.length_range]
theorem ir_zero (H : Heap) (n : Nat) (T : TypeId) : IR (H.push (.cells (repL n [Value.int .i64 0]).toArray T)) (some H.size) (.slice (some ⟨H.size, 0, none⟩) n n) (vr n fun _ => (0 : Int)) := by
 refine ⟨by simp, .inr ⟨H.size, n, [], rfl, by rw [vr_len], ?_, by simp [vr_len], by rw [vr_len]; exact Nat.le_refl _⟩⟩
 rw [List.append_nil, ← rep0]
 exact Blk.new H _ _
end Go.Br
namespace Go.Proofs.Ytpeaogldojepnaa
open Go Go.Hp Go.Li Go.Br
set_option linter.all false
set_option maxRecDepth 100000
set_option maxHeartbeats 3200000
section
variable {H H' : Heap} {s gi gw gr : Nat} {vl vb : Value} {Bl : Option Nat} {TB : Nat → Prop} {col : Nat → Nat} {l : List Ed} {n : Nat} {bes : Nat → List Nat} {inn low : Nat → Nat} {c : Nat} {br : Nat → Bool} {T : Nat → Prop} {L : Value → Heap → Prop}
theorem sblocks_ok (g : Gok l n bes) (hn : n ≤ 64) (hll : l.length ≤ 192) (hdg : ∀ v, v < n → (bes v).length ≤ 100000) (h : SeAt H s gi gw gr vl vb Bl TB col l n bes inn low c br) (hbr : ∀ k, br k = true ↔ Bridge l k)
  (fin : ∀ H' q p, Least (Firm l) n p → (∀ v, v < n → p v < n) → IR H' (some q) (.slice (some ⟨q, 0, none⟩) n n) (vr n (nI p)) → H.size ≤ q → Fr (fun _ => False) H H' → L (.slice (some ⟨q, 0, none⟩) n n) H') :
  CallsH Try.prog 25 #[.pointer (some ⟨s, 0, none⟩)] H L := by
 have e1c := h.hd.cellOf (i := 1) rfl
 obtain ⟨ab, cb, hvb⟩ := h.be.slice
 rw [vr_len] at hvb
 rw [hvb] at e1c
 refine call25 (by simp) ?_
 simp only [Try.f25, Option.getD_some]
 repeat' (first|(with_reducible first|refine jA ?_|(refine hK _ _ ?_;clear hK K)|refine jJ fun K hK=>?_|refine jK ?_|refine jL ?_|refine jM ?_|refine jN ?_|refine jO ?_|refine jP ?_|refine jQ ?_|(refine jB ?_;clear hK K)|(refine jC ?_;clear hK K)|refine jD ?_|refine jE ?_|refine jG ?_|refine jH ?_|refine jI ?_)|((with_reducible refine jR ?hq ?_);case hq=>rfl)|((first|(with_reducible first|refine jS fun K hK=>?_|refine jT ?_|refine jU ?_)|((with_reducible refine jV ?hy fun K hK=>?_);case hy=>rfl));simp only [go_sem, Nat.reduceEqDiff, Nat.reduceAdd, Nat.reduceMul, Nat.reduceLeDiff, Nat.reduceLT, Int.reduceLT, Int.reduceLE, Int.reduceEq, Int.reduceNeg, Int.reduceToNat, Nat.reducePow, reduceIte, reduceCtorEq, e1c])|((with_reducible first|refine jW ?hy ?_|refine jY ?hy ?_);case hy=>rfl)|((with_reducible first|refine jX ?hy ?_|refine jZ ?hy ?_);case hy=>rfl)|((with_reducible refine jF ?hy ?_);case hy=>decide))
 refine ⟨Nat.le_refl _, by omega, ?_⟩
 have hz := ir_zero H n 3
 change K _ (H.push (.cells (repL n [Value.int .i64 0]).toArray 3))
 generalize hH1 : H.push _ = H1 at hz ⊢
 have f1 : Fr (fun _ => False) H H1 := by rw [← hH1]; exact (Fr.refl _ _).push _
 have z1 : H1.size = H.size + 1 := by rw [← hH1]; simp
 clear hH1
 repeat' (first|(with_reducible first|refine jA ?_|(refine hK _ _ ?_;clear hK K)|refine jJ fun K hK=>?_|refine jK ?_|refine jL ?_|refine jM ?_|refine jN ?_|refine jO ?_|refine jP ?_|refine jQ ?_|(refine jB ?_;clear hK K)|(refine jC ?_;clear hK K)|refine jD ?_|refine jE ?_|refine jG ?_|refine jH ?_|refine jI ?_)|((with_reducible refine jR ?hq ?_);case hq=>rfl)|((first|(with_reducible first|refine jS fun K hK=>?_|refine jT ?_|refine jU ?_)|((with_reducible refine jV ?hy fun K hK=>?_);case hy=>rfl));simp only [go_sem, Nat.reduceEqDiff, Nat.reduceAdd, Nat.reduceMul, Nat.reduceLeDiff, Nat.reduceLT, Int.reduceLT, Int.reduceLE, Int.reduceEq, Int.reduceNeg, Int.reduceToNat, Nat.reducePow, reduceIte, reduceCtorEq])|((with_reducible first|refine jW ?hy ?_|refine jY ?hy ?_);case hy=>rfl)|((with_reducible first|refine jX ?hy ?_|refine jZ ?hy ?_);case hy=>rfl)|((with_reducible refine jF ?hy ?_);case hy=>decide))
 refine x_loop (fun m e' H' => ∃ (i : Nat), e' 19 = .int .i64 (i : Nat) ∧ i ≤ n ∧ IR H' (some H.size) (.slice (some ⟨H.size, 0, none⟩) n n) (vr n fun x => if x < i then (-1 : Int) else 0) ∧ Fr (fun _ => False) H H' ∧ m = n - i) n
  ⟨0, rfl, Nat.zero_le _, by simpa using hz, f1, rfl⟩ ?_
 rintro m e1 H2 ⟨i, i19, hi, hi2, f2, hm⟩ hoff
 have i0 : e1 0 = .pointer (some ⟨s, 0, none⟩) := (hoff 0 rfl).trans rfl
 have i3 : e1 3 = .slice (some ⟨H.size, 0, none⟩) n n := (hoff 3 rfl).trans rfl
 have i18 : e1 18 = .int .i64 (n : Nat) := (hoff 18 rfl).trans rfl
 clear hoff
 by_cases hlt : i < n
 ·have t1 : ((i : Int) < (n : Int)) = True := eq_true (by omega)
  have t1' : (i < n) = True := eq_true hlt
  have ew : IntKind.i64.wrap ((i : Int) + 1) = ((i + 1 : Nat) : Int) := by rw [wrap_i64] <;> omega
  obtain ⟨wi, h3⟩ := hi2.write (i := i) (by rw [vr_len]; exact hlt) (-1)
  rw [vr_set] at h3
  have e3 : up (fun x => if x < i then (-1 : Int) else 0) i (-1) = fun x => if x < i + 1 then (-1 : Int) else 0 := by
   funext x
   by_cases e : x = i
   ·subst e; rw [up_same, if_pos (by omega)]
   ·rw [up_ne _ _ e]
    by_cases hx : x < i
    ·rw [if_pos hx, if_pos (by omega)]
    ·rw [if_neg hx, if_neg (by omega)]
  rw [e3] at h3
  have f23 : Fr (· = H.size) H2 (hset H2 ⟨H.size, i, none⟩ (.int .i64 (-1))) := Fr.set (S := (· = H.size)) (Fr.refl _ _) (.inl rfl) _
  repeat' (first|(with_reducible first|refine jA ?_|(refine hK _ _ ?_;clear hK K)|refine jJ fun K hK=>?_|refine jK ?_|refine jL ?_|refine jM ?_|refine jN ?_|refine jO ?_|refine jP ?_|refine jQ ?_|(refine jB ?_;clear hK K)|(refine jC ?_;clear hK K)|refine jD ?_|refine jE ?_|refine jG ?_|refine jH ?_|refine jI ?_)|((with_reducible refine jR ?hq ?_);case hq=>rfl)|((first|(with_reducible first|refine jS fun K hK=>?_|refine jT ?_|refine jU ?_)|((with_reducible refine jV ?hy fun K hK=>?_);case hy=>rfl));simp only [go_sem, Nat.reduceEqDiff, Nat.reduceAdd, Nat.reduceMul, Nat.reduceLeDiff, Nat.reduceLT, Int.reduceLT, Int.reduceLE, Int.reduceEq, Int.reduceNeg, Int.reduceToNat, Nat.reducePow, reduceIte, reduceCtorEq, i3, i18, i19, t1, t1', wi, ew])|((with_reducible first|refine jW ?hy ?_|refine jY ?hy ?_);case hy=>rfl)|((with_reducible first|refine jX ?hy ?_|refine jZ ?hy ?_);case hy=>rfl)|((with_reducible refine jF ?hy ?_);case hy=>decide))
  exact loop_normal (m' := n - (i + 1)) (by omega) ⟨i + 1, rfl, hlt, h3, f2.trans' f23 fun b hb e => by omega, rfl⟩
 have t1 : ((i : Int) < (n : Int)) = False := eq_false (by omega)
 have t1' : (i < n) = False := eq_false hlt
 obtain rfl : i = n := by omega
 repeat' (first|(with_reducible first|refine jA ?_|(refine hK _ _ ?_;clear hK K)|refine jJ fun K hK=>?_|refine jK ?_|refine jL ?_|refine jM ?_|refine jN ?_|refine jO ?_|refine jP ?_|refine jQ ?_|(refine jB ?_;clear hK K)|(refine jC ?_;clear hK K)|refine jD ?_|refine jE ?_|refine jG ?_|refine jH ?_|refine jI ?_)|((with_reducible refine jR ?hq ?_);case hq=>rfl)|((first|(with_reducible first|refine jS fun K hK=>?_|refine jT ?_|refine jU ?_)|((with_reducible refine jV ?hy fun K hK=>?_);case hy=>rfl));simp only [go_sem, Nat.reduceEqDiff, Nat.reduceAdd, Nat.reduceMul, Nat.reduceLeDiff, Nat.reduceLT, Int.reduceLT, Int.reduceLE, Int.reduceEq, Int.reduceNeg, Int.reduceToNat, Nat.reducePow, reduceIte, reduceCtorEq, i3, i18, i19, t1, t1'])|((with_reducible first|refine jW ?hy ?_|refine jY ?hy ?_);case hy=>rfl)|((with_reducible first|refine jX ?hy ?_|refine jZ ?hy ?_);case hy=>rfl)|((with_reducible refine jF ?hy ?_);case hy=>decide))
 have out0 : vr i (fun x => if x < i then (-1 : Int) else 0) = vr i fun _ => (-1 : Int) := vr_congr fun x hx => if_pos hx
 rw [out0] at hi2
 clear out0 hm hlt t1 t1' i19 hi hz
 refine x_loop (fun m e' H' => ∃ (v : Nat) (out : Nat → Int), e' 28 = .int .i64 (v : Nat) ∧ v ≤ i ∧ IR H' (some H.size) (.slice (some ⟨H.size, 0, none⟩) i i) (vr i out) ∧ Ok1 l i out ∧ Cl1 l out ∧ (∀ w, w < v → 0 ≤ out w) ∧ Fr (fun _ => False) H H' ∧ m = i - v) i
  ⟨0, fun _ => -1, rfl, Nat.zero_le _, hi2, fun x _ h => (by simp at h), fun x y _ h => (by simp at h), fun w hw => absurd hw (Nat.not_lt_zero _), f2, rfl⟩ ?_
 rintro m e2 H3 ⟨v, out, i28, hv, hi3, ok, cl, low0, f3, hm⟩ hoff
 have i0 : e2 0 = .pointer (some ⟨s, 0, none⟩) := (hoff 0 rfl).trans i0
 have i3 : e2 3 = .slice (some ⟨H.size, 0, none⟩) i i := (hoff 3 rfl).trans i3
 have i27 : e2 27 = .int .i64 (i : Nat) := (hoff 27 rfl).trans rfl
 clear hoff hi2 f2
 by_cases hlt : v < i
 ·have t1 : ((v : Int) < (i : Int)) = True := eq_true (by omega)
  have t1' : (v < i) = True := eq_true hlt
  have ew : IntKind.i64.wrap ((v : Int) + 1) = ((v + 1 : Nat) : Int) := by rw [wrap_i64] <;> omega
  have oc := hi3.cell (vr_get (f := out) hlt)
  by_cases h0 : 0 ≤ out v
  ·have t2 : (0 ≤ out v) = True := eq_true h0
   repeat' (first|(with_reducible first|refine jA ?_|(refine hK _ _ ?_;clear hK K)|refine jJ fun K hK=>?_|refine jK ?_|refine jL ?_|refine jM ?_|refine jN ?_|refine jO ?_|refine jP ?_|refine jQ ?_|(refine jB ?_;clear hK K)|(refine jC ?_;clear hK K)|refine jD ?_|refine jE ?_|refine jG ?_|refine jH ?_|refine jI ?_)|((with_reducible refine jR ?hq ?_);case hq=>rfl)|((first|(with_reducible first|refine jS fun K hK=>?_|refine jT ?_|refine jU ?_)|((with_reducible refine jV ?hy fun K hK=>?_);case hy=>rfl));simp only [go_sem, Nat.reduceEqDiff, Nat.reduceAdd, Nat.reduceMul, Nat.reduceLeDiff, Nat.reduceLT, Int.reduceLT, Int.reduceLE, Int.reduceEq, Int.reduceNeg, Int.reduceToNat, Nat.reducePow, reduceIte, reduceCtorEq, i3, i27, i28, t1, t1', oc, t2, ew])|((with_reducible first|refine jW ?hy ?_|refine jY ?hy ?_);case hy=>rfl)|((with_reducible first|refine jX ?hy ?_|refine jZ ?hy ?_);case hy=>rfl)|((with_reducible refine jF ?hy ?_);case hy=>decide))
   exact loop_normal (m' := i - (v + 1)) (by omega) ⟨v + 1, out, rfl, hlt, hi3, ok, cl, fun w hw => by
    by_cases e : w = v
    ·rw [e]; exact h0
    ·exact low0 w (by omega), f3, rfl⟩
  ·have t2 : (0 ≤ out v) = False := eq_false h0
   obtain ⟨wi, hi4⟩ := hi3.write (i := v) (by rw [vr_len]; exact hlt) (v : Int)
   rw [vr_set] at hi4
   have f34 : Fr (· = H.size) H3 (hset H3 ⟨H.size, v, none⟩ (.int .i64 (v : Nat))) := Fr.set (S := (· = H.size)) (Fr.refl _ _) (.inl rfl) _
   repeat' (first|(with_reducible first|refine jA ?_|(refine hK _ _ ?_;clear hK K)|refine jJ fun K hK=>?_|refine jK ?_|refine jL ?_|refine jM ?_|refine jN ?_|refine jO ?_|refine jP ?_|refine jQ ?_|(refine jB ?_;clear hK K)|(refine jC ?_;clear hK K)|refine jD ?_|refine jE ?_|refine jG ?_|refine jH ?_|refine jI ?_)|((with_reducible refine jR ?hq ?_);case hq=>rfl)|((first|(with_reducible first|refine jS fun K hK=>?_|refine jT ?_|refine jU ?_)|((with_reducible refine jV ?hy fun K hK=>?_);case hy=>rfl));simp only [go_sem, Nat.reduceEqDiff, Nat.reduceAdd, Nat.reduceMul, Nat.reduceLeDiff, Nat.reduceLT, Int.reduceLT, Int.reduceLE, Int.reduceEq, Int.reduceNeg, Int.reduceToNat, Nat.reducePow, reduceIte, reduceCtorEq, i3, i27, i28, t1, t1', oc, t2, wi])|((with_reducible first|refine jW ?hy ?_|refine jY ?hy ?_);case hy=>rfl)|((with_reducible first|refine jX ?hy ?_|refine jZ ?hy ?_);case hy=>rfl)|((with_reducible refine jF ?hy ?_);case hy=>decide))
   generalize hset H3 _ _ = H4 at hi4 f34 ⊢
   have f4 : Fr (fun _ => False) H H4 := f3.trans' f34 fun b hb e => by omega
   generalize hH5 : H4.push _ = H5
   have f45 : Fr (fun _ => False) H4 H5 := by rw [← hH5]; exact (Fr.refl _ _).push _
   have b5 : Blk H5 H4.size [.int .i64 (v : Nat)] := by rw [← hH5]; exact Blk.new H4 [.int .i64 (v : Nat)] _
   clear hH5
   have hs5 : IR H5 (some H4.size) (.slice (some ⟨H4.size, 0, none⟩) 1 1) (natsL [v].reverse) := ⟨rfl, .inr ⟨H4.size, 1, [], rfl, rfl, b5, rfl, Nat.le_refl _⟩⟩
   have hi5 := hi4.frame f45 fun _ _ h => h
   have z4 := f4.size
   have hsz : H.size < H4.size := hi4.lt rfl
   have tail : ∀ (e' : Env) (H6 : Heap) (out' : Nat → Int), e' 3 = .slice (some ⟨H.size, 0, none⟩) i i → e' 28 = .int .i64 (v : Nat) → IR H6 (some H.size) (.slice (some ⟨H.size, 0, none⟩) i i) (vr i out') → Fl l i bes out v out' [] none → Fr (fun _ => False) H H6 → K e' H6 := by
    intro e' H6 out' j3 j28 hi6 hF f6
    refine hK _ _ ?_
    clear hK K
    obtain ⟨q1, q2, q3⟩ := hF.fin g hlt ok cl low0
    repeat' (first|(with_reducible first|refine jA ?_|(refine hK _ _ ?_;clear hK K)|refine jJ fun K hK=>?_|refine jK ?_|refine jL ?_|refine jM ?_|refine jN ?_|refine jO ?_|refine jP ?_|refine jQ ?_|(refine jB ?_;clear hK K)|(refine jC ?_;clear hK K)|refine jD ?_|refine jE ?_|refine jG ?_|refine jH ?_|refine jI ?_)|((with_reducible refine jR ?hq ?_);case hq=>rfl)|((first|(with_reducible first|refine jS fun K hK=>?_|refine jT ?_|refine jU ?_)|((with_reducible refine jV ?hy fun K hK=>?_);case hy=>rfl));simp only [go_sem, Nat.reduceEqDiff, Nat.reduceAdd, Nat.reduceMul, Nat.reduceLeDiff, Nat.reduceLT, Int.reduceLT, Int.reduceLE, Int.reduceEq, Int.reduceNeg, Int.reduceToNat, Nat.reducePow, reduceIte, reduceCtorEq, j28, ew])|((with_reducible first|refine jW ?hy ?_|refine jY ?hy ?_);case hy=>rfl)|((with_reducible first|refine jX ?hy ?_|refine jZ ?hy ?_);case hy=>rfl)|((with_reducible refine jF ?hy ?_);case hy=>decide))
    exact loop_normal (m' := i - (v + 1)) (by omega) ⟨v + 1, out', rfl, hlt, hi6, q1, q2, q3, f6, rfl⟩
   refine x_loop (fun m e' H' => ∃ (st : List Nat) (out' : Nat → Int) (Bs : Option Nat) (vs : Value), e' 6 = vs ∧ IR H' Bs vs (natsL st.reverse) ∧ IR H' (some H.size) (.slice (some ⟨H.size, 0, none⟩) i i) (vr i out') ∧ Fl l i bes out v out' st none ∧ (∀ b, Bs = some b → H4.size ≤ b) ∧ H4.size ≤ H'.size ∧ st.length + neg i out' ≤ 900 ∧
     Fr (fun _ => False) H H' ∧ m = 2 * neg i out' + st.length) (2 * neg i (up out v (v : Int)) + 1)
    ⟨[v], _, _, _, rfl, hs5, hi5, Fl.start (by omega) hlt, fun b hb => by obtain rfl := Option.some.inj hb; exact Nat.le_refl _, f45.size, by
     have : neg i (up out v (v : Int)) ≤ i := by unfold neg; exact Nat.le_trans (List.length_filter_le ..) (by simp)
     simp; omega, f4.trans f45, rfl⟩ ?_
   rintro m2 e3 H6 ⟨st, out6, Bs, vs, i6, hs6, hi6, hF, hBs, z64, hle, f6, hm2⟩ hoff
   have j0 : e3 0 = .pointer (some ⟨s, 0, none⟩) := (hoff 0 rfl).trans i0
   have j3 : e3 3 = .slice (some ⟨H.size, 0, none⟩) i i := (hoff 3 rfl).trans i3
   have j28 : e3 28 = .int .i64 (v : Nat) := (hoff 28 rfl).trans i28
   have j5 : e3 5 = .int .i64 (v : Nat) := (hoff 5 rfl).trans rfl
   clear hoff hi5 hs5
   cases st with
   | nil =>
    obtain ⟨a, ca, rfl⟩ := hs6.slice
    have t3 : ((0 : Int) < 0) = False := by simp
    have e0 : (natsL (([] : List Nat).reverse)).length = 0 := rfl
    rw [e0] at i6
    repeat' (first|(with_reducible first|refine jA ?_|(refine hK _ _ ?_;clear hK K)|refine jJ fun K hK=>?_|refine jK ?_|refine jL ?_|refine jM ?_|refine jN ?_|refine jO ?_|refine jP ?_|refine jQ ?_|(refine jB ?_;clear hK K)|(refine jC ?_;clear hK K)|refine jD ?_|refine jE ?_|refine jG ?_|refine jH ?_|refine jI ?_)|((with_reducible refine jR ?hq ?_);case hq=>rfl)|((first|(with_reducible first|refine jS fun K hK=>?_|refine jT ?_|refine jU ?_)|((with_reducible refine jV ?hy fun K hK=>?_);case hy=>rfl));simp only [go_sem, Nat.reduceEqDiff, Nat.reduceAdd, Nat.reduceMul, Nat.reduceLeDiff, Nat.reduceLT, Int.reduceLT, Int.reduceLE, Int.reduceEq, Int.reduceNeg, Int.reduceToNat, Nat.reducePow, reduceIte, reduceCtorEq, i6, t3])|((with_reducible first|refine jW ?hy ?_|refine jY ?hy ?_);case hy=>rfl)|((with_reducible first|refine jX ?hy ?_|refine jZ ?hy ?_);case hy=>rfl)|((with_reducible refine jF ?hy ?_);case hy=>decide))
    exact tail _ _ _ j3 j28 hi6 hF f6
   | cons u r =>
    clear tail
    have en : natsL ((u :: r).reverse) = natsL r.reverse ++ [((u : Nat) : Int)] := by simp [natsL]
    rw [en] at hs6
    obtain ⟨gs, cs, rfl, rfl, htop, hcs, hsp⟩ := ir_pop hs6
    have hlr : (natsL r.reverse).length = r.length := by simp [natsL]
    rw [hlr] at i6 htop hcs hsp
    have t3 : (0 < ((r.length + 1 : Nat) : Int)) = True := eq_true (by omega)
    have ewr : IntKind.i64.wrap (((r.length + 1 : Nat) : Int) - 1) = (r.length : Int) := by rw [wrap_i64] <;> (simp at hle; omega)
    have t4 : (r.length < r.length + 1) = True := eq_true (by omega)
    have t5 : (r.length ≤ cs) = True := eq_true (by omega)
    obtain ⟨hun, huv, hu0⟩ := hF.stk u (.head _)
    have t6 : (u < i) = True := eq_true hun
    have h6 := h.frame f6 fun _ _ h => h
    obtain ⟨gB, cB, aI, cI, hvb2, hcB, hcI, hTB⟩ := h6.bc hun
    have e1c := h6.hd.cellOf (i := 1) rfl
    rw [hvb2] at e1c
    repeat' (first|(with_reducible first|refine jA ?_|(refine hK _ _ ?_;clear hK K)|refine jJ fun K hK=>?_|refine jK ?_|refine jL ?_|refine jM ?_|refine jN ?_|refine jO ?_|refine jP ?_|refine jQ ?_|(refine jB ?_;clear hK K)|(refine jC ?_;clear hK K)|refine jD ?_|refine jE ?_|refine jG ?_|refine jH ?_|refine jI ?_)|((with_reducible refine jR ?hq ?_);case hq=>rfl)|((first|(with_reducible first|refine jS fun K hK=>?_|refine jT ?_|refine jU ?_)|((with_reducible refine jV ?hy fun K hK=>?_);case hy=>rfl));simp only [go_sem, Nat.reduceEqDiff, Nat.reduceAdd, Nat.reduceMul, Nat.reduceLeDiff, Nat.reduceLT, Int.reduceLT, Int.reduceLE, Int.reduceEq, Int.reduceNeg, Int.reduceToNat, Nat.reducePow, reduceIte, reduceCtorEq, j0, i6, t3, ewr, t4, t5, t6, htop, e1c, hcB, Nat.sub_zero, ite_self])|((with_reducible first|refine jW ?hy ?_|refine jY ?hy ?_);case hy=>rfl)|((with_reducible first|refine jX ?hy ?_|refine jZ ?hy ?_);case hy=>rfl)|((with_reducible refine jF ?hy ?_);case hy=>decide))
    have hgs := hBs gs rfl
    refine x_loop (fun m3 e' H' => ∃ (j : Nat) (st' : List Nat) (out' : Nat → Int) (Bs : Option Nat) (vs : Value), e' 64 = .int .i64 (j : Nat) ∧ j ≤ (bes u).length ∧ e' 6 = vs ∧ IR H' Bs vs (natsL st'.reverse) ∧ IR H' (some H.size) (.slice (some ⟨H.size, 0, none⟩) i i) (vr i out') ∧ Fl l i bes out v out' st' (some (u, j)) ∧ (∀ b, Bs = some b → H4.size ≤ b) ∧ H4.size ≤ H'.size ∧
      2 * neg i out' + st'.length < m2 ∧ st'.length + neg i out' ≤ 900 ∧ Fr (fun _ => False) H H' ∧ m3 = (bes u).length - j) (bes u).length
     ⟨0, r, out6, some gs, _, rfl, Nat.zero_le _, rfl, hsp, hi6, hF.take, hBs, z64, by simp at hm2; omega, by simp at hle; omega, f6, rfl⟩ ?_
    rintro m3 e4 H7 ⟨j, st7, out7, Bs7, vs7, i64', hj, i6', hs7, hi7, hF7, hBs7, z74, hlt7, hle7, f7, hm3⟩ hoff
    have j0 : e4 0 = .pointer (some ⟨s, 0, none⟩) := (hoff 0 rfl).trans j0
    have j3 : e4 3 = .slice (some ⟨H.size, 0, none⟩) i i := (hoff 3 rfl).trans j3
    have j5 : e4 5 = .int .i64 (v : Nat) := (hoff 5 rfl).trans j5
    have j7 : e4 7 = .int .i64 (u : Nat) := (hoff 7 rfl).trans rfl
    have j62 : e4 62 = .slice aI (bes u).length cI := (hoff 62 rfl).trans rfl
    have j63 : e4 63 = .int .i64 ((bes u).length : Nat) := (hoff 63 rfl).trans rfl
    clear hoff
    have hd := hdg u hun
    by_cases hjl : j < (bes u).length
    ·have q1 : ((j : Int) < ((bes u).length : Int)) = True := eq_true (by omega)
     have q1' : (j < (bes u).length) = True := eq_true hjl
     have ewj : IntKind.i64.wrap ((j : Int) + 1) = ((j + 1 : Nat) : Int) := by rw [wrap_i64] <;> omega
     obtain ⟨k, hk⟩ : ∃ k, (bes u)[j]? = some k := ⟨_, List.getElem?_eq_getElem hjl⟩
     have h7 := h.frame f7 fun _ _ h => h
     obtain ⟨gB', cB', aI', cI', hvb3, hcB', hcI', _⟩ := h7.bc hun
     have same : aI' = aI := by
      rw [hvb2] at hvb3
      simp only [Value.slice.injEq, Option.some.injEq, Addr.mk.injEq] at hvb3
      obtain ⟨⟨rfl, _⟩, _⟩ := hvb3
      have f67 : hcell H7 ⟨gB, u, none⟩ = hcell H6 ⟨gB, u, none⟩ := by
       have a1 := f6.cell (a := ⟨gB, u, none⟩) (by have := h.co gB (by rw [h.cb gB hTB]; decide); exact this) (fun h => h)
       have a2 := f7.cell (a := ⟨gB, u, none⟩) (by have := h.co gB (by rw [h.cb gB hTB]; decide); exact this) (fun h => h)
       rw [a1, a2]
      rw [f67, hcB] at hcB'
      simp only [Option.some.injEq, Value.slice.injEq] at hcB'
      exact hcB'.1.symm
     obtain ⟨bI, haI, hkc⟩ := hcI' _ _ hk
     rw [same] at haI
     subst haI
     obtain ⟨y, hky⟩ := (g.bes u k).1 (List.mem_of_getElem? hk)
     obtain ⟨_, hyn, hne⟩ := g.ends k _ _ hky
     have hkl : k < l.length := hky.lt
     obtain ⟨ed, hed, hends⟩ := id hky
     obtain ⟨gl, cl', hBl, hvl, _, hce⟩ := h7.ed.at edC_len hed
     have e0c := h7.hd.cellOf (i := 0) rfl
     have e5c := h7.hd.cellOf (i := 5) rfl
     rw [hvl] at e0c
     have t8 : (k < l.length) = True := eq_true hkl
     have w1 := hce 1 _ rfl
     have w2 := hce 2 _ rfl
     have ewA : IntKind.i64.wrap (ed.u + ed.v) = ed.u + ed.v := by rw [wrap_i64] <;> omega
     have ewB : IntKind.i64.wrap (ed.u + ed.v - (u : Int)) = (y : Int) := by rw [wrap_i64] <;> omega
     have rc := h7.rc hkl
     have t9 : (y < i) = True := eq_true hyn
     have oc := hi7.cell (vr_get (f := out7) hyn)
     obtain ⟨s7, c7, rfl⟩ := hs7.slice
     have hm4 : (bes u).length - (j + 1) < m3 := by omega
     cases hb : br k with
     | true =>
      rw [hb] at rc
      repeat' (first|(with_reducible first|refine jA ?_|(refine hK _ _ ?_;clear hK K)|refine jJ fun K hK=>?_|refine jK ?_|refine jL ?_|refine jM ?_|refine jN ?_|refine jO ?_|refine jP ?_|refine jQ ?_|(refine jB ?_;clear hK K)|(refine jC ?_;clear hK K)|refine jD ?_|refine jE ?_|refine jG ?_|refine jH ?_|refine jI ?_)|((with_reducible refine jR ?hq ?_);case hq=>rfl)|((first|(with_reducible first|refine jS fun K hK=>?_|refine jT ?_|refine jU ?_)|((with_reducible refine jV ?hy fun K hK=>?_);case hy=>rfl));simp only [go_sem, Nat.reduceEqDiff, Nat.reduceAdd, Nat.reduceMul, Nat.reduceLeDiff, Nat.reduceLT, Int.reduceLT, Int.reduceLE, Int.reduceEq, Int.reduceNeg, Int.reduceToNat, Nat.reducePow, reduceIte, reduceCtorEq, j0, j62, j63, j7, i64', q1, q1', hkc, e0c, e5c, t8, w1, w2, ewA, ewB, rc, Bool.not_true, ewj])|((with_reducible first|refine jW ?hy ?_|refine jY ?hy ?_);case hy=>rfl)|((with_reducible first|refine jX ?hy ?_|refine jZ ?hy ?_);case hy=>rfl)|((with_reducible refine jF ?hy ?_);case hy=>decide))
      exact loop_normal hm4 ⟨j + 1, st7, out7, Bs7, _, rfl, hjl, i6', hs7, hi7, hF7.next g hk hky (fun hnb => absurd ((hbr k).1 hb) hnb), hBs7, z74, hlt7, hle7, f7, rfl⟩
     | false =>
      rw [hb] at rc
      have hnb : ¬ Bridge l k := fun hx => by rw [(hbr k).2 hx] at hb; cases hb
      by_cases hy : out7 y < 0
      ·have q2 : (out7 y < 0) = True := eq_true hy
       obtain ⟨wi, hi8⟩ := hi7.write (i := y) (by rw [vr_len]; exact hyn) (v : Int)
       rw [vr_set] at hi8
       have f78 : Fr (· = H.size) H7 (hset H7 ⟨H.size, y, none⟩ (.int .i64 (v : Nat))) := Fr.set (S := (· = H.size)) (Fr.refl _ _) (.inl rfl) _
       repeat' (first|(with_reducible first|refine jA ?_|(refine hK _ _ ?_;clear hK K)|refine jJ fun K hK=>?_|refine jK ?_|refine jL ?_|refine jM ?_|refine jN ?_|refine jO ?_|refine jP ?_|refine jQ ?_|(refine jB ?_;clear hK K)|(refine jC ?_;clear hK K)|refine jD ?_|refine jE ?_|refine jG ?_|refine jH ?_|refine jI ?_)|((with_reducible refine jR ?hq ?_);case hq=>rfl)|((first|(with_reducible first|refine jS fun K hK=>?_|refine jT ?_|refine jU ?_)|((with_reducible refine jV ?hy fun K hK=>?_);case hy=>rfl));simp only [go_sem, Nat.reduceEqDiff, Nat.reduceAdd, Nat.reduceMul, Nat.reduceLeDiff, Nat.reduceLT, Int.reduceLT, Int.reduceLE, Int.reduceEq, Int.reduceNeg, Int.reduceToNat, Nat.reducePow, reduceIte, reduceCtorEq, j0, j3, j5, j62, j63, j7, i64', q1, q1', hkc, e0c, e5c, t8, t9, w1, w2, ewA, ewB, rc, oc, q2, Bool.not_false, wi, i6'])|((with_reducible first|refine jW ?hy ?_|refine jY ?hy ?_);case hy=>rfl)|((with_reducible first|refine jX ?hy ?_|refine jZ ?hy ?_);case hy=>rfl)|((with_reducible refine jF ?hy ?_);case hy=>decide))
       generalize hset H7 _ _ = H8 at hi8 f78 ⊢
       have hs8 := hs7.frame f78 fun b hb e => by have := hBs7 b hb; omega
       have f8 : Fr (fun _ => False) H H8 := f7.trans' f78 fun b hb e => by omega
       have hlen7 : (natsL st7.reverse).length = st7.length := by simp [natsL]
       have hbs : 2 * ((natsL st7.reverse).length + 1) * 8 ≤ 2 ^ 48 := by rw [hlen7]; omega
       refine append_ir elems32 tl3 hs8 rfl (by decide) hbs rfl ?_
       intro v' H9 B' hs9 f89 hB9
       have hi9 := hi8.frame f89 fun b hb e => by
        have := hBs7 b e
        have := Option.some.inj hb
        omega
       repeat' (first|(with_reducible first|refine jA ?_|(refine hK _ _ ?_;clear hK K)|refine jJ fun K hK=>?_|refine jK ?_|refine jL ?_|refine jM ?_|refine jN ?_|refine jO ?_|refine jP ?_|refine jQ ?_|(refine jB ?_;clear hK K)|(refine jC ?_;clear hK K)|refine jD ?_|refine jE ?_|refine jG ?_|refine jH ?_|refine jI ?_)|((with_reducible refine jR ?hq ?_);case hq=>rfl)|((first|(with_reducible first|refine jS fun K hK=>?_|refine jT ?_|refine jU ?_)|((with_reducible refine jV ?hy fun K hK=>?_);case hy=>rfl));simp only [go_sem, Nat.reduceEqDiff, Nat.reduceAdd, Nat.reduceMul, Nat.reduceLeDiff, Nat.reduceLT, Int.reduceLT, Int.reduceLE, Int.reduceEq, Int.reduceNeg, Int.reduceToNat, Nat.reducePow, reduceIte, reduceCtorEq, i64', ewj])|((with_reducible first|refine jW ?hy ?_|refine jY ?hy ?_);case hy=>rfl)|((with_reducible first|refine jX ?hy ?_|refine jZ ?hy ?_);case hy=>rfl)|((with_reducible refine jF ?hy ?_);case hy=>decide))
       have hneg := neg_up (v := v) hyn hy
       refine loop_normal hm4 ⟨j + 1, y :: st7, _, B', v', rfl, hjl, rfl, by simpa [natsL] using hs9, hi9, hF7.mark g hk hky hnb hy, fun b hb => ?_, by have := f78.size; have := f89.size; omega, by simp; omega, by simp; omega, f8.trans' f89 fun b hb e => by have := hBs7 b e; omega, rfl⟩
       rcases hB9 with e | ⟨gq, e1, e2⟩
       ·exact hBs7 b (by rw [← e]; exact hb)
       ·rw [e1] at hb
        obtain rfl := Option.some.inj hb
        have := f78.size
        omega
      ·have q2 : (out7 y < 0) = False := eq_false hy
       repeat' (first|(with_reducible first|refine jA ?_|(refine hK _ _ ?_;clear hK K)|refine jJ fun K hK=>?_|refine jK ?_|refine jL ?_|refine jM ?_|refine jN ?_|refine jO ?_|refine jP ?_|refine jQ ?_|(refine jB ?_;clear hK K)|(refine jC ?_;clear hK K)|refine jD ?_|refine jE ?_|refine jG ?_|refine jH ?_|refine jI ?_)|((with_reducible refine jR ?hq ?_);case hq=>rfl)|((first|(with_reducible first|refine jS fun K hK=>?_|refine jT ?_|refine jU ?_)|((with_reducible refine jV ?hy fun K hK=>?_);case hy=>rfl));simp only [go_sem, Nat.reduceEqDiff, Nat.reduceAdd, Nat.reduceMul, Nat.reduceLeDiff, Nat.reduceLT, Int.reduceLT, Int.reduceLE, Int.reduceEq, Int.reduceNeg, Int.reduceToNat, Nat.reducePow, reduceIte, reduceCtorEq, j0, j3, j62, j63, j7, i64', q1, q1', hkc, e0c, e5c, t8, t9, w1, w2, ewA, ewB, rc, oc, q2, Bool.not_false, ewj])|((with_reducible first|refine jW ?hy ?_|refine jY ?hy ?_);case hy=>rfl)|((with_reducible first|refine jX ?hy ?_|refine jZ ?hy ?_);case hy=>rfl)|((with_reducible refine jF ?hy ?_);case hy=>decide))
       exact loop_normal hm4 ⟨j + 1, st7, out7, Bs7, _, rfl, hjl, i6', hs7, hi7, hF7.next g hk hky (fun _ => by omega), hBs7, z74, hlt7, hle7, f7, rfl⟩
    ·have q1 : ((j : Int) < ((bes u).length : Int)) = False := eq_false (by omega)
     have q1' : (j < (bes u).length) = False := eq_false hjl
     repeat' (first|(with_reducible first|refine jA ?_|(refine hK _ _ ?_;clear hK K)|refine jJ fun K hK=>?_|refine jK ?_|refine jL ?_|refine jM ?_|refine jN ?_|refine jO ?_|refine jP ?_|refine jQ ?_|(refine jB ?_;clear hK K)|(refine jC ?_;clear hK K)|refine jD ?_|refine jE ?_|refine jG ?_|refine jH ?_|refine jI ?_)|((with_reducible refine jR ?hq ?_);case hq=>rfl)|((first|(with_reducible first|refine jS fun K hK=>?_|refine jT ?_|refine jU ?_)|((with_reducible refine jV ?hy fun K hK=>?_);case hy=>rfl));simp only [go_sem, Nat.reduceEqDiff, Nat.reduceAdd, Nat.reduceMul, Nat.reduceLeDiff, Nat.reduceLT, Int.reduceLT, Int.reduceLE, Int.reduceEq, Int.reduceNeg, Int.reduceToNat, Nat.reducePow, reduceIte, reduceCtorEq, j63, i64', q1, q1'])|((with_reducible first|refine jW ?hy ?_|refine jY ?hy ?_);case hy=>rfl)|((with_reducible first|refine jX ?hy ?_|refine jZ ?hy ?_);case hy=>rfl)|((with_reducible refine jF ?hy ?_);case hy=>decide))
     exact loop_normal (m' := 2 * neg i out7 + st7.length) hlt7 ⟨st7, out7, Bs7, _, i6', hs7, hi7, hF7.leave g (by omega), hBs7, z74, hle7, f7, rfl⟩
 ·have t1 : ((v : Int) < (i : Int)) = False := eq_false (by omega)
  have t1' : (v < i) = False := eq_false hlt
  obtain rfl : v = i := by omega
  repeat' (first|(with_reducible first|refine jA ?_|(refine hK _ _ ?_;clear hK K)|refine jJ fun K hK=>?_|refine jK ?_|refine jL ?_|refine jM ?_|refine jN ?_|refine jO ?_|refine jP ?_|refine jQ ?_|(refine jB ?_;clear hK K)|(refine jC ?_;clear hK K)|refine jD ?_|refine jE ?_|refine jG ?_|refine jH ?_|refine jI ?_)|((with_reducible refine jR ?hq ?_);case hq=>rfl)|((first|(with_reducible first|refine jS fun K hK=>?_|refine jT ?_|refine jU ?_)|((with_reducible refine jV ?hy fun K hK=>?_);case hy=>rfl));simp only [go_sem, Nat.reduceEqDiff, Nat.reduceAdd, Nat.reduceMul, Nat.reduceLeDiff, Nat.reduceLT, Int.reduceLT, Int.reduceLE, Int.reduceEq, Int.reduceNeg, Int.reduceToNat, Nat.reducePow, reduceIte, reduceCtorEq, i3, i27, i28, t1, t1'])|((with_reducible first|refine jW ?hy ?_|refine jY ?hy ?_);case hy=>rfl)|((with_reducible first|refine jX ?hy ?_|refine jZ ?hy ?_);case hy=>rfl)|((with_reducible refine jF ?hy ?_);case hy=>decide))
  obtain ⟨p, hp, hpn, hpo⟩ := blocks_least ok low0
  have : vr v (nI p) = vr v out := vr_congr fun x hx => by rw [hpo x hx]; rfl
  exact fin _ _ p hp hpn (by rw [this]; exact hi3) (Nat.le_refl _) f3
end
end Go.Proofs.Ytpeaogldojepnaa
namespace Go.Br
open Go Go.Hp Go.Li
def okEd (n : Nat) (x : Ed) : Bool := decide (0 ≤ x.u ∧ x.u < n ∧ 0 ≤ x.v ∧ x.v < n ∧ x.u ≠ x.v ∧ 0 ≤ x.id ∧ x.id ≤ 1099511627776 ∧ -1099511627776 ≤ x.w ∧ x.w ≤ 1099511627776)
def May (n : Nat) (l : List Ed) : Prop := (∀ x ∈ l, okEd n x = true) ∧ (l.map (·.id)).Nodup
instance (n : Nat) (l : List Ed) : Decidable (May n l) := inferInstanceAs (Decidable (_ ∧ _))
theorem store4 {H : Heap} {b : Nat} {x0 x1 x2 x3 : Value} (hb : Blk H b [x0, x1, x2, x3]) (v0 v1 v2 v3 : Value) :
  Blk (hset (hset (hset (hset H ⟨b, 0, none⟩ v0) ⟨b, 1, none⟩ v1) ⟨b, 2, none⟩ v2) ⟨b, 3, none⟩ v3) b [v0, v1, v2, v3] ∧ Fr (· = b) H (hset (hset (hset (hset H ⟨b, 0, none⟩ v0) ⟨b, 1, none⟩ v1) ⟨b, 2, none⟩ v2) ⟨b, 3, none⟩ v3) :=
 ⟨(((hb.set_same 0 _).set_same 1 _).set_same 2 _).set_same 3 _, Fr.set (S := (· = b)) (a := ⟨b, 3, none⟩) (Fr.set (S := (· = b)) (a := ⟨b, 2, none⟩) (Fr.set (S := (· = b)) (a := ⟨b, 1, none⟩) (Fr.set (S := (· = b)) (a := ⟨b, 0, none⟩) (Fr.refl _ _) (.inl rfl) _) (.inl rfl) _) (.inl rfl) _) (.inl rfl) _⟩
theorem edge_box {H : Heap} (e : Ed) {T0 : TypeId} : Blk (hset (hset (hset (hset (H.push (.cells #[.int .i64 0, .int .i64 0, .int .i64 0, .int .i64 0] T0)) ⟨H.size, 0, none⟩ (.int .i64 e.id)) ⟨H.size, 1, none⟩ (.int .i64 e.u)) ⟨H.size, 2, none⟩ (.int .i64 e.v)) ⟨H.size, 3, none⟩ (.int .i64 e.w)) H.size e.cells ∧
  Fr (fun _ => False) H (hset (hset (hset (hset (H.push (.cells #[.int .i64 0, .int .i64 0, .int .i64 0, .int .i64 0] T0)) ⟨H.size, 0, none⟩ (.int .i64 e.id)) ⟨H.size, 1, none⟩ (.int .i64 e.u)) ⟨H.size, 2, none⟩ (.int .i64 e.v)) ⟨H.size, 3, none⟩ (.int .i64 e.w)) := by
 have bn := Blk.new H [.int .i64 0, .int .i64 0, .int .i64 0, .int .i64 0] T0
 have fn : Fr (fun _ => False) H (H.push (.cells #[.int .i64 0, .int .i64 0, .int .i64 0, .int .i64 0] T0)) := (Fr.refl _ H).push _
 obtain ⟨b7, f7⟩ := store4 bn (.int .i64 e.id) (.int .i64 e.u) (.int .i64 e.v) (.int .i64 e.w)
 exact ⟨b7, fn.trans' f7 fun b hb (e : b = H.size) => by omega⟩
def idF (l : List Ed) (i : Nat) (x : Int) : Option Nat := (l.take i).findIdx? fun e => decide (e.id = x)
end Go.Br
namespace Go.Proofs.Ytpeaogldojepnaa
open Go Go.Hp Go.Li Go.Br
set_option linter.all false
set_option maxRecDepth 100000
set_option maxHeartbeats 1600000
def natV (h : Nat) : Value := .int .i64 (h : Nat)
theorem tabI : ∃ tk, tab Try.prog 3 = some tk ∧ tk.desc = .int .i64 ∧ tk.size = 1 := by
 have h : (tab Try.prog 3).map (fun tk => (decide (tk.size = 1), match tk.desc with | .int .i64 => true | _ => false)) = some (true, true) := by kernel_rfl
 cases ht : tab Try.prog 3 with
 | none => rw [ht] at h; cases h
 | some tk =>
  rw [ht] at h
  simp only [Option.map_some, Option.some.injEq, Prod.mk.injEq, decide_eq_true_iff] at h
  refine ⟨tk, rfl, ?_, h.1⟩
  have h2 := h.2
  split at h2
  ·rename_i hd; exact hd
  ·cases h2
theorem kInt : KeyT Try.prog 3 intK := by
 obtain ⟨tk, h1, h2, _⟩ := tabI
 exact keyInt h1 h2
@[go_sem] theorem mapT_ids : mapT Try.prog 70 = some (3, .int .i64 0) := by kernel_rfl
section
variable {H H' : Heap} {l : List Ed} {n : Nat} {vl : Value} {Bl : Option Nat} {L : Value → Heap → Prop}
theorem may_ok (hl : SR Ed.cells 4 H Bl vl l) (hlen : l.length ≤ 192) (hn : n ≤ 64) (fin : ∀ H', Fr (fun _ => False) H H' → L (.bool (decide (May n l))) H') :
  CallsH Try.prog 23 #[.int .i64 (n : Nat), vl] H L := by
 obtain ⟨sl, cl, rfl⟩ := hl.slice
 refine call23 (by simp) ?_
 simp only [Try.f23, Option.getD_some]
 repeat' (first|(with_reducible first|refine jA ?_|(refine hK _ _ ?_;clear hK K)|refine jJ fun K hK=>?_|refine jK ?_|refine jL ?_|refine jM ?_|refine jN ?_|refine jO ?_|refine jP ?_|refine jQ ?_|(refine jB ?_;clear hK K)|(refine jC ?_;clear hK K)|refine jD ?_|refine jE ?_|refine jG ?_|refine jH ?_|refine jI ?_)|((with_reducible refine jR ?hq ?_);case hq=>rfl)|((first|(with_reducible first|refine jS fun K hK=>?_|refine jT ?_|refine jU ?_)|((with_reducible refine jV ?hy fun K hK=>?_);case hy=>rfl));simp only [go_sem, Nat.reduceEqDiff, Nat.reduceAdd, Nat.reduceMul, Nat.reduceLeDiff, Nat.reduceLT, Int.reduceLT, Int.reduceLE, Int.reduceEq, Int.reduceNeg, Int.reduceToNat, Nat.reducePow, reduceIte, reduceCtorEq])|((with_reducible first|refine jW ?hy ?_|refine jY ?hy ?_);case hy=>rfl)|((with_reducible first|refine jX ?hy ?_|refine jZ ?hy ?_);case hy=>rfl)|((with_reducible refine jF ?hy ?_);case hy=>decide))
 have hM := MapF.make intK natV H
 generalize hH1 : H.push _ = H1 at hM ⊢
 have f1 : Fr (fun _ => False) H H1 := by rw [← hH1]; exact (Fr.refl _ _).push _
 clear hH1
 refine x_loop (fun m e' H' => ∃ (i cn : Nat), e' 13 = .int .i64 (i : Nat) ∧ i ≤ l.length ∧ (∀ x ∈ l.take i, okEd n x = true) ∧ ((l.take i).map (·.id)).Nodup ∧ MapF intK natV H' H.size (idF l i) cn ∧ Fr (fun _ => False) H H' ∧ m = l.length - i) l.length
  ⟨0, 0, rfl, Nat.zero_le _, by simp, by simp, hM.congr fun k => rfl, f1, rfl⟩ ?_
 rintro m e1 H2 ⟨i, cn, i13, hi, hok, hnd, hM2, f2, hm⟩ hoff
 have i0 : e1 0 = .int .i64 (n : Nat) := (hoff 0 rfl).trans rfl
 have i5 : e1 5 = .map (some H.size) := (hoff 5 rfl).trans rfl
 have i11 : e1 11 = .slice sl l.length cl := (hoff 11 rfl).trans rfl
 have i12 : e1 12 = .int .i64 (l.length : Nat) := (hoff 12 rfl).trans rfl
 clear hoff hM
 by_cases hlt : i < l.length
 ·have t1 : ((i : Int) < (l.length : Int)) = True := eq_true (by omega)
  have t1' : (i < l.length) = True := eq_true hlt
  have ew : IntKind.i64.wrap ((i : Int) + 1) = ((i + 1 : Nat) : Int) := by rw [wrap_i64] <;> omega
  obtain ⟨x, hx⟩ : ∃ x, l[i]? = some x := ⟨_, List.getElem?_eq_getElem hlt⟩
  have tk : l.take (i + 1) = l.take i ++ [x] := by rw [List.take_add_one, hx]; rfl
  obtain ⟨gl, cl', hB, hv, _, hc⟩ := (hl.frame f2 fun _ _ h => h).at edC_len hx
  simp only [Value.slice.injEq] at hv
  obtain ⟨rfl, _, rfl⟩ := hv
  have q0 := hc 0 _ rfl
  have q1 := hc 1 _ rfl
  have q2 := hc 2 _ rfl
  have q3 := hc 3 _ rfl
  rw [Nat.add_zero] at q0
  repeat' (first|(with_reducible first|refine jA ?_|(refine hK _ _ ?_;clear hK K)|refine jJ fun K hK=>?_|refine jK ?_|refine jL ?_|refine jM ?_|refine jN ?_|refine jO ?_|refine jP ?_|refine jQ ?_|(refine jB ?_;clear hK K)|(refine jC ?_;clear hK K)|refine jD ?_|refine jE ?_|refine jG ?_|refine jH ?_|refine jI ?_)|((with_reducible refine jR ?hq ?_);case hq=>rfl)|((first|(with_reducible first|refine jS fun K hK=>?_|refine jT ?_|refine jU ?_)|((with_reducible refine jV ?hy fun K hK=>?_);case hy=>rfl));simp only [go_sem, Nat.reduceEqDiff, Nat.reduceAdd, Nat.reduceMul, Nat.reduceLeDiff, Nat.reduceLT, Int.reduceLT, Int.reduceLE, Int.reduceEq, Int.reduceNeg, Int.reduceToNat, Nat.reducePow, reduceIte, reduceCtorEq, i5, i11, i12, i13, t1, t1', q0, q1, q2, q3, hcell_push, hcell_top, okW_push, okW_top, hcell_hset_ne, hcell_hset_off, hcell_hset_eq, okW_hset, hset_size, Array.size_push, Nat.lt_add_one, ne_add_one, add_one_ne, Nat.add_assoc, add_same, add_lt_same, Nat.reduceEqDiff, lt_add_k, add_k_ne, ne_add_k])|((with_reducible first|refine jW ?hy ?_|refine jY ?hy ?_);case hy=>rfl)|((with_reducible first|refine jX ?hy ?_|refine jZ ?hy ?_);case hy=>rfl)|((with_reducible refine jF ?hy ?_);case hy=>decide))
  obtain ⟨b3, f3⟩ := edge_box (H := H2) x (T0 := 35)
  generalize hset _ _ _ = H3 at b3 f3 ⊢
  have hM3 := hM2.frame f3 fun h => h
  have d0 := b3.cellOf (i := 0) rfl
  refine rd_lookupQ (vf := natV) mapT_ids kInt hM3 x.id true ?_
  cases hid : idF l i x.id with
  | some j =>
   simp only [Option.map_some, gotV, if_true, natV]
   repeat' (first|(with_reducible first|refine jA ?_|(refine hK _ _ ?_;clear hK K)|refine jJ fun K hK=>?_|refine jK ?_|refine jL ?_|refine jM ?_|refine jN ?_|refine jO ?_|refine jP ?_|refine jQ ?_|(refine jB ?_;clear hK K)|(refine jC ?_;clear hK K)|refine jD ?_|refine jE ?_|refine jG ?_|refine jH ?_|refine jI ?_)|((with_reducible refine jR ?hq ?_);case hq=>rfl)|((first|(with_reducible first|refine jS fun K hK=>?_|refine jT ?_|refine jU ?_)|((with_reducible refine jV ?hy fun K hK=>?_);case hy=>rfl));simp only [go_sem, Nat.reduceEqDiff, Nat.reduceAdd, Nat.reduceMul, Nat.reduceLeDiff, Nat.reduceLT, Int.reduceLT, Int.reduceLE, Int.reduceEq, Int.reduceNeg, Int.reduceToNat, Nat.reducePow, reduceIte, reduceCtorEq])|((with_reducible first|refine jW ?hy ?_|refine jY ?hy ?_);case hy=>rfl)|((with_reducible first|refine jX ?hy ?_|refine jZ ?hy ?_);case hy=>rfl)|((with_reducible refine jF ?hy ?_);case hy=>decide))
   have hno : ¬ May n l := fun ⟨_, h2⟩ => by
    unfold idF at hid
    rw [List.findIdx?_eq_some_iff_getElem] at hid
    obtain ⟨hj, h3, _⟩ := hid
    rw [List.getElem_take] at h3
    have hj' : j < i := by simp at hj; omega
    have h3 : (l[j]'(by omega)).id = x.id := by simpa using h3
    rw [List.nodup_iff_pairwise_ne, List.pairwise_iff_getElem] at h2
    have := h2 j i (by simp; omega) (by simpa using hlt) hj'
    rw [List.getElem_map, List.getElem_map, (List.getElem?_eq_some_iff.1 hx).2] at this
    exact this h3
   rw [decide_eq_false hno] at fin
   exact fin _ (f2.trans f3)
  | none =>
   simp only [Option.map_none, gotV, if_true]
   repeat' (first|(with_reducible first|refine jA ?_|(refine hK _ _ ?_;clear hK K)|refine jJ fun K hK=>?_|refine jK ?_|refine jL ?_|refine jM ?_|refine jN ?_|refine jO ?_|refine jP ?_|refine jQ ?_|(refine jB ?_;clear hK K)|(refine jC ?_;clear hK K)|refine jD ?_|refine jE ?_|refine jG ?_|refine jH ?_|refine jI ?_)|((with_reducible refine jR ?hq ?_);case hq=>rfl)|((first|(with_reducible first|refine jS fun K hK=>?_|refine jT ?_|refine jU ?_)|((with_reducible refine jV ?hy fun K hK=>?_);case hy=>rfl));simp only [go_sem, Nat.reduceEqDiff, Nat.reduceAdd, Nat.reduceMul, Nat.reduceLeDiff, Nat.reduceLT, Int.reduceLT, Int.reduceLE, Int.reduceEq, Int.reduceNeg, Int.reduceToNat, Nat.reducePow, reduceIte, reduceCtorEq, i0, i5, d0])|((with_reducible first|refine jW ?hy ?_|refine jY ?hy ?_);case hy=>rfl)|((with_reducible first|refine jX ?hy ?_|refine jZ ?hy ?_);case hy=>rfl)|((with_reducible refine jF ?hy ?_);case hy=>decide))
   refine hp_updF (vf := natV) mapT_ids kInt hM3 x.id i fun H4 hM4 hf4 _ _ => ?_
   have f4 : Fr (fun _ => False) H H4 := (f2.trans f3).trans' hf4 fun b hb e => by omega
   have l2 := f1.size
   have b4 := b3.frame hf4 (by have := hM2.lt; omega)
   have d0 := b4.cellOf (i := 0) rfl
   have d1 := b4.cellOf (i := 1) rfl
   have d2 := b4.cellOf (i := 2) rfl
   have d3 := b4.cellOf (i := 3) rfl
   have hbad : okEd n x = false → decide (May n l) = false := fun hx' => decide_eq_false fun ⟨h1, _⟩ => by rw [h1 x (List.mem_of_getElem? hx)] at hx'; cases hx'
   have bad : okEd n x = false → L (.bool false) H4 := fun hx' => by
    rw [hbad hx'] at fin
    exact fin _ f4
   clear fin hbad
   by_cases h0 : (if x.v < x.u then x.v else x.u) < 0
   ·have u1 : ((if x.v < x.u then x.v else x.u) < 0) = True := eq_true h0
    repeat' (first|(with_reducible first|refine jA ?_|(refine hK _ _ ?_;clear hK K)|refine jJ fun K hK=>?_|refine jK ?_|refine jL ?_|refine jM ?_|refine jN ?_|refine jO ?_|refine jP ?_|refine jQ ?_|(refine jB ?_;clear hK K)|(refine jC ?_;clear hK K)|refine jD ?_|refine jE ?_|refine jG ?_|refine jH ?_|refine jI ?_)|((with_reducible refine jR ?hq ?_);case hq=>rfl)|((first|(with_reducible first|refine jS fun K hK=>?_|refine jT ?_|refine jU ?_)|((with_reducible refine jV ?hy fun K hK=>?_);case hy=>rfl));simp only [go_sem, Nat.reduceEqDiff, Nat.reduceAdd, Nat.reduceMul, Nat.reduceLeDiff, Nat.reduceLT, Int.reduceLT, Int.reduceLE, Int.reduceEq, Int.reduceNeg, Int.reduceToNat, Nat.reducePow, reduceIte, reduceCtorEq, u1, i0, d0, d1, d2, d3])|((with_reducible first|refine jW ?hy ?_|refine jY ?hy ?_);case hy=>rfl)|((with_reducible first|refine jX ?hy ?_|refine jZ ?hy ?_);case hy=>rfl)|((with_reducible refine jF ?hy ?_);case hy=>decide))
    exact bad (by unfold okEd; refine decide_eq_false fun hx' => ?_; (try split at h0) <;> omega)
   have u1 : ((if x.v < x.u then x.v else x.u) < 0) = False := eq_false h0
   by_cases h1 : (n : Int) ≤ (if x.u < x.v then x.v else x.u)
   ·have u2 : ((n : Int) ≤ (if x.u < x.v then x.v else x.u)) = True := eq_true h1
    repeat' (first|(with_reducible first|refine jA ?_|(refine hK _ _ ?_;clear hK K)|refine jJ fun K hK=>?_|refine jK ?_|refine jL ?_|refine jM ?_|refine jN ?_|refine jO ?_|refine jP ?_|refine jQ ?_|(refine jB ?_;clear hK K)|(refine jC ?_;clear hK K)|refine jD ?_|refine jE ?_|refine jG ?_|refine jH ?_|refine jI ?_)|((with_reducible refine jR ?hq ?_);case hq=>rfl)|((first|(with_reducible first|refine jS fun K hK=>?_|refine jT ?_|refine jU ?_)|((with_reducible refine jV ?hy fun K hK=>?_);case hy=>rfl));simp only [go_sem, Nat.reduceEqDiff, Nat.reduceAdd, Nat.reduceMul, Nat.reduceLeDiff, Nat.reduceLT, Int.reduceLT, Int.reduceLE, Int.reduceEq, Int.reduceNeg, Int.reduceToNat, Nat.reducePow, reduceIte, reduceCtorEq, u1, u2, i0, d0, d1, d2, d3])|((with_reducible first|refine jW ?hy ?_|refine jY ?hy ?_);case hy=>rfl)|((with_reducible first|refine jX ?hy ?_|refine jZ ?hy ?_);case hy=>rfl)|((with_reducible refine jF ?hy ?_);case hy=>decide))
    exact bad (by unfold okEd; refine decide_eq_false fun hx' => ?_; (try split at h1) <;> omega)
   have u2 : ((n : Int) ≤ (if x.u < x.v then x.v else x.u)) = False := eq_false h1
   by_cases h2 : x.u = x.v
   ·have u3 : (x.u == x.v) = true := by simp [h2]
    repeat' (first|(with_reducible first|refine jA ?_|(refine hK _ _ ?_;clear hK K)|refine jJ fun K hK=>?_|refine jK ?_|refine jL ?_|refine jM ?_|refine jN ?_|refine jO ?_|refine jP ?_|refine jQ ?_|(refine jB ?_;clear hK K)|(refine jC ?_;clear hK K)|refine jD ?_|refine jE ?_|refine jG ?_|refine jH ?_|refine jI ?_)|((with_reducible refine jR ?hq ?_);case hq=>rfl)|((first|(with_reducible first|refine jS fun K hK=>?_|refine jT ?_|refine jU ?_)|((with_reducible refine jV ?hy fun K hK=>?_);case hy=>rfl));simp only [go_sem, Nat.reduceEqDiff, Nat.reduceAdd, Nat.reduceMul, Nat.reduceLeDiff, Nat.reduceLT, Int.reduceLT, Int.reduceLE, Int.reduceEq, Int.reduceNeg, Int.reduceToNat, Nat.reducePow, reduceIte, reduceCtorEq, u1, u2, u3, i0, d0, d1, d2, d3])|((with_reducible first|refine jW ?hy ?_|refine jY ?hy ?_);case hy=>rfl)|((with_reducible first|refine jX ?hy ?_|refine jZ ?hy ?_);case hy=>rfl)|((with_reducible refine jF ?hy ?_);case hy=>decide))
    exact bad (by unfold okEd; refine decide_eq_false fun hx' => ?_; (try split at h2) <;> omega)
   have u3 : (x.u == x.v) = false := by simp [h2]
   by_cases h3 : x.id < 0
   ·have u4 : (x.id < 0) = True := eq_true h3
    repeat' (first|(with_reducible first|refine jA ?_|(refine hK _ _ ?_;clear hK K)|refine jJ fun K hK=>?_|refine jK ?_|refine jL ?_|refine jM ?_|refine jN ?_|refine jO ?_|refine jP ?_|refine jQ ?_|(refine jB ?_;clear hK K)|(refine jC ?_;clear hK K)|refine jD ?_|refine jE ?_|refine jG ?_|refine jH ?_|refine jI ?_)|((with_reducible refine jR ?hq ?_);case hq=>rfl)|((first|(with_reducible first|refine jS fun K hK=>?_|refine jT ?_|refine jU ?_)|((with_reducible refine jV ?hy fun K hK=>?_);case hy=>rfl));simp only [go_sem, Nat.reduceEqDiff, Nat.reduceAdd, Nat.reduceMul, Nat.reduceLeDiff, Nat.reduceLT, Int.reduceLT, Int.reduceLE, Int.reduceEq, Int.reduceNeg, Int.reduceToNat, Nat.reducePow, reduceIte, reduceCtorEq, u1, u2, u3, u4, i0, d0, d1, d2, d3])|((with_reducible first|refine jW ?hy ?_|refine jY ?hy ?_);case hy=>rfl)|((with_reducible first|refine jX ?hy ?_|refine jZ ?hy ?_);case hy=>rfl)|((with_reducible refine jF ?hy ?_);case hy=>decide))
    exact bad (by unfold okEd; refine decide_eq_false fun hx' => ?_; (try split at h3) <;> omega)
   have u4 : (x.id < 0) = False := eq_false h3
   by_cases h4 : 1099511627776 < x.id
   ·have u5 : (1099511627776 < x.id) = True := eq_true h4
    repeat' (first|(with_reducible first|refine jA ?_|(refine hK _ _ ?_;clear hK K)|refine jJ fun K hK=>?_|refine jK ?_|refine jL ?_|refine jM ?_|refine jN ?_|refine jO ?_|refine jP ?_|refine jQ ?_|(refine jB ?_;clear hK K)|(refine jC ?_;clear hK K)|refine jD ?_|refine jE ?_|refine jG ?_|refine jH ?_|refine jI ?_)|((with_reducible refine jR ?hq ?_);case hq=>rfl)|((first|(with_reducible first|refine jS fun K hK=>?_|refine jT ?_|refine jU ?_)|((with_reducible refine jV ?hy fun K hK=>?_);case hy=>rfl));simp only [go_sem, Nat.reduceEqDiff, Nat.reduceAdd, Nat.reduceMul, Nat.reduceLeDiff, Nat.reduceLT, Int.reduceLT, Int.reduceLE, Int.reduceEq, Int.reduceNeg, Int.reduceToNat, Nat.reducePow, reduceIte, reduceCtorEq, u1, u2, u3, u4, u5, i0, d0, d1, d2, d3])|((with_reducible first|refine jW ?hy ?_|refine jY ?hy ?_);case hy=>rfl)|((with_reducible first|refine jX ?hy ?_|refine jZ ?hy ?_);case hy=>rfl)|((with_reducible refine jF ?hy ?_);case hy=>decide))
    exact bad (by unfold okEd; refine decide_eq_false fun hx' => ?_; (try split at h4) <;> omega)
   have u5 : (1099511627776 < x.id) = False := eq_false h4
   by_cases h5 : x.w < -1099511627776
   ·have u6 : (x.w < -1099511627776) = True := eq_true h5
    repeat' (first|(with_reducible first|refine jA ?_|(refine hK _ _ ?_;clear hK K)|refine jJ fun K hK=>?_|refine jK ?_|refine jL ?_|refine jM ?_|refine jN ?_|refine jO ?_|refine jP ?_|refine jQ ?_|(refine jB ?_;clear hK K)|(refine jC ?_;clear hK K)|refine jD ?_|refine jE ?_|refine jG ?_|refine jH ?_|refine jI ?_)|((with_reducible refine jR ?hq ?_);case hq=>rfl)|((first|(with_reducible first|refine jS fun K hK=>?_|refine jT ?_|refine jU ?_)|((with_reducible refine jV ?hy fun K hK=>?_);case hy=>rfl));simp only [go_sem, Nat.reduceEqDiff, Nat.reduceAdd, Nat.reduceMul, Nat.reduceLeDiff, Nat.reduceLT, Int.reduceLT, Int.reduceLE, Int.reduceEq, Int.reduceNeg, Int.reduceToNat, Nat.reducePow, reduceIte, reduceCtorEq, u1, u2, u3, u4, u5, u6, i0, d0, d1, d2, d3])|((with_reducible first|refine jW ?hy ?_|refine jY ?hy ?_);case hy=>rfl)|((with_reducible first|refine jX ?hy ?_|refine jZ ?hy ?_);case hy=>rfl)|((with_reducible refine jF ?hy ?_);case hy=>decide))
    exact bad (by unfold okEd; refine decide_eq_false fun hx' => ?_; (try split at h5) <;> omega)
   have u6 : (x.w < -1099511627776) = False := eq_false h5
   by_cases h6 : 1099511627776 < x.w
   ·have u7 : (1099511627776 < x.w) = True := eq_true h6
    repeat' (first|(with_reducible first|refine jA ?_|(refine hK _ _ ?_;clear hK K)|refine jJ fun K hK=>?_|refine jK ?_|refine jL ?_|refine jM ?_|refine jN ?_|refine jO ?_|refine jP ?_|refine jQ ?_|(refine jB ?_;clear hK K)|(refine jC ?_;clear hK K)|refine jD ?_|refine jE ?_|refine jG ?_|refine jH ?_|refine jI ?_)|((with_reducible refine jR ?hq ?_);case hq=>rfl)|((first|(with_reducible first|refine jS fun K hK=>?_|refine jT ?_|refine jU ?_)|((with_reducible refine jV ?hy fun K hK=>?_);case hy=>rfl));simp only [go_sem, Nat.reduceEqDiff, Nat.reduceAdd, Nat.reduceMul, Nat.reduceLeDiff, Nat.reduceLT, Int.reduceLT, Int.reduceLE, Int.reduceEq, Int.reduceNeg, Int.reduceToNat, Nat.reducePow, reduceIte, reduceCtorEq, u1, u2, u3, u4, u5, u6, u7, i0, d0, d1, d2, d3])|((with_reducible first|refine jW ?hy ?_|refine jY ?hy ?_);case hy=>rfl)|((with_reducible first|refine jX ?hy ?_|refine jZ ?hy ?_);case hy=>rfl)|((with_reducible refine jF ?hy ?_);case hy=>decide))
    exact bad (by unfold okEd; refine decide_eq_false fun hx' => ?_; (try split at h6) <;> omega)
   have u7 : (1099511627776 < x.w) = False := eq_false h6
   have hxok : okEd n x = true := by
    unfold okEd
    refine decide_eq_true ?_
    (split at h0 <;> split at h1 <;> omega)
   repeat' (first|(with_reducible first|refine jA ?_|(refine hK _ _ ?_;clear hK K)|refine jJ fun K hK=>?_|refine jK ?_|refine jL ?_|refine jM ?_|refine jN ?_|refine jO ?_|refine jP ?_|refine jQ ?_|(refine jB ?_;clear hK K)|(refine jC ?_;clear hK K)|refine jD ?_|refine jE ?_|refine jG ?_|refine jH ?_|refine jI ?_)|((with_reducible refine jR ?hq ?_);case hq=>rfl)|((first|(with_reducible first|refine jS fun K hK=>?_|refine jT ?_|refine jU ?_)|((with_reducible refine jV ?hy fun K hK=>?_);case hy=>rfl));simp only [go_sem, Nat.reduceEqDiff, Nat.reduceAdd, Nat.reduceMul, Nat.reduceLeDiff, Nat.reduceLT, Int.reduceLT, Int.reduceLE, Int.reduceEq, Int.reduceNeg, Int.reduceToNat, Nat.reducePow, reduceIte, reduceCtorEq, u1, u2, u3, u4, u5, u6, u7, i0, d0, d1, d2, d3, i13, ew])|((with_reducible first|refine jW ?hy ?_|refine jY ?hy ?_);case hy=>rfl)|((with_reducible first|refine jX ?hy ?_|refine jZ ?hy ?_);case hy=>rfl)|((with_reducible refine jF ?hy ?_);case hy=>decide))
   refine loop_normal (m' := l.length - (i + 1)) (by omega) ⟨i + 1, _, rfl, hlt, fun z hz => ?_, ?_, hM4.congr fun z => ?_, f4, rfl⟩
   ·rw [tk] at hz
    rcases List.mem_append.1 hz with hz | hz
    ·exact hok z hz
    ·rw [List.mem_singleton.1 hz]; exact hxok
   ·rw [tk, List.map_append, List.nodup_append]
    refine ⟨hnd, by simp, fun a ha b hb e => ?_⟩
    obtain ⟨z, hz, rfl⟩ := List.mem_map.1 ha
    rw [List.map_cons, List.map_nil, List.mem_singleton] at hb
    unfold idF at hid
    rw [List.findIdx?_eq_none_iff] at hid
    have := hid z hz
    simp at this
    exact this (e.trans hb)
   ·show idF l (i + 1) z = if z = x.id then some i else idF l i z
    unfold idF
    rw [tk, List.findIdx?_append]
    by_cases e : z = x.id
    ·subst e
     rw [if_pos rfl]
     have h5 : (l.take i).findIdx? (fun e => decide (e.id = x.id)) = none := hid
     rw [h5]
     simp; omega
    ·rw [if_neg e]
     have h6 : ([x].findIdx? fun e => decide (e.id = z)) = none := by simp; exact fun h => e h.symm
     rw [h6]
     simp
 ·have t1 : ((i : Int) < (l.length : Int)) = False := eq_false (by omega)
  have t1' : (i < l.length) = False := eq_false hlt
  obtain rfl : i = l.length := by omega
  rw [List.take_length] at hok hnd
  have hy : May n l := ⟨hok, hnd⟩
  rw [decide_eq_true hy] at fin
  repeat' (first|(with_reducible first|refine jA ?_|(refine hK _ _ ?_;clear hK K)|refine jJ fun K hK=>?_|refine jK ?_|refine jL ?_|refine jM ?_|refine jN ?_|refine jO ?_|refine jP ?_|refine jQ ?_|(refine jB ?_;clear hK K)|(refine jC ?_;clear hK K)|refine jD ?_|refine jE ?_|refine jG ?_|refine jH ?_|refine jI ?_)|((with_reducible refine jR ?hq ?_);case hq=>rfl)|((first|(with_reducible first|refine jS fun K hK=>?_|refine jT ?_|refine jU ?_)|((with_reducible refine jV ?hy fun K hK=>?_);case hy=>rfl));simp only [go_sem, Nat.reduceEqDiff, Nat.reduceAdd, Nat.reduceMul, Nat.reduceLeDiff, Nat.reduceLT, Int.reduceLT, Int.reduceLE, Int.reduceEq, Int.reduceNeg, Int.reduceToNat, Nat.reducePow, reduceIte, reduceCtorEq, i12, i13, t1, t1'])|((with_reducible first|refine jW ?hy ?_|refine jY ?hy ?_);case hy=>rfl)|((with_reducible first|refine jX ?hy ?_|refine jZ ?hy ?_);case hy=>rfl)|((with_reducible refine jF ?hy ?_);case hy=>decide))
  exact fin _ f2
end
end Go.Proofs.Ytpeaogldojepnaa
namespace Go.Br
open Go Go.Hp Go.Li
def incB (l : List Ed) (k v : Nat) : Bool := match l[k]? with | some e => decide (e.u = (v : Int) ∨ e.v = (v : Int)) | none => false
def besI (l : List Ed) (i v : Nat) : List Nat := (List.range i).filter fun k => incB l k v
theorem besI_succ (l : List Ed) (i v : Nat) : besI l (i + 1) v = besI l i v ++ (if incB l i v then [i] else []) := by
 unfold besI
 rw [List.range_succ, List.filter_append]
 congr 1
 by_cases h : incB l i v <;> simp [h]
theorem ll_app {P : Program} {t e : TypeId} {te : TL} {d i : Nat} {H H1 : Heap} {T : Nat → Prop} {va : Value} {Ls : List (List Int)} {xs : List Int} {x : Int} (he : elems P t = some (none, e, 1)) (ht : tl P e = some te) (h : LL (Value.int .i64) H T va Ls) (hi : Ls[i]? = some xs)
  (hb0 : 0 < te.bytes) (hb : 2 * (xs.length + 1) * te.bytes ≤ 2 ^ 48) (hz : te.zero.cells.size = 1) (hH : H1 = H.push (.cells #[.int .i64 x] e)) :
  ∃ g c a ca, va = .slice (some ⟨g, 0, none⟩) Ls.length c ∧ hcell H ⟨g, i, none⟩ = some (.slice a xs.length ca) ∧ T g ∧
   (∀ K : Value → Heap → Prop, (∀ a' n' c' H' T', Fr (fun b => T b ∧ b ≠ g) H H' → okW H' ⟨g, i, none⟩ → LL (Value.int .i64) (hset H' ⟨g, i, none⟩ (.slice a' n' c')) T' va (Ls.set i (xs ++ [x])) → Fr T H (hset H' ⟨g, i, none⟩ (.slice a' n' c')) → (∀ b, T' b → T b ∨ H.size ≤ b) → K (.slice a' n' c') H') →
    appendX P t (.slice a xs.length ca) (.slice (some ⟨H.size, 0, none⟩) 1 d) H1 K) := by
 obtain ⟨g, c, B, v, h1, h2, h3, h4, h5, _, h6⟩ := h.at hi
 obtain ⟨a, ca, rfl⟩ := h3.slice
 refine ⟨g, c, a, ca, h1, h2, h4, fun K hk => ?_⟩
 refine append_ir he ht (show IR H B (.slice a xs.length ca) xs from h3) hH hb0 hb hz fun v' H' B' hv hf hB => ?_
 obtain ⟨w1, w2⟩ := h6 H' B' v' _ hv hf hB
 obtain ⟨a', ca', hv'⟩ := hv.slice
 subst hv'
 refine hk a' _ ca' H' _ (hf.mono fun b _ hb => h5 b hb) w1 w2 ?_ fun b hb => ?_
 ·have hf1 : Fr T H H' := hf.mono fun b _ hb => (h5 b hb).1
  exact Fr.set (S := T) (a := ⟨g, i, none⟩) hf1 (.inl h4) _
 ·rcases hb with hb | hb
  ·exact .inl hb
  ·rcases hB with e | ⟨g', e1, e2⟩
   ·rw [e] at hb; exact .inl (h5 b hb).1
   ·rw [e1] at hb; rw [← Option.some.inj hb]; exact .inr e2
end Go.Br
namespace Go.Proofs.Ytpeaogldojepnaa
open Go Go.Hp Go.Li Go.Br
set_option linter.all false
set_option maxRecDepth 100000
set_option maxHeartbeats 3200000
section
variable {H H' : Heap} {e : Env} {Z : HX → Env → Heap → Prop} {l : List Ed} {n s gB cl : Nat} {sl : Option Addr} {Bl : Option Nat} {hdr : List Value}
theorem ofA (hl : SR Ed.cells 4 H Bl (.slice sl l.length cl) l) (hn : n ≤ 64) (hlen : l.length ≤ 192) (hmay : May n l) (hd : Blk H s hdr) (hd1 : hdr[1]? = some (.slice (some ⟨gB, 0, none⟩) n n)) (hL : LL (Value.int .i64) H (fun b => b = gB) (.slice (some ⟨gB, 0, none⟩) n n) (vr n fun _ => ([] : List Int)))
  (hs : s ≠ gB) (hBl : ∀ b, Bl = some b → b ≠ gB) (e0 : e 0 = .int .i64 (n : Nat)) (e1 : e 1 = .slice sl l.length cl) (e6 : e 6 = .pointer (some ⟨s, 0, none⟩)) (e42 : e 42 = .slice sl l.length cl) (e43 : e 43 = .int .i64 (l.length : Nat)) (e44 : e 44 = .int .i64 0)
  (hQ : ∀ e' H' TB, e' 0 = .int .i64 (n : Nat) → e' 1 = .slice sl l.length cl → e' 6 = .pointer (some ⟨s, 0, none⟩) → LL (Value.int .i64) H' TB (.slice (some ⟨gB, 0, none⟩) n n) (vr n fun v => natsL (besI l l.length v)) → (∀ b, TB b → b = gB ∨ H.size ≤ b) → Fr (fun b => b = gB) H H' → Z .normal e' H') :
  codeX Try.prog [23] (loopAt Try.f11.body 0) (blockQ 1 Z) e H := by
 refine x_loop (fun m e' H' => ∃ (i : Nat) (TB : Nat → Prop), e' 44 = .int .i64 (i : Nat) ∧ i ≤ l.length ∧ LL (Value.int .i64) H' TB (.slice (some ⟨gB, 0, none⟩) n n) (vr n fun v => natsL (besI l i v)) ∧ (∀ b, TB b → b = gB ∨ H.size ≤ b) ∧ Fr (fun b => b = gB) H H' ∧ m = l.length - i) l.length
  ⟨0, _, e44, Nat.zero_le _, hL, fun b hb => .inl hb, Fr.refl _ _, rfl⟩ ?_
 rintro m e2 H1 ⟨i, TB, i44, hi, hL1, hTB, f1, hm⟩ hoff
 have i0 := (hoff 0 rfl).trans e0
 have i1 := (hoff 1 rfl).trans e1
 have i6 := (hoff 6 rfl).trans e6
 have i42 := (hoff 42 rfl).trans e42
 have i43 := (hoff 43 rfl).trans e43
 clear hoff e0 e1 e6 e42 e43 e44
 by_cases hlt : i < l.length
 ·have t1 : ((i : Int) < (l.length : Int)) = True := eq_true (by omega)
  have t1' : (i < l.length) = True := eq_true hlt
  have ew : IntKind.i64.wrap ((i : Int) + 1) = ((i + 1 : Nat) : Int) := by rw [wrap_i64] <;> omega
  obtain ⟨x, hx⟩ : ∃ x, l[i]? = some x := ⟨_, List.getElem?_eq_getElem hlt⟩
  have hxo := hmay.1 x (List.mem_of_getElem? hx)
  unfold okEd at hxo
  rw [decide_eq_true_iff] at hxo
  obtain ⟨o1, o2, o3, o4, o5, _⟩ := hxo
  obtain ⟨u, hu⟩ := Int.eq_ofNat_of_zero_le o1
  obtain ⟨v, hv⟩ := Int.eq_ofNat_of_zero_le o3
  have hun : u < n := by omega
  have hvn : v < n := by omega
  have huv : u ≠ v := by omega
  obtain ⟨gl, cl', hB, hvl, _, hc⟩ := (hl.frame f1 fun b hb => hBl b hb).at edC_len hx
  simp only [Value.slice.injEq] at hvl
  obtain ⟨rfl, _, rfl⟩ := hvl
  have q0 := hc 0 _ rfl
  have q1 := hc 1 _ rfl
  have q2 := hc 2 _ rfl
  have q3 := hc 3 _ rfl
  rw [Nat.add_zero] at q0
  repeat' (first|(with_reducible first|refine jA ?_|(refine hK _ _ ?_;clear hK K)|refine jJ fun K hK=>?_|refine jK ?_|refine jL ?_|refine jM ?_|refine jN ?_|refine jO ?_|refine jP ?_|refine jQ ?_|(refine jB ?_;clear hK K)|(refine jC ?_;clear hK K)|refine jD ?_|refine jE ?_|refine jG ?_|refine jH ?_|refine jI ?_)|((with_reducible refine jR ?hq ?_);case hq=>rfl)|((first|(with_reducible first|refine jS fun K hK=>?_|refine jT ?_|refine jU ?_)|((with_reducible refine jV ?hy fun K hK=>?_);case hy=>rfl));simp only [go_sem, Nat.reduceEqDiff, Nat.reduceAdd, Nat.reduceMul, Nat.reduceLeDiff, Nat.reduceLT, Int.reduceLT, Int.reduceLE, Int.reduceEq, Int.reduceNeg, Int.reduceToNat, Nat.reducePow, reduceIte, reduceCtorEq, i42, i43, i44, t1, t1', q0, q1, q2, q3, hcell_push, hcell_top, okW_push, okW_top, hcell_hset_ne, hcell_hset_off, hcell_hset_eq, okW_hset, hset_size, Array.size_push, Nat.lt_add_one, ne_add_one, add_one_ne, Nat.add_assoc, add_same, add_lt_same, Nat.reduceEqDiff, lt_add_k, add_k_ne, ne_add_k])|((with_reducible first|refine jW ?hy ?_|refine jY ?hy ?_);case hy=>rfl)|((with_reducible first|refine jX ?hy ?_|refine jZ ?hy ?_);case hy=>rfl)|((with_reducible refine jF ?hy ?_);case hy=>decide))
  obtain ⟨b2, f2⟩ := edge_box (H := H1) x (T0 := 35)
  generalize hset _ _ _ = H2 at b2 f2 ⊢
  have hL2 := hL1.frame f2 fun _ _ h => h
  have hd2 := (hd.frame f1 hs).frame f2 fun h => h
  have c1 := hd2.cellOf hd1
  have d1 := b2.cellOf (i := 1) rfl
  rw [hu] at d1
  have l1 := b2.lt
  have lb : ∀ w, (natsL (besI l i w)).length ≤ 192 := fun w => by
   have := List.length_filter_le (fun k => incB l k w) (List.range i)
   simp only [natsL, List.length_map, besI]
   simp at this; omega
  have hbs : ∀ w, 2 * ((natsL (besI l i w)).length + 1) * 8 ≤ 2 ^ 48 := fun w => by have := lb w; omega
  obtain ⟨g, cc, a, ca, hva, hce, hTg, app⟩ := ll_app (x := (i : Int)) (d := 1) elems32 tl3 hL2 (vr_get (f := fun v => natsL (besI l i v)) hun) (by decide) (hbs u) rfl rfl
  rw [vr_len] at hva
  simp only [Value.slice.injEq, Option.some.injEq, Addr.mk.injEq] at hva
  obtain ⟨⟨rfl, _⟩, _, rfl⟩ := hva
  have t2 : (u < n) = True := eq_true hun
  have t3 : (v < n) = True := eq_true hvn
  have nTs : ¬ TB s := fun h => by
   rcases hTB s h with e | e
   ·exact hs e
   ·have := hd.lt; omega
  have nTb : ¬ TB H1.size := fun h => by have := hL1.lt h; omega
  have qS : Cells [(s, 1, .slice (some ⟨gB, 0, none⟩) n n), (H1.size, 1, .int .i64 (u : Nat)), (gB, u, .slice a (natsL (besI l i u)).length ca)] H2 := ⟨c1, d1, hce, trivial⟩
  refine x_drawS [18] [0, 1, 2, 3, 4, 5, 6, 7, 8, 9, 10, 11, 12, 13, 14, 15, 16, 17, 18] rfl (by kernel_rfl) (Cells _) qS ?_
  have qP := qS.grow ((Fr.refl (fun _ => False) H2).push (.cells #[.int .i64 (i : Nat)] 3))
  repeat' (first|(with_reducible refine xs_nil ?_)|((first|((with_reducible apply xs_rd);case hi=>rfl)|((with_reducible apply xs_guard_yes);(case hi=>rfl);(case hy=>rfl)));(case hr=>rfl);(case h1=>intro H' hS'; (try simp only [Cells, and_true] at hS');simp only [go_sem, Nat.reduceEqDiff, Nat.reduceAdd, Nat.reduceMul, Nat.reduceLeDiff, Nat.reduceLT, Int.reduceLT, Int.reduceLE, Int.reduceEq, Int.reduceNeg, Int.reduceToNat, Nat.reducePow, reduceIte, reduceCtorEq, i6, t2, qS, qP, hS']; rfl))|((with_reducible refine xs_tail ?hz ?_);case hz=>rfl)|((with_reducible refine xs_keep ?hz ?_);case hz=>first|(with_reducible assumption)|(simp only [go_sem, Nat.reduceEqDiff, Nat.reduceAdd, Nat.reduceMul, Nat.reduceLeDiff, Nat.reduceLT, Int.reduceLT, Int.reduceLE, Int.reduceEq, Int.reduceNeg, Int.reduceToNat, Nat.reducePow, reduceIte, reduceCtorEq, Cells, and_true, i6, t2, qS, qP]; done)|assumption)|((with_reducible apply xs_guard_no);(case hi=>rfl);(case hy=>rfl);(case hS=>assumption))|((first|((with_reducible apply xs_op);(case hi=>rfl))|((with_reducible apply xs_op_yes);(case hi=>rfl);(case hy=>rfl)));(case hr=>rfl);intro K hK; simp only [go_sem, Nat.reduceEqDiff, Nat.reduceAdd, Nat.reduceMul, Nat.reduceLeDiff, Nat.reduceLT, Int.reduceLT, Int.reduceLE, Int.reduceEq, Int.reduceNeg, Int.reduceToNat, Nat.reducePow, reduceIte, reduceCtorEq, i6, t2, qS, qP])|(with_reducible first|refine jA ?_|(refine hK _ _ ?_;clear hK K)|refine jJ fun K hK=>?_|refine jK ?_|refine jL ?_|refine jM ?_|refine jN ?_|refine jO ?_|refine jP ?_|refine jQ ?_|(refine jB ?_;clear hK K)|(refine jC ?_;clear hK K)|refine jD ?_|refine jE ?_|refine jG ?_|refine jH ?_|refine jI ?_)|((with_reducible refine jR ?hq ?_);case hq=>rfl)|((first|(with_reducible first|refine jS fun K hK=>?_|refine jT ?_|refine jU ?_)|((with_reducible refine jV ?hy fun K hK=>?_);case hy=>rfl));simp only [go_sem, Nat.reduceEqDiff, Nat.reduceAdd, Nat.reduceMul, Nat.reduceLeDiff, Nat.reduceLT, Int.reduceLT, Int.reduceLE, Int.reduceEq, Int.reduceNeg, Int.reduceToNat, Nat.reducePow, reduceIte, reduceCtorEq, i6, t2, qS, qP])|((with_reducible first|refine jW ?hy ?_|refine jY ?hy ?_);case hy=>rfl)|((with_reducible first|refine jX ?hy ?_|refine jZ ?hy ?_);case hy=>rfl)|((with_reducible refine jF ?hy ?_);case hy=>decide))
  refine app _ fun a' n' c' H3 T3 f23 wB hL4 f24 hT3 => ?_
  clear app
  have ap3 : ∀ (T0 : Nat → Prop) (w : Nat), ¬ T0 s → ¬ T0 H1.size → ∀ y ∈ ([(s, 1, .slice (some ⟨gB, 0, none⟩) n n), (H1.size, 1, .int .i64 (u : Nat)), (gB, w, .slice a (natsL (besI l i u)).length ca)] : List (Nat × Nat × Value)), ¬ (T0 y.1 ∧ y.1 ≠ gB) := by
   intro T0 w n1 n2 y hy
   simp only [List.mem_cons, List.not_mem_nil, or_false] at hy
   rcases hy with rfl | rfl | rfl
   ·exact fun h => n1 h.1
   ·exact fun h => n2 h.1
   ·exact fun h => h.2 rfl
  have q3' := qS.frame f23 (ap3 TB u nTs nTb)
  repeat' (first|(with_reducible refine xs_nil ?_)|((first|((with_reducible apply xs_rd);case hi=>rfl)|((with_reducible apply xs_guard_yes);(case hi=>rfl);(case hy=>rfl)));(case hr=>rfl);(case h1=>intro H' hS'; (try simp only [Cells, and_true] at hS');simp only [go_sem, Nat.reduceEqDiff, Nat.reduceAdd, Nat.reduceMul, Nat.reduceLeDiff, Nat.reduceLT, Int.reduceLT, Int.reduceLE, Int.reduceEq, Int.reduceNeg, Int.reduceToNat, Nat.reducePow, reduceIte, reduceCtorEq, q3', t2, wB, hS']; rfl))|((with_reducible refine xs_tail ?hz ?_);case hz=>rfl)|((with_reducible refine xs_keep ?hz ?_);case hz=>first|(with_reducible assumption)|(simp only [go_sem, Nat.reduceEqDiff, Nat.reduceAdd, Nat.reduceMul, Nat.reduceLeDiff, Nat.reduceLT, Int.reduceLT, Int.reduceLE, Int.reduceEq, Int.reduceNeg, Int.reduceToNat, Nat.reducePow, reduceIte, reduceCtorEq, Cells, and_true, q3', t2, wB]; done)|assumption)|((with_reducible apply xs_guard_no);(case hi=>rfl);(case hy=>rfl);(case hS=>assumption))|((first|((with_reducible apply xs_op);(case hi=>rfl))|((with_reducible apply xs_op_yes);(case hi=>rfl);(case hy=>rfl)));(case hr=>rfl);intro K hK; simp only [go_sem, Nat.reduceEqDiff, Nat.reduceAdd, Nat.reduceMul, Nat.reduceLeDiff, Nat.reduceLT, Int.reduceLT, Int.reduceLE, Int.reduceEq, Int.reduceNeg, Int.reduceToNat, Nat.reducePow, reduceIte, reduceCtorEq, q3', t2, wB])|(with_reducible first|refine jA ?_|(refine hK _ _ ?_;clear hK K)|refine jJ fun K hK=>?_|refine jK ?_|refine jL ?_|refine jM ?_|refine jN ?_|refine jO ?_|refine jP ?_|refine jQ ?_|(refine jB ?_;clear hK K)|(refine jC ?_;clear hK K)|refine jD ?_|refine jE ?_|refine jG ?_|refine jH ?_|refine jI ?_)|((with_reducible refine jR ?hq ?_);case hq=>rfl)|((first|(with_reducible first|refine jS fun K hK=>?_|refine jT ?_|refine jU ?_)|((with_reducible refine jV ?hy fun K hK=>?_);case hy=>rfl));simp only [go_sem, Nat.reduceEqDiff, Nat.reduceAdd, Nat.reduceMul, Nat.reduceLeDiff, Nat.reduceLT, Int.reduceLT, Int.reduceLE, Int.reduceEq, Int.reduceNeg, Int.reduceToNat, Nat.reducePow, reduceIte, reduceCtorEq, q3', t2, wB])|((with_reducible first|refine jW ?hy ?_|refine jY ?hy ?_);case hy=>rfl)|((with_reducible first|refine jX ?hy ?_|refine jZ ?hy ?_);case hy=>rfl)|((with_reducible refine jF ?hy ?_);case hy=>decide))
  rw [vr_set] at hL4
  generalize hset H3 _ _ = H4 at hL4 f24 ⊢
  have hd4 := hd2.frame f24 nTs
  have b4 := b2.frame f24 nTb
  have hT4 : ∀ b, T3 b → b = gB ∨ H.size ≤ b := fun b hb => by
   rcases hT3 b hb with e | e
   ·exact hTB b e
   ·have := f1.size; have := f2.size; exact .inr (by omega)
  have nTs4 : ¬ T3 s := fun h => by
   rcases hT4 s h with e | e
   ·exact hs e
   ·have := hd.lt; omega
  have nTb4 : ¬ T3 H1.size := fun h => by
   rcases hT3 _ h with e | e
   ·exact nTb e
   ·omega
  have c1 := hd4.cellOf hd1
  have d2 := b4.cellOf (i := 2) rfl
  rw [hv] at d2
  have hgv : (vr n (up (fun v => natsL (besI l i v)) u (natsL (besI l i u) ++ [(i : Int)])))[v]? = some (natsL (besI l i v)) := by
   rw [vr_get hvn, up_ne _ _ (Ne.symm huv)]
  obtain ⟨g2, cc2, a2, ca2, hva2, hce2, hTg2, app2⟩ := ll_app (x := (i : Int)) (d := 1) elems32 tl3 hL4 hgv (by decide) (hbs v) rfl rfl
  rw [vr_len] at hva2
  simp only [Value.slice.injEq, Option.some.injEq, Addr.mk.injEq] at hva2
  obtain ⟨⟨rfl, _⟩, _, rfl⟩ := hva2
  have qV : Cells [(s, 1, .slice (some ⟨gB, 0, none⟩) n n), (H1.size, 2, .int .i64 (v : Nat)), (gB, v, .slice a2 (natsL (besI l i v)).length ca2)] H4 := ⟨c1, d2, hce2, trivial⟩
  repeat' (first|(with_reducible first|refine jA ?_|(refine hK _ _ ?_;clear hK K)|refine jJ fun K hK=>?_|refine jK ?_|refine jL ?_|refine jM ?_|refine jN ?_|refine jO ?_|refine jP ?_|refine jQ ?_|(refine jB ?_;clear hK K)|(refine jC ?_;clear hK K)|refine jD ?_|refine jE ?_|refine jG ?_|refine jH ?_|refine jI ?_)|((with_reducible refine jR ?hq ?_);case hq=>rfl)|((first|(with_reducible first|refine jS fun K hK=>?_|refine jT ?_|refine jU ?_)|((with_reducible refine jV ?hy fun K hK=>?_);case hy=>rfl));simp only [go_sem, Nat.reduceEqDiff, Nat.reduceAdd, Nat.reduceMul, Nat.reduceLeDiff, Nat.reduceLT, Int.reduceLT, Int.reduceLE, Int.reduceEq, Int.reduceNeg, Int.reduceToNat, Nat.reducePow, reduceIte, reduceCtorEq])|((with_reducible first|refine jW ?hy ?_|refine jY ?hy ?_);case hy=>rfl)|((with_reducible first|refine jX ?hy ?_|refine jZ ?hy ?_);case hy=>rfl)|((with_reducible refine jF ?hy ?_);case hy=>decide))
  refine x_drawS [18] [0, 1, 2, 3, 4, 5, 6, 7, 8, 9, 10, 11, 12, 13, 14, 15, 16, 17, 18] rfl (by kernel_rfl) (Cells _) qV ?_
  have qP := qV.grow ((Fr.refl (fun _ => False) H4).push (.cells #[.int .i64 (i : Nat)] 3))
  repeat' (first|(with_reducible refine xs_nil ?_)|((first|((with_reducible apply xs_rd);case hi=>rfl)|((with_reducible apply xs_guard_yes);(case hi=>rfl);(case hy=>rfl)));(case hr=>rfl);(case h1=>intro H' hS'; (try simp only [Cells, and_true] at hS');simp only [go_sem, Nat.reduceEqDiff, Nat.reduceAdd, Nat.reduceMul, Nat.reduceLeDiff, Nat.reduceLT, Int.reduceLT, Int.reduceLE, Int.reduceEq, Int.reduceNeg, Int.reduceToNat, Nat.reducePow, reduceIte, reduceCtorEq, i6, t3, qV, qP, hS']; rfl))|((with_reducible refine xs_tail ?hz ?_);case hz=>rfl)|((with_reducible refine xs_keep ?hz ?_);case hz=>first|(with_reducible assumption)|(simp only [go_sem, Nat.reduceEqDiff, Nat.reduceAdd, Nat.reduceMul, Nat.reduceLeDiff, Nat.reduceLT, Int.reduceLT, Int.reduceLE, Int.reduceEq, Int.reduceNeg, Int.reduceToNat, Nat.reducePow, reduceIte, reduceCtorEq, Cells, and_true, i6, t3, qV, qP]; done)|assumption)|((with_reducible apply xs_guard_no);(case hi=>rfl);(case hy=>rfl);(case hS=>assumption))|((first|((with_reducible apply xs_op);(case hi=>rfl))|((with_reducible apply xs_op_yes);(case hi=>rfl);(case hy=>rfl)));(case hr=>rfl);intro K hK; simp only [go_sem, Nat.reduceEqDiff, Nat.reduceAdd, Nat.reduceMul, Nat.reduceLeDiff, Nat.reduceLT, Int.reduceLT, Int.reduceLE, Int.reduceEq, Int.reduceNeg, Int.reduceToNat, Nat.reducePow, reduceIte, reduceCtorEq, i6, t3, qV, qP])|(with_reducible first|refine jA ?_|(refine hK _ _ ?_;clear hK K)|refine jJ fun K hK=>?_|refine jK ?_|refine jL ?_|refine jM ?_|refine jN ?_|refine jO ?_|refine jP ?_|refine jQ ?_|(refine jB ?_;clear hK K)|(refine jC ?_;clear hK K)|refine jD ?_|refine jE ?_|refine jG ?_|refine jH ?_|refine jI ?_)|((with_reducible refine jR ?hq ?_);case hq=>rfl)|((first|(with_reducible first|refine jS fun K hK=>?_|refine jT ?_|refine jU ?_)|((with_reducible refine jV ?hy fun K hK=>?_);case hy=>rfl));simp only [go_sem, Nat.reduceEqDiff, Nat.reduceAdd, Nat.reduceMul, Nat.reduceLeDiff, Nat.reduceLT, Int.reduceLT, Int.reduceLE, Int.reduceEq, Int.reduceNeg, Int.reduceToNat, Nat.reducePow, reduceIte, reduceCtorEq, i6, t3, qV, qP])|((with_reducible first|refine jW ?hy ?_|refine jY ?hy ?_);case hy=>rfl)|((with_reducible first|refine jX ?hy ?_|refine jZ ?hy ?_);case hy=>rfl)|((with_reducible refine jF ?hy ?_);case hy=>decide))
  refine app2 _ fun a' n' c' H5 T5 f45 wB hL6 f46 hT5 => ?_
  clear app2
  have q5' := qV.frame f45 (by
   intro y hy
   simp only [List.mem_cons, List.not_mem_nil, or_false] at hy
   rcases hy with rfl | rfl | rfl
   ·exact fun h => nTs4 h.1
   ·exact fun h => nTb4 h.1
   ·exact fun h => h.2 rfl)
  repeat' (first|(with_reducible refine xs_nil ?_)|((first|((with_reducible apply xs_rd);case hi=>rfl)|((with_reducible apply xs_guard_yes);(case hi=>rfl);(case hy=>rfl)));(case hr=>rfl);(case h1=>intro H' hS'; (try simp only [Cells, and_true] at hS');simp only [go_sem, Nat.reduceEqDiff, Nat.reduceAdd, Nat.reduceMul, Nat.reduceLeDiff, Nat.reduceLT, Int.reduceLT, Int.reduceLE, Int.reduceEq, Int.reduceNeg, Int.reduceToNat, Nat.reducePow, reduceIte, reduceCtorEq, q5', t3, wB, i44, ew, hS']; rfl))|((with_reducible refine xs_tail ?hz ?_);case hz=>rfl)|((with_reducible refine xs_keep ?hz ?_);case hz=>first|(with_reducible assumption)|(simp only [go_sem, Nat.reduceEqDiff, Nat.reduceAdd, Nat.reduceMul, Nat.reduceLeDiff, Nat.reduceLT, Int.reduceLT, Int.reduceLE, Int.reduceEq, Int.reduceNeg, Int.reduceToNat, Nat.reducePow, reduceIte, reduceCtorEq, Cells, and_true, q5', t3, wB, i44, ew]; done)|assumption)|((with_reducible apply xs_guard_no);(case hi=>rfl);(case hy=>rfl);(case hS=>assumption))|((first|((with_reducible apply xs_op);(case hi=>rfl))|((with_reducible apply xs_op_yes);(case hi=>rfl);(case hy=>rfl)));(case hr=>rfl);intro K hK; simp only [go_sem, Nat.reduceEqDiff, Nat.reduceAdd, Nat.reduceMul, Nat.reduceLeDiff, Nat.reduceLT, Int.reduceLT, Int.reduceLE, Int.reduceEq, Int.reduceNeg, Int.reduceToNat, Nat.reducePow, reduceIte, reduceCtorEq, q5', t3, wB, i44, ew])|(with_reducible first|refine jA ?_|(refine hK _ _ ?_;clear hK K)|refine jJ fun K hK=>?_|refine jK ?_|refine jL ?_|refine jM ?_|refine jN ?_|refine jO ?_|refine jP ?_|refine jQ ?_|(refine jB ?_;clear hK K)|(refine jC ?_;clear hK K)|refine jD ?_|refine jE ?_|refine jG ?_|refine jH ?_|refine jI ?_)|((with_reducible refine jR ?hq ?_);case hq=>rfl)|((first|(with_reducible first|refine jS fun K hK=>?_|refine jT ?_|refine jU ?_)|((with_reducible refine jV ?hy fun K hK=>?_);case hy=>rfl));simp only [go_sem, Nat.reduceEqDiff, Nat.reduceAdd, Nat.reduceMul, Nat.reduceLeDiff, Nat.reduceLT, Int.reduceLT, Int.reduceLE, Int.reduceEq, Int.reduceNeg, Int.reduceToNat, Nat.reducePow, reduceIte, reduceCtorEq, q5', t3, wB, i44, ew])|((with_reducible first|refine jW ?hy ?_|refine jY ?hy ?_);case hy=>rfl)|((with_reducible first|refine jX ?hy ?_|refine jZ ?hy ?_);case hy=>rfl)|((with_reducible refine jF ?hy ?_);case hy=>decide))
  rw [vr_set] at hL6
  generalize hset H5 _ _ = H6 at hL6 f46 ⊢
  have s1 := f1.size
  have s2 := f2.size
  have s4 := f24.size
  have f6 : Fr (fun b => b = gB) H H6 := ((f1.trans (f2.mono fun _ _ h => h.elim)).trans' f24 fun b hb e => (hTB b e).resolve_right (by omega)).trans' f46 fun b hb e => (hT4 b e).resolve_right (by omega)
  refine loop_normal (m' := l.length - (i + 1)) (by omega) ⟨i + 1, T5, rfl, hlt, ?_, fun b hb => ?_, f6, rfl⟩
  ·have : (vr n fun w => natsL (besI l (i + 1) w)) = vr n (up (up (fun v => natsL (besI l i v)) u (natsL (besI l i u) ++ [(i : Int)])) v (natsL (besI l i v) ++ [(i : Int)])) := vr_congr fun w hw => by
    have hin : incB l i w = decide (w = u ∨ w = v) := by
     unfold incB
     rw [hx]
     have : (x.u = (w : Int) ∨ x.v = (w : Int)) ↔ (w = u ∨ w = v) := by omega
     simp only [this]
    rw [besI_succ, hin]
    by_cases ev : w = v
    ·subst ev; rw [up_same]; simp [natsL]
    ·rw [up_ne _ _ ev]
     by_cases eu : w = u
     ·subst eu; rw [up_same]; simp [natsL]
     ·rw [up_ne _ _ eu]; simp [eu, ev]
   rw [this]; exact hL6
  ·rcases hT5 b hb with e | e
   ·exact hT4 b e
   ·exact .inr (by omega)
 ·have t1 : ((i : Int) < (l.length : Int)) = False := eq_false (by omega)
  have t1' : (i < l.length) = False := eq_false hlt
  obtain rfl : i = l.length := by omega
  repeat' (first|(with_reducible first|refine jA ?_|(refine hK _ _ ?_;clear hK K)|refine jJ fun K hK=>?_|refine jK ?_|refine jL ?_|refine jM ?_|refine jN ?_|refine jO ?_|refine jP ?_|refine jQ ?_|(refine jB ?_;clear hK K)|(refine jC ?_;clear hK K)|refine jD ?_|refine jE ?_|refine jG ?_|refine jH ?_|refine jI ?_)|((with_reducible refine jR ?hq ?_);case hq=>rfl)|((first|(with_reducible first|refine jS fun K hK=>?_|refine jT ?_|refine jU ?_)|((with_reducible refine jV ?hy fun K hK=>?_);case hy=>rfl));simp only [go_sem, Nat.reduceEqDiff, Nat.reduceAdd, Nat.reduceMul, Nat.reduceLeDiff, Nat.reduceLT, Int.reduceLT, Int.reduceLE, Int.reduceEq, Int.reduceNeg, Int.reduceToNat, Nat.reducePow, reduceIte, reduceCtorEq, i43, i44, t1, t1'])|((with_reducible first|refine jW ?hy ?_|refine jY ?hy ?_);case hy=>rfl)|((with_reducible first|refine jX ?hy ?_|refine jZ ?hy ?_);case hy=>rfl)|((with_reducible refine jF ?hy ?_);case hy=>decide))
  exact hQ _ _ _ i0 i1 i6 hL1 hTB f1
end
end Go.Proofs.Ytpeaogldojepnaa
namespace Go.Br
open Go Go.Hp Go.Li
def idsB (l : List Ed) (br : Nat → Bool) (k : Nat) : List Int := ((List.range k).filter br).filterMap fun j => (l[j]?).map (·.id)
theorem idsB_succ {l : List Ed} {br : Nat → Bool} {k : Nat} {x : Ed} (hx : l[k]? = some x) : idsB l br (k + 1) = idsB l br k ++ (if br k then [x.id] else []) := by
 unfold idsB
 rw [List.range_succ, List.filter_append, List.filterMap_append]
 congr 1
 by_cases h : br k = true
 ·simp [h, hx]
 ·simp [h]
theorem idsB_len (l : List Ed) (br : Nat → Bool) (k : Nat) : (idsB l br k).length ≤ k := by
 unfold idsB
 refine Nat.le_trans (List.length_filterMap_le ..) (Nat.le_trans (List.length_filter_le ..) ?_)
 simp
structure IsBr (l : List Ed) (ids : List Int) : Prop where
 srt : ids.Pairwise (· < ·)
 mem : ∀ i, i ∈ ids ↔ ∃ k x, l[k]? = some x ∧ x.id = i ∧ Bridge l k
theorem idsB_mem {l : List Ed} {br : Nat → Bool} {i : Int} : i ∈ idsB l br l.length ↔ ∃ k x, l[k]? = some x ∧ x.id = i ∧ br k = true := by
 unfold idsB
 rw [List.mem_filterMap]
 constructor
 ·rintro ⟨j, hj, h⟩
  obtain ⟨x, hx, rfl⟩ := Option.map_eq_some_iff.1 h
  exact ⟨j, x, hx, rfl, (List.mem_filter.1 hj).2⟩
 ·rintro ⟨k, x, hx, rfl, hb⟩
  exact ⟨k, List.mem_filter.2 ⟨List.mem_range.2 (List.getElem?_eq_some_iff.1 hx).1, hb⟩, by rw [hx]; rfl⟩
theorem idsB_nodup {l : List Ed} {br : Nat → Bool} (hn : (l.map (·.id)).Nodup) : ∀ k, k ≤ l.length → (idsB l br k).Nodup ∧ ∀ i ∈ idsB l br k, ∃ j x, j < k ∧ l[j]? = some x ∧ x.id = i
 | 0, _ => ⟨by simp [idsB], fun i hi => by simp [idsB] at hi⟩
 | k + 1, hk => by
  obtain ⟨h1, h2⟩ := idsB_nodup hn k (by omega)
  obtain ⟨x, hx⟩ : ∃ x, l[k]? = some x := ⟨_, List.getElem?_eq_getElem (by omega)⟩
  rw [idsB_succ hx]
  refine ⟨?_, fun i hi => ?_⟩
  ·rw [List.nodup_append]
   refine ⟨h1, by split <;> simp, fun a ha b hb e => ?_⟩
   by_cases hbk : br k = true
   ·rw [if_pos hbk, List.mem_singleton] at hb
    obtain ⟨j, y, hj, hy, hya⟩ := h2 a ha
    rw [List.nodup_iff_pairwise_ne, List.pairwise_iff_getElem] at hn
    have := hn j k (by simp; omega) (by simp; omega) hj
    rw [List.getElem_map, List.getElem_map, (List.getElem?_eq_some_iff.1 hx).2, (List.getElem?_eq_some_iff.1 hy).2] at this
    exact this (by rw [hya, e, hb])
   ·rw [if_neg hbk] at hb; cases hb
  ·rcases List.mem_append.1 hi with hi | hi
   ·obtain ⟨j, y, hj, hy, hya⟩ := h2 i hi
    exact ⟨j, y, by omega, hy, hya⟩
   ·by_cases hbk : br k = true
    ·rw [if_pos hbk, List.mem_singleton] at hi
     exact ⟨k, x, by omega, hx, hi.symm⟩
    ·rw [if_neg hbk] at hi; cases hi
theorem isBr_sort {l : List Ed} {br : Nat → Bool} (hn : (l.map (·.id)).Nodup) (hb : ∀ k, br k = true ↔ Bridge l k) : IsBr l ((idsB l br l.length).mergeSort fun x y => decide (x ≤ y)) := by
 have hp := List.mergeSort_perm (idsB l br l.length) (fun x y => decide (x ≤ y))
 have hs := List.pairwise_mergeSort (le := fun (x y : Int) => decide (x ≤ y)) (by intro a b c h1 h2; simp at *; omega) (by intro a b; simp; omega) (idsB l br l.length)
 have hnd : ((idsB l br l.length).mergeSort fun x y => decide (x ≤ y)).Nodup := hp.nodup_iff.2 (idsB_nodup hn _ (Nat.le_refl _)).1
 refine ⟨?_, fun i => ?_⟩
 ·have h2 := hs.and (List.nodup_iff_pairwise_ne.1 hnd)
  refine h2.imp fun {a b} ⟨h3, h4⟩ => ?_
  have : a ≤ b := by simpa using h3
  omega
 ·rw [hp.mem_iff, idsB_mem]
  constructor
  ·rintro ⟨k, x, h1, h2, h3⟩; exact ⟨k, x, h1, h2, (hb k).1 h3⟩
  ·rintro ⟨k, x, h1, h2, h3⟩; exact ⟨k, x, h1, h2, (hb k).2 h3⟩
theorem gok_of {l : List Ed} {n : Nat} (h : May n l) : Gok l n (besI l l.length) where
 ends k x y hi := by
  obtain ⟨e, he, h2⟩ := hi
  have := h.1 e (List.mem_of_getElem? he)
  unfold okEd at this
  rw [decide_eq_true_iff] at this
  omega
 bes v k := by
  unfold besI
  rw [List.mem_filter, List.mem_range]
  constructor
  ·rintro ⟨hk, hb⟩
   obtain ⟨e, he⟩ : ∃ e, l[k]? = some e := ⟨_, List.getElem?_eq_getElem hk⟩
   have := h.1 e (List.mem_of_getElem? he)
   unfold okEd at this
   rw [decide_eq_true_iff] at this
   unfold incB at hb
   rw [he] at hb
   have hb : e.u = (v : Int) ∨ e.v = (v : Int) := by simpa using hb
   rcases hb with hb | hb
   ·exact ⟨e.v.toNat, e, he, .inl ⟨hb, by omega⟩⟩
   ·exact ⟨e.u.toNat, e, he, .inr ⟨by omega, hb⟩⟩
  ·rintro ⟨y, e, he, h2⟩
   refine ⟨(List.getElem?_eq_some_iff.1 he).1, ?_⟩
   unfold incB
   rw [he]
   simp
   omega
theorem ends_of {l : List Ed} {n : Nat} (h : May n l) : Ends l n := ⟨(gok_of h).ends⟩
end Go.Br
namespace Go.Proofs.Ytpeaogldojepnaa
open Go Go.Hp Go.Li Go.Br
set_option linter.all false
set_option maxRecDepth 100000
set_option maxHeartbeats 3200000
section
variable {H H' : Heap} {e : Env} {Z : HX → Env → Heap → Prop} {s gi gw gr : Nat} {vl vb : Value} {Bl : Option Nat} {TB : Nat → Prop} {col : Nat → Nat} {l : List Ed} {n : Nat} {bes : Nat → List Nat} {inn low : Nat → Nat} {c : Nat} {br : Nat → Bool} {T : Nat → Prop}
theorem ofB (g : Gok l n bes) (hn : n ≤ 64) (hll : l.length ≤ 192) (hdg : ∀ v, v < n → (bes v).length ≤ 100000) (h : SeAt H s gi gw gr vl vb Bl TB col l n bes (fun _ => 0) (fun _ => 0) 0 (fun _ => false))
  (e1 : e 1 = vl) (e6 : e 6 = .pointer (some ⟨s, 0, none⟩)) (e86 : e 86 = .int .i64 (n : Nat)) (e87 : e 87 = .int .i64 0)
  (hQ : ∀ e' H' inn low c br T, e' 1 = vl → e' 6 = .pointer (some ⟨s, 0, none⟩) → SeAt H' s gi gw gr vl vb Bl TB col l n bes inn low c br → Inv l n bes [] inn low c br T → (∀ v, v < n → 0 < inn v) → Fr (Wr col) H H' → Z .normal e' H') :
  codeX Try.prog [23] (loopAt Try.f11.body 1) (blockQ 3 Z) e H := by
 have hund : und n (fun _ => 0) ≤ n := by unfold und; exact Nat.le_trans (List.length_filter_le ..) (by simp)
 refine x_loop (fun m e' H' => ∃ (i : Nat) (inn low : Nat → Nat) (c : Nat) (br : Nat → Bool) (T : Nat → Prop), e' 87 = .int .i64 (i : Nat) ∧ i ≤ n ∧ SeAt H' s gi gw gr vl vb Bl TB col l n bes inn low c br ∧ Inv l n bes [] inn low c br T ∧ (∀ v, v < i → 0 < inn v) ∧ c + und n inn ≤ 900 ∧ Fr (Wr col) H H' ∧ m = n - i) n
  ⟨0, _, _, _, _, _, e87, Nat.zero_le _, h, Inv.init l n bes, fun v hv => absurd hv (Nat.not_lt_zero _), by omega, Fr.refl _ _, rfl⟩ ?_
 rintro m e2 H1 ⟨i, inn1, low1, c1, br1, T1, i87, hi, h1, hI1, hall, hc1, f1, hm⟩ hoff
 have i1 := (hoff 1 rfl).trans e1
 have i6 := (hoff 6 rfl).trans e6
 have i86 := (hoff 86 rfl).trans e86
 clear hoff e1 e6 e86 e87
 by_cases hlt : i < n
 ·have t1 : ((i : Int) < (n : Int)) = True := eq_true (by omega)
  have t1' : (i < n) = True := eq_true hlt
  have ew : IntKind.i64.wrap ((i : Int) + 1) = ((i + 1 : Nat) : Int) := by rw [wrap_i64] <;> omega
  have c2 := h1.hd.cellOf (i := 2) rfl
  have ic := h1.ic hlt
  by_cases h0 : inn1 i = 0
  ·have t2 : (((inn1 i : Nat) : Int) == 0) = true := by rw [h0]; rfl
   repeat' (first|(with_reducible first|refine jA ?_|(refine hK _ _ ?_;clear hK K)|refine jJ fun K hK=>?_|refine jK ?_|refine jL ?_|refine jM ?_|refine jN ?_|refine jO ?_|refine jP ?_|refine jQ ?_|(refine jB ?_;clear hK K)|(refine jC ?_;clear hK K)|refine jD ?_|refine jE ?_|refine jG ?_|refine jH ?_|refine jI ?_)|((with_reducible refine jR ?hq ?_);case hq=>rfl)|((first|(with_reducible first|refine jS fun K hK=>?_|refine jT ?_|refine jU ?_)|((with_reducible refine jV ?hy fun K hK=>?_);case hy=>rfl));simp only [go_sem, Nat.reduceEqDiff, Nat.reduceAdd, Nat.reduceMul, Nat.reduceLeDiff, Nat.reduceLT, Int.reduceLT, Int.reduceLE, Int.reduceEq, Int.reduceNeg, Int.reduceToNat, Nat.reducePow, reduceIte, reduceCtorEq, i6, i86, i87, t1, t1', c2, ic, t2])|((with_reducible first|refine jW ?hy ?_|refine jY ?hy ?_);case hy=>rfl)|((with_reducible first|refine jX ?hy ?_|refine jZ ?hy ?_);case hy=>rfl)|((with_reducible refine jF ?hy ?_);case hy=>decide))
   refine walk_ok g hn hll hdg h1 hI1 hlt h0 hc1 fun H2 inn2 low2 c2 br2 T2 h2 hI2 hm2 hv2 hc2 f2 => ?_
   repeat' (first|(with_reducible first|refine jA ?_|(refine hK _ _ ?_;clear hK K)|refine jJ fun K hK=>?_|refine jK ?_|refine jL ?_|refine jM ?_|refine jN ?_|refine jO ?_|refine jP ?_|refine jQ ?_|(refine jB ?_;clear hK K)|(refine jC ?_;clear hK K)|refine jD ?_|refine jE ?_|refine jG ?_|refine jH ?_|refine jI ?_)|((with_reducible refine jR ?hq ?_);case hq=>rfl)|((first|(with_reducible first|refine jS fun K hK=>?_|refine jT ?_|refine jU ?_)|((with_reducible refine jV ?hy fun K hK=>?_);case hy=>rfl));simp only [go_sem, Nat.reduceEqDiff, Nat.reduceAdd, Nat.reduceMul, Nat.reduceLeDiff, Nat.reduceLT, Int.reduceLT, Int.reduceLE, Int.reduceEq, Int.reduceNeg, Int.reduceToNat, Nat.reducePow, reduceIte, reduceCtorEq, i87, ew])|((with_reducible first|refine jW ?hy ?_|refine jY ?hy ?_);case hy=>rfl)|((with_reducible first|refine jX ?hy ?_|refine jZ ?hy ?_);case hy=>rfl)|((with_reducible refine jF ?hy ?_);case hy=>decide))
   exact loop_normal (m' := n - (i + 1)) (by omega) ⟨i + 1, inn2, low2, c2, br2, T2, rfl, hlt, h2, hI2, fun v hv => by
    by_cases ev : v = i
    ·rw [ev]; exact hv2
    ·exact hm2 v (hall v (by omega)), hc2, f1.trans f2, rfl⟩
  ·have t2 : (((inn1 i : Nat) : Int) == 0) = false := beq_false_of_ne (by omega)
   repeat' (first|(with_reducible first|refine jA ?_|(refine hK _ _ ?_;clear hK K)|refine jJ fun K hK=>?_|refine jK ?_|refine jL ?_|refine jM ?_|refine jN ?_|refine jO ?_|refine jP ?_|refine jQ ?_|(refine jB ?_;clear hK K)|(refine jC ?_;clear hK K)|refine jD ?_|refine jE ?_|refine jG ?_|refine jH ?_|refine jI ?_)|((with_reducible refine jR ?hq ?_);case hq=>rfl)|((first|(with_reducible first|refine jS fun K hK=>?_|refine jT ?_|refine jU ?_)|((with_reducible refine jV ?hy fun K hK=>?_);case hy=>rfl));simp only [go_sem, Nat.reduceEqDiff, Nat.reduceAdd, Nat.reduceMul, Nat.reduceLeDiff, Nat.reduceLT, Int.reduceLT, Int.reduceLE, Int.reduceEq, Int.reduceNeg, Int.reduceToNat, Nat.reducePow, reduceIte, reduceCtorEq, i6, i86, i87, t1, t1', c2, ic, t2, ew])|((with_reducible first|refine jW ?hy ?_|refine jY ?hy ?_);case hy=>rfl)|((with_reducible first|refine jX ?hy ?_|refine jZ ?hy ?_);case hy=>rfl)|((with_reducible refine jF ?hy ?_);case hy=>decide))
   exact loop_normal (m' := n - (i + 1)) (by omega) ⟨i + 1, inn1, low1, c1, br1, T1, rfl, hlt, h1, hI1, fun v hv => by
    by_cases ev : v = i
    ·rw [ev]; omega
    ·exact hall v (by omega), hc1, f1, rfl⟩
 ·have t1 : ((i : Int) < (n : Int)) = False := eq_false (by omega)
  have t1' : (i < n) = False := eq_false hlt
  repeat' (first|(with_reducible first|refine jA ?_|(refine hK _ _ ?_;clear hK K)|refine jJ fun K hK=>?_|refine jK ?_|refine jL ?_|refine jM ?_|refine jN ?_|refine jO ?_|refine jP ?_|refine jQ ?_|(refine jB ?_;clear hK K)|(refine jC ?_;clear hK K)|refine jD ?_|refine jE ?_|refine jG ?_|refine jH ?_|refine jI ?_)|((with_reducible refine jR ?hq ?_);case hq=>rfl)|((first|(with_reducible first|refine jS fun K hK=>?_|refine jT ?_|refine jU ?_)|((with_reducible refine jV ?hy fun K hK=>?_);case hy=>rfl));simp only [go_sem, Nat.reduceEqDiff, Nat.reduceAdd, Nat.reduceMul, Nat.reduceLeDiff, Nat.reduceLT, Int.reduceLT, Int.reduceLE, Int.reduceEq, Int.reduceNeg, Int.reduceToNat, Nat.reducePow, reduceIte, reduceCtorEq, i86, i87, t1, t1'])|((with_reducible first|refine jW ?hy ?_|refine jY ?hy ?_);case hy=>rfl)|((with_reducible first|refine jX ?hy ?_|refine jZ ?hy ?_);case hy=>rfl)|((with_reducible refine jF ?hy ?_);case hy=>decide))
  exact hQ _ _ _ _ _ _ _ i1 i6 h1 hI1 (fun v hv => hall v (by omega)) f1
theorem ofC {o : Nat} {vk : Value} (hl : SR Ed.cells 4 H Bl vl l) (hlen : l.length ≤ 192) (hr : BR H (some gr) (.slice (some ⟨gr, 0, none⟩) l.length l.length) (vr l.length br)) (hd : Blk H o [.slice none 0 0, vk]) (hro : gr ≠ o) (hBo : ∀ b, Bl = some b → b ≠ o)
  (e1 : e 1 = vl) (e10 : e 10 = .pointer (some ⟨o, 0, none⟩)) (e109 : e 109 = .slice (some ⟨gr, 0, none⟩) l.length l.length) (e110 : e 110 = .int .i64 (l.length : Nat)) (e111 : e 111 = .int .i64 0)
  (hQ : ∀ e' H' Bb vb, e' 10 = .pointer (some ⟨o, 0, none⟩) → Blk H' o [vb, vk] → IR H' Bb vb (idsB l br l.length) → (∀ b, Bb = some b → H.size ≤ b) → Fr (· = o) H H' → Z .normal e' H') :
  codeX Try.prog [23] (loopAt Try.f11.body 2) (blockQ 5 Z) e H := by
 refine x_loop (fun m e' H' => ∃ (i : Nat) (Bb : Option Nat) (vb : Value), e' 111 = .int .i64 (i : Nat) ∧ i ≤ l.length ∧ Blk H' o [vb, vk] ∧ IR H' Bb vb (idsB l br i) ∧ (∀ b, Bb = some b → H.size ≤ b) ∧ Fr (· = o) H H' ∧ m = l.length - i) l.length
  ⟨0, none, _, e111, Nat.zero_le _, hd, by simpa [idsB] using IR.nil H, nofun, Fr.refl _ _, rfl⟩ ?_
 rintro m e2 H1 ⟨i, Bb, vb, i111, hi, hd1, hi1, hBb, f1, hm⟩ hoff
 have i1 := (hoff 1 rfl).trans e1
 have i10 := (hoff 10 rfl).trans e10
 have i109 := (hoff 109 rfl).trans e109
 have i110 := (hoff 110 rfl).trans e110
 clear hoff e1 e10 e109 e110 e111
 obtain ⟨sb, cb, rfl⟩ := hi1.slice
 by_cases hlt : i < l.length
 ·have t1 : ((i : Int) < (l.length : Int)) = True := eq_true (by omega)
  have t1' : (i < l.length) = True := eq_true hlt
  have ew : IntKind.i64.wrap ((i : Int) + 1) = ((i + 1 : Nat) : Int) := by rw [wrap_i64] <;> omega
  obtain ⟨x, hx⟩ : ∃ x, l[i]? = some x := ⟨_, List.getElem?_eq_getElem hlt⟩
  have rc := (hr.frame f1 fun b hb => by rw [← Option.some.inj hb]; exact hro).cell (vr_get (f := br) hlt)
  obtain ⟨gl, cl', hB, hvl, _, hc⟩ := (hl.frame f1 hBo).at edC_len hx
  rw [hvl] at i1
  have q0 := hc 0 _ rfl
  rw [Nat.add_zero] at q0
  have c0 := hd1.cellOf (i := 0) rfl
  cases hb : br i with
  | true =>
   rw [hb] at rc
   have hil := idsB_len l br i
   have hbs : 2 * ((idsB l br i).length + 1) * 8 ≤ 2 ^ 48 := by omega
   repeat' (first|(with_reducible first|refine jA ?_|(refine hK _ _ ?_;clear hK K)|refine jJ fun K hK=>?_|refine jK ?_|refine jL ?_|refine jM ?_|refine jN ?_|refine jO ?_|refine jP ?_|refine jQ ?_|(refine jB ?_;clear hK K)|(refine jC ?_;clear hK K)|refine jD ?_|refine jE ?_|refine jG ?_|refine jH ?_|refine jI ?_)|((with_reducible refine jR ?hq ?_);case hq=>rfl)|((first|(with_reducible first|refine jS fun K hK=>?_|refine jT ?_|refine jU ?_)|((with_reducible refine jV ?hy fun K hK=>?_);case hy=>rfl));simp only [go_sem, Nat.reduceEqDiff, Nat.reduceAdd, Nat.reduceMul, Nat.reduceLeDiff, Nat.reduceLT, Int.reduceLT, Int.reduceLE, Int.reduceEq, Int.reduceNeg, Int.reduceToNat, Nat.reducePow, reduceIte, reduceCtorEq, i1, i10, i109, i110, i111, t1, t1', rc, q0, c0])|((with_reducible first|refine jW ?hy ?_|refine jY ?hy ?_);case hy=>rfl)|((with_reducible first|refine jX ?hy ?_|refine jZ ?hy ?_);case hy=>rfl)|((with_reducible refine jF ?hy ?_);case hy=>decide))
   refine append_ir elems32 tl3 hi1 rfl (by decide) hbs rfl ?_
   intro v' H2 B' hi2 f2 hB2
   have no : ¬ Bb = some o := fun e => by have := hBb o e; have := hd.lt; omega
   have hd2 := hd1.frame f2 no
   have w0 := hd2.okW (i := 0) (by simp)
   have hd3 := hd2.set_same 0 v'
   have f23 : Fr (· = o) H2 (hset H2 ⟨o, 0, none⟩ v') := Fr.set (S := (· = o)) (Fr.refl _ _) (.inl rfl) _
   have hB3 : ∀ b, B' = some b → H.size ≤ b := fun b hb => by
    rcases hB2 with e | ⟨gq, e1, e2⟩
    ·exact hBb b (by rw [← e]; exact hb)
    ·rw [e1] at hb
     obtain rfl := Option.some.inj hb
     have := f1.size; omega
   obtain ⟨s2, c2, rfl⟩ := hi2.slice
   repeat' (first|(with_reducible first|refine jA ?_|(refine hK _ _ ?_;clear hK K)|refine jJ fun K hK=>?_|refine jK ?_|refine jL ?_|refine jM ?_|refine jN ?_|refine jO ?_|refine jP ?_|refine jQ ?_|(refine jB ?_;clear hK K)|(refine jC ?_;clear hK K)|refine jD ?_|refine jE ?_|refine jG ?_|refine jH ?_|refine jI ?_)|((with_reducible refine jR ?hq ?_);case hq=>rfl)|((first|(with_reducible first|refine jS fun K hK=>?_|refine jT ?_|refine jU ?_)|((with_reducible refine jV ?hy fun K hK=>?_);case hy=>rfl));simp only [go_sem, Nat.reduceEqDiff, Nat.reduceAdd, Nat.reduceMul, Nat.reduceLeDiff, Nat.reduceLT, Int.reduceLT, Int.reduceLE, Int.reduceEq, Int.reduceNeg, Int.reduceToNat, Nat.reducePow, reduceIte, reduceCtorEq, i10, i111, w0, ew])|((with_reducible first|refine jW ?hy ?_|refine jY ?hy ?_);case hy=>rfl)|((with_reducible first|refine jX ?hy ?_|refine jZ ?hy ?_);case hy=>rfl)|((with_reducible refine jF ?hy ?_);case hy=>decide))
   refine loop_normal (m' := l.length - (i + 1)) (by omega) ⟨i + 1, B', _, rfl, hlt, hd3, ?_, hB3, (f1.trans' f2 fun b hb e => by have := hBb b e; omega).trans f23, rfl⟩
   rw [idsB_succ hx, if_pos hb]
   exact hi2.frame f23 fun b hb e => by have := hB3 b hb; have := hd.lt; omega
  | false =>
   rw [hb] at rc
   repeat' (first|(with_reducible first|refine jA ?_|(refine hK _ _ ?_;clear hK K)|refine jJ fun K hK=>?_|refine jK ?_|refine jL ?_|refine jM ?_|refine jN ?_|refine jO ?_|refine jP ?_|refine jQ ?_|(refine jB ?_;clear hK K)|(refine jC ?_;clear hK K)|refine jD ?_|refine jE ?_|refine jG ?_|refine jH ?_|refine jI ?_)|((with_reducible refine jR ?hq ?_);case hq=>rfl)|((first|(with_reducible first|refine jS fun K hK=>?_|refine jT ?_|refine jU ?_)|((with_reducible refine jV ?hy fun K hK=>?_);case hy=>rfl));simp only [go_sem, Nat.reduceEqDiff, Nat.reduceAdd, Nat.reduceMul, Nat.reduceLeDiff, Nat.reduceLT, Int.reduceLT, Int.reduceLE, Int.reduceEq, Int.reduceNeg, Int.reduceToNat, Nat.reducePow, reduceIte, reduceCtorEq, i109, i110, i111, t1, t1', rc, ew])|((with_reducible first|refine jW ?hy ?_|refine jY ?hy ?_);case hy=>rfl)|((with_reducible first|refine jX ?hy ?_|refine jZ ?hy ?_);case hy=>rfl)|((with_reducible refine jF ?hy ?_);case hy=>decide))
   exact loop_normal (m' := l.length - (i + 1)) (by omega) ⟨i + 1, Bb, _, rfl, hlt, hd1, by rw [idsB_succ hx, hb]; simpa using hi1, hBb, f1, rfl⟩
 ·have t1 : ((i : Int) < (l.length : Int)) = False := eq_false (by omega)
  have t1' : (i < l.length) = False := eq_false hlt
  obtain rfl : i = l.length := by omega
  repeat' (first|(with_reducible first|refine jA ?_|(refine hK _ _ ?_;clear hK K)|refine jJ fun K hK=>?_|refine jK ?_|refine jL ?_|refine jM ?_|refine jN ?_|refine jO ?_|refine jP ?_|refine jQ ?_|(refine jB ?_;clear hK K)|(refine jC ?_;clear hK K)|refine jD ?_|refine jE ?_|refine jG ?_|refine jH ?_|refine jI ?_)|((with_reducible refine jR ?hq ?_);case hq=>rfl)|((first|(with_reducible first|refine jS fun K hK=>?_|refine jT ?_|refine jU ?_)|((with_reducible refine jV ?hy fun K hK=>?_);case hy=>rfl));simp only [go_sem, Nat.reduceEqDiff, Nat.reduceAdd, Nat.reduceMul, Nat.reduceLeDiff, Nat.reduceLT, Int.reduceLT, Int.reduceLE, Int.reduceEq, Int.reduceNeg, Int.reduceToNat, Nat.reducePow, reduceIte, reduceCtorEq, i110, i111, t1, t1'])|((with_reducible first|refine jW ?hy ?_|refine jY ?hy ?_);case hy=>rfl)|((with_reducible first|refine jX ?hy ?_|refine jZ ?hy ?_);case hy=>rfl)|((with_reducible refine jF ?hy ?_);case hy=>decide))
  exact hQ _ _ _ _ i10 hd1 hi1 hBb f1
end
end Go.Proofs.Ytpeaogldojepnaa
namespace Go.Proofs
open Go.Shelf
def Try.lays189_ren : Go.Shelf.Ren := ⟨fun | 189 => 26 | 125 => 37 | 257 => 36 | 128 => 48 | 129 => 49 | 294 => 39 | 295 => 40 | 296 => 41 | 297 => 42 | 298 => 43 | 299 => 44 | 216 => 45 | 300 => 46 | 301 => 47 | 328 => 50 | 329 => 51 | 330 => 52 | 331 => 53 | 332 => 54 | 215 => 55 | 343 => 56 | n => n, fun | 28 => 32 | 3 => 3 | 46 => 79 | 0 => 0 | 51 => 89 | 53 => 91 | 4 => 4 | 183 => 82 | 182 => 81 | 131 => 71 | 5 => 5 | 9 => 9 | 218 => 92 | 222 => 96 | 228 => 98 | 229 => 99 | n => n, fun | n => n⟩
theorem Try.lays189 : Go.Proofs.Lays.n189 Try.prog Try.lays189_ren := {
 mixed := by kernel_rfl
 f125 := Try.func37.trans (congrArg some (by kernel_rfl))
 f128 := Try.func48.trans (congrArg some (by kernel_rfl))
 f129 := Try.func49.trans (congrArg some (by kernel_rfl))
 f189 := Try.func26.trans (congrArg some (by kernel_rfl))
 f215 := Try.func55.trans (congrArg some (by kernel_rfl))
 f216 := Try.func45.trans (congrArg some (by kernel_rfl))
 f257 := Try.func36.trans (congrArg some (by kernel_rfl))
 f294 := Try.func39.trans (congrArg some (by kernel_rfl))
 f295 := Try.func40.trans (congrArg some (by kernel_rfl))
 f296 := Try.func41.trans (congrArg some (by kernel_rfl))
 f297 := Try.func42.trans (congrArg some (by kernel_rfl))
 f298 := Try.func43.trans (congrArg some (by kernel_rfl))
 f299 := Try.func44.trans (congrArg some (by kernel_rfl))
 f300 := Try.func46.trans (congrArg some (by kernel_rfl))
 f301 := Try.func47.trans (congrArg some (by kernel_rfl))
 f328 := Try.func50.trans (congrArg some (by kernel_rfl))
 f329 := Try.func51.trans (congrArg some (by kernel_rfl))
 f330 := Try.func52.trans (congrArg some (by kernel_rfl))
 f331 := Try.func53.trans (congrArg some (by kernel_rfl))
 f332 := Try.func54.trans (congrArg some (by kernel_rfl))
 f343 := Try.func56.trans (congrArg some (by kernel_rfl))
 t0 := Try.underlying0
 a0 := Try.isAgg0
 z0 := Try.sizeOf0
 v0 := Try.zeroValue0
 t3 := Try.underlying3
 a3 := Try.isAgg3
 z3 := Try.sizeOf3
 v3 := Try.zeroValue3
 t4 := Try.underlying4
 a4 := Try.isAgg4
 z4 := Try.sizeOf4
 v4 := Try.zeroValue4
 t5 := Try.underlying5
 a5 := Try.isAgg5
 z5 := Try.sizeOf5
 v5 := Try.zeroValue5
 t9 := Try.underlying9
 a9 := Try.isAgg9
 z9 := Try.sizeOf9
 v9 := Try.zeroValue9
 t28 := Try.underlying32
 a28 := Try.isAgg32
 z28 := Try.sizeOf32
 v28 := Try.zeroValue32
 t46 := Try.underlying79
 a46 := Try.isAgg79
 z46 := Try.sizeOf79
 v46 := Try.zeroValue79
 t51 := Try.underlying89
 a51 := Try.isAgg89
 z51 := Try.sizeOf89
 v51 := Try.zeroValue89
 t53 := Try.underlying91
 a53 := Try.isAgg91
 z53 := Try.sizeOf91
 v53 := Try.zeroValue91
 t131 := Try.underlying71
 a131 := Try.isAgg71
 z131 := Try.sizeOf71
 v131 := Try.zeroValue71
 t182 := Try.underlying81
 a182 := Try.isAgg81
 z182 := Try.sizeOf81
 v182 := Try.zeroValue81
 t183 := Try.underlying82
 a183 := Try.isAgg82
 z183 := Try.sizeOf82
 v183 := Try.zeroValue82
 t218 := Try.underlying92
 a218 := Try.isAgg92
 z218 := Try.sizeOf92
 v218 := Try.zeroValue92
 t222 := Try.underlying96
 a222 := Try.isAgg96
 z222 := Try.sizeOf96
 v222 := Try.zeroValue96
 t228 := Try.underlying98
 a228 := Try.isAgg98
 z228 := Try.sizeOf98
 v228 := Try.zeroValue98
 t229 := Try.underlying99
 a229 := Try.isAgg99
 z229 := Try.sizeOf99
 v229 := Try.zeroValue99 }
end Go.Proofs
namespace Go.Proofs.Ytpeaogldojepnaa
open Go Go.Hp Go.Li Go.Br Go.Sort
set_option linter.all false
set_option maxRecDepth 100000
set_option maxHeartbeats 1600000
section
variable {H H' : Heap} {L : Value → Heap → Prop} {B : Option Nat} {v : Value} {xs : List Int}
theorem holds_of {w : World} (hw : w.heap = H) {g c : Nat} (h : IR H (some g) (.slice (some ⟨g, 0, none⟩) xs.length c) xs) : Holds (Value.int .i64) w g 0 xs.toArray := by
 intro j hj
 have hj' : j < xs.length := by simpa using hj
 have e : xs.toArray[j]! = xs[j] := by simp [hj']
 refine ⟨?_, ?_⟩
 ·rw [cell_eq, hw, Nat.zero_add, e]
  exact h.cell (List.getElem?_eq_getElem hj')
 ·rw [frozen_eq, hw, Nat.zero_add]
  exact (h.write hj' 0).1.2
theorem sort_ok (h : IR H B v xs) (hlen : xs.length ≤ 1000) (fin : ∀ H', IR H' B v (xs.mergeSort fun x y => decide (x ≤ y)) → Fr (fun b => B = some b) H H' → L (.tuple #[]) H') :
  CallsH Try.prog 26 #[v] H L := by
 refine ⟨by kernel_rfl, fun w hw => ?_⟩
 obtain ⟨h0, ⟨rfl, rfl, hz⟩ | ⟨g, c, rest, rfl, rfl, hb, hl, hc⟩⟩ := id h
 ·have hx : xs = [] := List.length_eq_zero_iff.1 hz
  subst hx
  refine (Any.slices_Sort_int_none Try.lays189 none 0 w).mono ?_
  rintro e w' ⟨rfl, rfl⟩
  refine ⟨_, rfl, ?_, .refl _⟩
  rw [hw]
  exact fin _ (by simpa using h) (Fr.refl _ _)
 ·have hH : Holds (Value.int .i64) w g 0 xs.toArray := holds_of hw h
  have hg : g < w.heap.size := by rw [hw]; exact hb.lt
  refine (calls_of_every_depth fun D => AnyS.slices_Sort_int_in Try.lays189 D g 0 c xs w hH hg (by omega)).mono ?_
  rintro e w' ⟨rfl, k, os, rfl⟩
  refine ⟨_, rfl, fin _ ?_ ?_, ⟨rfl, rfl, rfl⟩⟩
  ·obtain ⟨T, hT⟩ := hb
   rw [← hw] at hT
   have hp := heap_sortedI (n := k) (os := os) ((xs.mergeSort fun x y => decide (x ≤ y)).toArray) hT
   have hs : (xs.mergeSort fun x y => decide (x ≤ y)).length = xs.length := List.length_mergeSort xs
   refine ⟨by simp, .inr ⟨g, c, rest, rfl, by rw [hs], ⟨T, ?_⟩, by simp [hs] at hl ⊢; omega, by rw [hs]; exact hc⟩⟩
   rw [hp]
   congr 2
   apply Array.ext'
   apply List.ext_getElem?
   intro j
   generalize hys : (xs.mergeSort fun x y => decide (x ≤ y)) = ys at hs ⊢
   unfold putCells
   by_cases hj : j < xs.length
   ·have hj2 : j < ys.length := by omega
    simp [hj, hj2, hs, List.getElem?_append_left]
   ·have hj2 : ¬ j < ys.length := by omega
    by_cases hj3 : j < xs.length + rest.length
    ·simp [hj, hj2, hs, hj3]
     rw [List.getElem_append_right (by simp; omega), List.getElem_append_right (by simp; omega)]
     simp [hs]
    ·rw [List.getElem?_eq_none (by simp; omega), List.getElem?_eq_none (by simp; omega)]
  ·have h1 := grownBy_sortedI (w := w) (g := g) (n := k) (os := os) ((xs.mergeSort fun x y => decide (x ≤ y)).toArray)
   obtain ⟨_, _, _, h2, h3⟩ := h1
   rw [← hw]
   exact ⟨h2, fun b hb hn => h3 b hb fun e => hn (by rw [e])⟩
end
end Go.Proofs.Ytpeaogldojepnaa
