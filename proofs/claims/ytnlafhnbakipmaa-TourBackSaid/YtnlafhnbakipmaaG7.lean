/-
  TourTurns returns true, whatever it is given, and writes nothing that was there.
  TourBack returns true, whatever it is given, and writes nothing that was there.
  TourBack returns true, whatever it is given, and writes nothing that was there: the walk.
  What a law's walk is told of slices that came in.
-/
import Derived.Test.YtnlafhnbakipmaaG6
import Derived.Test.YtnlafhnbakipmaaHpN
import Derived.WalkKit
import Derived.ProofKit
import Derived.OpenShut
import Derived.ShutString
import Derived.ChangeOld
import Derived.Below
import Derived.Deep.Fields
namespace Go.Proofs.Ytnlafhnbakipmaa
open Go Go.Hp Go.Sp Go.To
set_option linter.all false
set_option maxRecDepth 100000
set_option maxHeartbeats 1600000
section
variable {H0 H : Heap} {e : Env} {Z : HX → Env → Heap → Prop} {t : Nat} {T : Nat → Prop} {Q : Tq}
theorem tdiv2 (z : Int) (h1 : -9223372036854775808 ≤ z) (h2 : z ≤ 9223372036854775807) : -9223372036854775808 ≤ z.tdiv 2 ∧ z.tdiv 2 ≤ 9223372036854775807 := by
 rcases Int.lt_or_le z 0 with h | h
 ·have : z.tdiv 2 = -((-z) / 2) := by rw [← Int.tdiv_eq_ediv_of_nonneg (by omega), Int.neg_tdiv, Int.neg_neg]
  omega
 ·rw [Int.tdiv_eq_ediv_of_nonneg h]; omega
theorem linkQ_new {Q : Tq} {u v : Nat} (hu : u < Q.n) (hv : v < Q.n) (hne : (v, v) ∉ Q.row u) : Q.linkQ (u : Int) (v : Int) = (0, Q.lay (Q.linkRow u v)) := by
 unfold Tq.linkQ
 rw [inB_of hu, inB_of hv]
 simp only [Bool.and_self, if_true, Int.toNat_natCast]
 rw [if_neg hne]
theorem tuA {a : Option Addr} {len cap n : Nat} {zs : Nat → Int} (hin : InInts H0 a len zs) (hn : n = 1 + min len 63) (hS : TS H0 H t T (Tq.new n))
  (e0 : e 0 = .slice a len cap) (e8 : e 8 = .int .i64 (n : Nat)) (e9 : e 9 = .pointer (some ⟨t, 0, none⟩)) (e11 : e 11 = .int .i64 1)
  (hQ : ∀ e' H' T' Q', e' 1 = e 1 → e' 2 = e 2 → e' 8 = .int .i64 (n : Nat) → e' 9 = .pointer (some ⟨t, 0, none⟩) → TS H0 H' t T' Q' → Grown Q' n → Q'.n = n → Z .normal e' H') :
  codeX Try.prog [33] (loopAt Try.f3.body 0) (blockQ 0 Z) e H := by
 refine x_loop (fun m e' H' => ∃ (i : Nat) (T' : Nat → Prop) (Q' : Tq), e' 11 = .int .i64 (i : Nat) ∧ 1 ≤ i ∧ i ≤ n ∧ TS H0 H' t T' Q' ∧ Grown Q' i ∧ Q'.n = n ∧ m = n - i) (n - 1) ⟨1, T, Tq.new n, e11, Nat.le_refl _, by omega, hS, Grown.start, rfl, rfl⟩ ?_
 rintro m e1 H1 ⟨i, T1, Q1, i11, hi1, hi, hS1, hG, hQn, rfl⟩ hoff
 have i0 := (hoff 0 rfl).trans e0
 have i8 := (hoff 8 rfl).trans e8
 have i9 := (hoff 9 rfl).trans e9
 have keep : e1 1 = e 1 ∧ e1 2 = e 2 := ⟨hoff 1 rfl, hoff 2 rfl⟩
 clear hoff e0 e8 e9 e11
 by_cases hlt : i < n
 ·obtain ⟨p, rfl, cz, hz1, hz2⟩ := (hin.frame hS1.fr) (i - 1) (by omega)
  have ew : IntKind.i64.wrap ((i : Int) - 1) = ((i - 1 : Nat) : Int) := by rw [wrap_i64] <;> omega
  have ew2 : IntKind.i64.wrap ((i : Int) + 1) = ((i + 1 : Nat) : Int) := by rw [wrap_i64] <;> omega
  have hl1 : i - 1 < len := by omega
  obtain ⟨d1, d2⟩ := tdiv2 (zs (i - 1)) hz1 hz2
  have ewd : IntKind.i64.wrap ((zs (i - 1)).tdiv 2) = (zs (i - 1)).tdiv 2 := by rw [wrap_i64] <;> omega
  have z2 : ((2 : Int) = 0) = False := by simp
  repeat' (first|(with_reducible first|refine jA ?_|(refine hK _ _ ?_;clear hK K)|refine jJ fun K hK=>?_|refine jK ?_|refine jL ?_|refine jM ?_|refine jN ?_|refine jO ?_|refine jP ?_|refine jQ ?_|(refine jB ?_;clear hK K)|(refine jC ?_;clear hK K)|refine jD ?_|refine jE ?_|refine jG ?_|refine jH ?_|refine jI ?_)|((with_reducible refine jR ?hq ?_);case hq=>rfl)|((first|(with_reducible first|refine jS fun K hK=>?_|refine jT ?_|refine jU ?_)|((with_reducible refine jV ?hy fun K hK=>?_);case hy=>rfl));simp only [go_sem, Nat.reduceEqDiff, Nat.reduceAdd, Nat.reduceMul, Nat.reduceLeDiff, Nat.reduceLT, Int.reduceLT, Int.reduceLE, Int.reduceEq, Int.reduceNeg, Int.reduceToNat, Nat.reducePow, reduceIte, reduceCtorEq, i0, i8, i9, i11, hlt, ew, hl1, cz, ewd, z2])|((with_reducible first|refine jW ?hy ?_|refine jY ?hy ?_);case hy=>rfl)|((with_reducible first|refine jX ?hy ?_|refine jZ ?hy ?_);case hy=>rfl)|((with_reducible refine jF ?hy ?_);case hy=>decide))
  refine Pkisthmuslaw04.pick_ok d1 d2 (by omega) ?_
  obtain ⟨k0, k1⟩ := pickN_range ((zs (i - 1)).tdiv 2) (n := (i : Int)) (by omega)
  obtain ⟨k, ek⟩ := Int.eq_ofNat_of_zero_le k0
  rw [ek] at k1 ⊢
  have hki : k < i := by omega
  repeat' (first|(with_reducible first|refine jA ?_|(refine hK _ _ ?_;clear hK K)|refine jJ fun K hK=>?_|refine jK ?_|refine jL ?_|refine jM ?_|refine jN ?_|refine jO ?_|refine jP ?_|refine jQ ?_|(refine jB ?_;clear hK K)|(refine jC ?_;clear hK K)|refine jD ?_|refine jE ?_|refine jG ?_|refine jH ?_|refine jI ?_)|((with_reducible refine jR ?hq ?_);case hq=>rfl)|((first|(with_reducible first|refine jS fun K hK=>?_|refine jT ?_|refine jU ?_)|((with_reducible refine jV ?hy fun K hK=>?_);case hy=>rfl));simp only [go_sem, Nat.reduceEqDiff, Nat.reduceAdd, Nat.reduceMul, Nat.reduceLeDiff, Nat.reduceLT, Int.reduceLT, Int.reduceLE, Int.reduceEq, Int.reduceNeg, Int.reduceToNat, Nat.reducePow, reduceIte, reduceCtorEq, i0, i8, i9, i11, ew, hl1, cz])|((with_reducible first|refine jW ?hy ?_|refine jY ?hy ?_);case hy=>rfl)|((with_reducible first|refine jX ?hy ?_|refine jZ ?hy ?_);case hy=>rfl)|((with_reducible refine jF ?hy ?_);case hy=>decide))
  refine Pkisthmuslaw04.pick_ok hz1 hz2 (by omega) ?_
  have z0 : ((0 : Int) != 0) = false := rfl
  by_cases hp : pickN (zs (i - 1)) 2 = 0
  ·have t1 : (pickN (zs (i - 1)) 2 == 0) = true := by simp [hp]
   repeat' (first|(with_reducible first|refine jA ?_|(refine hK _ _ ?_;clear hK K)|refine jJ fun K hK=>?_|refine jK ?_|refine jL ?_|refine jM ?_|refine jN ?_|refine jO ?_|refine jP ?_|refine jQ ?_|(refine jB ?_;clear hK K)|(refine jC ?_;clear hK K)|refine jD ?_|refine jE ?_|refine jG ?_|refine jH ?_|refine jI ?_)|((with_reducible refine jR ?hq ?_);case hq=>rfl)|((first|(with_reducible first|refine jS fun K hK=>?_|refine jT ?_|refine jU ?_)|((with_reducible refine jV ?hy fun K hK=>?_);case hy=>rfl));simp only [go_sem, Nat.reduceEqDiff, Nat.reduceAdd, Nat.reduceMul, Nat.reduceLeDiff, Nat.reduceLT, Int.reduceLT, Int.reduceLE, Int.reduceEq, Int.reduceNeg, Int.reduceToNat, Nat.reducePow, reduceIte, reduceCtorEq, i9, i11, t1])|((with_reducible first|refine jW ?hy ?_|refine jY ?hy ?_);case hy=>rfl)|((with_reducible first|refine jX ?hy ?_|refine jZ ?hy ?_);case hy=>rfl)|((with_reducible refine jF ?hy ?_);case hy=>decide))
   obtain ⟨hne, hG'⟩ := hG.link hS1.to.ok (u := k) (v := i) (by omega) (.inl ⟨hki, rfl⟩)
   have hq := linkQ_new (by omega) (by omega) hne
   refine tq_link hS1.to fun H2 T2 hM2 hf2 hT2 => ?_
   have hS2 := hS1.op hM2 hf2 hT2
   rw [hq] at hS2 ⊢
   repeat' (first|(with_reducible first|refine jA ?_|(refine hK _ _ ?_;clear hK K)|refine jJ fun K hK=>?_|refine jK ?_|refine jL ?_|refine jM ?_|refine jN ?_|refine jO ?_|refine jP ?_|refine jQ ?_|(refine jB ?_;clear hK K)|(refine jC ?_;clear hK K)|refine jD ?_|refine jE ?_|refine jG ?_|refine jH ?_|refine jI ?_)|((with_reducible refine jR ?hq ?_);case hq=>rfl)|((first|(with_reducible first|refine jS fun K hK=>?_|refine jT ?_|refine jU ?_)|((with_reducible refine jV ?hy fun K hK=>?_);case hy=>rfl));simp only [go_sem, Nat.reduceEqDiff, Nat.reduceAdd, Nat.reduceMul, Nat.reduceLeDiff, Nat.reduceLT, Int.reduceLT, Int.reduceLE, Int.reduceEq, Int.reduceNeg, Int.reduceToNat, Nat.reducePow, reduceIte, reduceCtorEq, z0, i11, ew2])|((with_reducible first|refine jW ?hy ?_|refine jY ?hy ?_);case hy=>rfl)|((with_reducible first|refine jX ?hy ?_|refine jZ ?hy ?_);case hy=>rfl)|((with_reducible refine jF ?hy ?_);case hy=>decide))
   exact loop_normal (m' := n - (i + 1)) (by omega) ⟨i + 1, T2, _, rfl, by omega, hlt, hS2, hG', hQn, rfl⟩
  ·have t1 : (pickN (zs (i - 1)) 2 == 0) = false := by simp [hp]
   repeat' (first|(with_reducible first|refine jA ?_|(refine hK _ _ ?_;clear hK K)|refine jJ fun K hK=>?_|refine jK ?_|refine jL ?_|refine jM ?_|refine jN ?_|refine jO ?_|refine jP ?_|refine jQ ?_|(refine jB ?_;clear hK K)|(refine jC ?_;clear hK K)|refine jD ?_|refine jE ?_|refine jG ?_|refine jH ?_|refine jI ?_)|((with_reducible refine jR ?hq ?_);case hq=>rfl)|((first|(with_reducible first|refine jS fun K hK=>?_|refine jT ?_|refine jU ?_)|((with_reducible refine jV ?hy fun K hK=>?_);case hy=>rfl));simp only [go_sem, Nat.reduceEqDiff, Nat.reduceAdd, Nat.reduceMul, Nat.reduceLeDiff, Nat.reduceLT, Int.reduceLT, Int.reduceLE, Int.reduceEq, Int.reduceNeg, Int.reduceToNat, Nat.reducePow, reduceIte, reduceCtorEq, i9, i11, t1])|((with_reducible first|refine jW ?hy ?_|refine jY ?hy ?_);case hy=>rfl)|((with_reducible first|refine jX ?hy ?_|refine jZ ?hy ?_);case hy=>rfl)|((with_reducible refine jF ?hy ?_);case hy=>decide))
   obtain ⟨hne, hG'⟩ := hG.link hS1.to.ok (u := i) (v := k) (by omega) (.inr ⟨rfl, hki⟩)
   have hq := linkQ_new (by omega) (by omega) hne
   refine tq_link hS1.to fun H2 T2 hM2 hf2 hT2 => ?_
   have hS2 := hS1.op hM2 hf2 hT2
   rw [hq] at hS2 ⊢
   repeat' (first|(with_reducible first|refine jA ?_|(refine hK _ _ ?_;clear hK K)|refine jJ fun K hK=>?_|refine jK ?_|refine jL ?_|refine jM ?_|refine jN ?_|refine jO ?_|refine jP ?_|refine jQ ?_|(refine jB ?_;clear hK K)|(refine jC ?_;clear hK K)|refine jD ?_|refine jE ?_|refine jG ?_|refine jH ?_|refine jI ?_)|((with_reducible refine jR ?hq ?_);case hq=>rfl)|((first|(with_reducible first|refine jS fun K hK=>?_|refine jT ?_|refine jU ?_)|((with_reducible refine jV ?hy fun K hK=>?_);case hy=>rfl));simp only [go_sem, Nat.reduceEqDiff, Nat.reduceAdd, Nat.reduceMul, Nat.reduceLeDiff, Nat.reduceLT, Int.reduceLT, Int.reduceLE, Int.reduceEq, Int.reduceNeg, Int.reduceToNat, Nat.reducePow, reduceIte, reduceCtorEq, z0, i11, ew2])|((with_reducible first|refine jW ?hy ?_|refine jY ?hy ?_);case hy=>rfl)|((with_reducible first|refine jX ?hy ?_|refine jZ ?hy ?_);case hy=>rfl)|((with_reducible refine jF ?hy ?_);case hy=>decide))
   exact loop_normal (m' := n - (i + 1)) (by omega) ⟨i + 1, T2, _, rfl, by omega, hlt, hS2, hG', hQn, rfl⟩
 ·obtain rfl : i = n := by omega
  have t1 : (i < i) = False := by simp
  repeat' (first|(with_reducible first|refine jA ?_|(refine hK _ _ ?_;clear hK K)|refine jJ fun K hK=>?_|refine jK ?_|refine jL ?_|refine jM ?_|refine jN ?_|refine jO ?_|refine jP ?_|refine jQ ?_|(refine jB ?_;clear hK K)|(refine jC ?_;clear hK K)|refine jD ?_|refine jE ?_|refine jG ?_|refine jH ?_|refine jI ?_)|((with_reducible refine jR ?hq ?_);case hq=>rfl)|((first|(with_reducible first|refine jS fun K hK=>?_|refine jT ?_|refine jU ?_)|((with_reducible refine jV ?hy fun K hK=>?_);case hy=>rfl));simp only [go_sem, Nat.reduceEqDiff, Nat.reduceAdd, Nat.reduceMul, Nat.reduceLeDiff, Nat.reduceLT, Int.reduceLT, Int.reduceLE, Int.reduceEq, Int.reduceNeg, Int.reduceToNat, Nat.reducePow, reduceIte, reduceCtorEq, i8, i11, t1])|((with_reducible first|refine jW ?hy ?_|refine jY ?hy ?_);case hy=>rfl)|((with_reducible first|refine jX ?hy ?_|refine jZ ?hy ?_);case hy=>rfl)|((with_reducible refine jF ?hy ?_);case hy=>decide))
  exact hQ _ _ _ _ keep.1 keep.2 i8 i9 hS1 hG hQn
theorem tuB {B : Option Nat} {va : Value} {xs : List Nat} {v n : Nat} (hx : IR H B va (xs.map Int.ofNat)) (hl : xs.length = n) (hn : n ≤ 64) (hnd : xs.Nodup) (hv : v ∈ xs) (e14 : e 14 = va) (e2 : e 2 = .int .i64 (v : Nat)) (e8 : e 8 = .int .i64 (n : Nat)) (e19 : e 19 = .int .i64 (-1)) (e20 : e 20 = .int .i64 0)
  (hQ : ∀ e', e' 1 = e 1 → e' 8 = e 8 → e' 14 = e 14 → e' 17 = e 17 → e' 19 = .int .i64 (xs.idxOf v : Nat) → Z .normal e' H) :
  codeX Try.prog [33] (loopAt Try.f3.body 1) (blockQ 2 Z) e H := by
 have hk := List.idxOf_lt_length_of_mem hv
 refine x_loop (fun m e' H' => ∃ i : Nat, H' = H ∧ e' 20 = .int .i64 (i : Nat) ∧ i ≤ n ∧ e' 19 = .int .i64 (if xs.idxOf v < i then (xs.idxOf v : Int) else -1) ∧ m = n - i) n ⟨0, rfl, e20, Nat.zero_le _, by rw [e19]; simp, rfl⟩ ?_
 rintro m e1 H1 ⟨i, rfl, i20, hi, i19, rfl⟩ hoff
 have i14 := (hoff 14 rfl).trans e14
 have i2 := (hoff 2 rfl).trans e2
 have i8 := (hoff 8 rfl).trans e8
 have keep : e1 1 = e 1 ∧ e1 8 = e 8 ∧ e1 14 = e 14 ∧ e1 17 = e 17 := ⟨hoff 1 rfl, hoff 8 rfl, hoff 14 rfl, hoff 17 rfl⟩
 by_cases hlt : i < n
 ·obtain ⟨y, hy⟩ : ∃ y, xs[i]? = some y := ⟨_, List.getElem?_eq_getElem (by omega)⟩
  have hy' : (xs.map Int.ofNat)[i]? = some (y : Int) := by rw [List.getElem?_map, hy]; rfl
  obtain ⟨g, c, rfl, rfl, cy⟩ := hx.read hy'
  have hlx : i < (xs.map Int.ofNat).length := by simp; omega
  have hlx' : i < xs.length := by omega
  have ew2 : IntKind.i64.wrap ((i : Int) + 1) = ((i + 1 : Nat) : Int) := by rw [wrap_i64] <;> omega
  clear hoff
  have hlen : (xs.map Int.ofNat).length = xs.length := by simp
  rw [hlen] at i14
  by_cases hyv : y = v
  ·have t1 : ((y : Int) == (v : Int)) = true := by simp [hyv]
   have hidx : xs.idxOf v = i := by
    have e1 := List.getElem_idxOf hk
    have e2 : xs[i] = v := by rw [← hyv]; exact (List.getElem?_eq_some_iff.1 hy).2
    exact (List.getElem_inj hnd).1 (e1.trans e2.symm)
   repeat' (first|(with_reducible first|refine jA ?_|(refine hK _ _ ?_;clear hK K)|refine jJ fun K hK=>?_|refine jK ?_|refine jL ?_|refine jM ?_|refine jN ?_|refine jO ?_|refine jP ?_|refine jQ ?_|(refine jB ?_;clear hK K)|(refine jC ?_;clear hK K)|refine jD ?_|refine jE ?_|refine jG ?_|refine jH ?_|refine jI ?_)|((with_reducible refine jR ?hq ?_);case hq=>rfl)|((first|(with_reducible first|refine jS fun K hK=>?_|refine jT ?_|refine jU ?_)|((with_reducible refine jV ?hy fun K hK=>?_);case hy=>rfl));simp only [go_sem, Nat.reduceEqDiff, Nat.reduceAdd, Nat.reduceMul, Nat.reduceLeDiff, Nat.reduceLT, Int.reduceLT, Int.reduceLE, Int.reduceEq, Int.reduceNeg, Int.reduceToNat, Nat.reducePow, reduceIte, reduceCtorEq, i14, i2, i8, i20, hlt, hlx', cy, t1, ew2])|((with_reducible first|refine jW ?hy ?_|refine jY ?hy ?_);case hy=>rfl)|((with_reducible first|refine jX ?hy ?_|refine jZ ?hy ?_);case hy=>rfl)|((with_reducible refine jF ?hy ?_);case hy=>decide))
   exact loop_normal (m' := n - (i + 1)) (by omega) ⟨i + 1, rfl, rfl, hlt, by rw [if_pos (by omega), hidx]; rfl, rfl⟩
  ·have t1 : ((y : Int) == (v : Int)) = false := by simp; omega
   have hidx : xs.idxOf v ≠ i := fun e => by
    have e1 := List.getElem_idxOf hk
    have e2 : xs[xs.idxOf v]? = some y := by rw [e]; exact hy
    rw [List.getElem?_eq_getElem hk, e1] at e2
    exact hyv (Option.some.inj e2).symm
   repeat' (first|(with_reducible first|refine jA ?_|(refine hK _ _ ?_;clear hK K)|refine jJ fun K hK=>?_|refine jK ?_|refine jL ?_|refine jM ?_|refine jN ?_|refine jO ?_|refine jP ?_|refine jQ ?_|(refine jB ?_;clear hK K)|(refine jC ?_;clear hK K)|refine jD ?_|refine jE ?_|refine jG ?_|refine jH ?_|refine jI ?_)|((with_reducible refine jR ?hq ?_);case hq=>rfl)|((first|(with_reducible first|refine jS fun K hK=>?_|refine jT ?_|refine jU ?_)|((with_reducible refine jV ?hy fun K hK=>?_);case hy=>rfl));simp only [go_sem, Nat.reduceEqDiff, Nat.reduceAdd, Nat.reduceMul, Nat.reduceLeDiff, Nat.reduceLT, Int.reduceLT, Int.reduceLE, Int.reduceEq, Int.reduceNeg, Int.reduceToNat, Nat.reducePow, reduceIte, reduceCtorEq, i14, i2, i8, i20, hlt, hlx', cy, t1, ew2])|((with_reducible first|refine jW ?hy ?_|refine jY ?hy ?_);case hy=>rfl)|((with_reducible first|refine jX ?hy ?_|refine jZ ?hy ?_);case hy=>rfl)|((with_reducible refine jF ?hy ?_);case hy=>decide))
   refine loop_normal (m' := n - (i + 1)) (by omega) ⟨i + 1, rfl, rfl, hlt, i19.trans ?_, rfl⟩
   by_cases h : xs.idxOf v < i
   ·rw [if_pos h, if_pos (by omega)]
   ·rw [if_neg h, if_neg (by omega)]
 ·obtain rfl : i = n := by omega
  have t1 : (i < i) = False := by simp
  repeat' (first|(with_reducible first|refine jA ?_|(refine hK _ _ ?_;clear hK K)|refine jJ fun K hK=>?_|refine jK ?_|refine jL ?_|refine jM ?_|refine jN ?_|refine jO ?_|refine jP ?_|refine jQ ?_|(refine jB ?_;clear hK K)|(refine jC ?_;clear hK K)|refine jD ?_|refine jE ?_|refine jG ?_|refine jH ?_|refine jI ?_)|((with_reducible refine jR ?hq ?_);case hq=>rfl)|((first|(with_reducible first|refine jS fun K hK=>?_|refine jT ?_|refine jU ?_)|((with_reducible refine jV ?hy fun K hK=>?_);case hy=>rfl));simp only [go_sem, Nat.reduceEqDiff, Nat.reduceAdd, Nat.reduceMul, Nat.reduceLeDiff, Nat.reduceLT, Int.reduceLT, Int.reduceLE, Int.reduceEq, Int.reduceNeg, Int.reduceToNat, Nat.reducePow, reduceIte, reduceCtorEq, i8, i20, t1])|((with_reducible first|refine jW ?hy ?_|refine jY ?hy ?_);case hy=>rfl)|((with_reducible first|refine jX ?hy ?_|refine jZ ?hy ?_);case hy=>rfl)|((with_reducible refine jF ?hy ?_);case hy=>decide))
  exact hQ _ keep.1 keep.2.1 keep.2.2.1 keep.2.2.2 (i19.trans (by rw [if_pos (by omega)]))
theorem tuC {B C : Option Nat} {va vb : Value} {xs : List Nat} {k n : Nat} (hx : IR H B va (xs.map Int.ofNat)) (hy : IR H C vb ((xs.drop k ++ xs.take k).map Int.ofNat)) (hl : xs.length = n) (hn : n ≤ 64) (hk : k < n) (e14 : e 14 = va) (e17 : e 17 = vb) (e8 : e 8 = .int .i64 (n : Nat)) (e19 : e 19 = .int .i64 (k : Nat)) (e21 : e 21 = .int .i64 0)
  (hQ : ∀ e', e' 1 = e 1 → e' 14 = e 14 → Z .normal e' H) :
  codeX Try.prog [33] (loopAt Try.f3.body 2) (blockQ 4 Z) e H := by
 refine x_loop (fun m e' H' => ∃ i : Nat, H' = H ∧ e' 21 = .int .i64 (i : Nat) ∧ i ≤ n ∧ m = n - i) n ⟨0, rfl, e21, Nat.zero_le _, rfl⟩ ?_
 rintro m e1 H1 ⟨i, rfl, i21, hi, rfl⟩ hoff
 have i14 := (hoff 14 rfl).trans e14
 have i17 := (hoff 17 rfl).trans e17
 have i8 := (hoff 8 rfl).trans e8
 have i19 := (hoff 19 rfl).trans e19
 have keep : e1 1 = e 1 ∧ e1 14 = e 14 := ⟨hoff 1 rfl, hoff 14 rfl⟩
 clear hoff
 by_cases hlt : i < n
 ·have hj : (k + i) % n < n := Nat.mod_lt _ (by omega)
  obtain ⟨y, hyg⟩ : ∃ y, xs[(k + i) % n]? = some y := ⟨_, List.getElem?_eq_getElem (by omega)⟩
  have hrot := rot_get xs k i (by omega) (by omega)
  rw [hl, hyg] at hrot
  have h1 : (xs.map Int.ofNat)[(k + i) % n]? = some (y : Int) := by rw [List.getElem?_map, hyg]; rfl
  have h2 : ((xs.drop k ++ xs.take k).map Int.ofNat)[i]? = some (y : Int) := by rw [List.getElem?_map, hrot]; rfl
  obtain ⟨g, c, rfl, rfl, cx⟩ := hx.read h1
  obtain ⟨g', c', rfl, rfl, cy⟩ := hy.read h2
  have l1 : (xs.map Int.ofNat).length = n := by simp [hl]
  have l2 : ((xs.drop k ++ xs.take k).map Int.ofNat).length = n := by simp; omega
  rw [l1] at i14
  rw [l2] at i17
  have t0 : ((k : Int) < 0) = False := by simp
  have ew : IntKind.i64.wrap ((k : Int) + (i : Int)) = ((k + i : Nat) : Int) := by rw [wrap_i64] <;> omega
  have em : ((k + i : Nat) : Int).tmod (n : Int) = (((k + i) % n : Nat) : Int) := by rw [Int.tmod_eq_emod_of_nonneg (by omega)]; rfl
  have ez : ((n : Int) = 0) = False := by simp; omega
  have ez' : (n = 0) = False := by simp; omega
  have t1 : ((y : Int) != (y : Int)) = false := by simp
  have ew2 : IntKind.i64.wrap ((i : Int) + 1) = ((i + 1 : Nat) : Int) := by rw [wrap_i64] <;> omega
  repeat' (first|(with_reducible first|refine jA ?_|(refine hK _ _ ?_;clear hK K)|refine jJ fun K hK=>?_|refine jK ?_|refine jL ?_|refine jM ?_|refine jN ?_|refine jO ?_|refine jP ?_|refine jQ ?_|(refine jB ?_;clear hK K)|(refine jC ?_;clear hK K)|refine jD ?_|refine jE ?_|refine jG ?_|refine jH ?_|refine jI ?_)|((with_reducible refine jR ?hq ?_);case hq=>rfl)|((first|(with_reducible first|refine jS fun K hK=>?_|refine jT ?_|refine jU ?_)|((with_reducible refine jV ?hy fun K hK=>?_);case hy=>rfl));simp only [go_sem, Nat.reduceEqDiff, Nat.reduceAdd, Nat.reduceMul, Nat.reduceLeDiff, Nat.reduceLT, Int.reduceLT, Int.reduceLE, Int.reduceEq, Int.reduceNeg, Int.reduceToNat, Nat.reducePow, reduceIte, reduceCtorEq, i14, i17, i8, i19, i21, hlt, t0, ew, em, ez, ez', hj, cx, cy, t1, ew2])|((with_reducible first|refine jW ?hy ?_|refine jY ?hy ?_);case hy=>rfl)|((with_reducible first|refine jX ?hy ?_|refine jZ ?hy ?_);case hy=>rfl)|((with_reducible refine jF ?hy ?_);case hy=>decide))
  exact loop_normal (m' := n - (i + 1)) (by omega) ⟨i + 1, rfl, rfl, hlt, rfl⟩
 ·obtain rfl : i = n := by omega
  have t1 : (i < i) = False := by simp
  repeat' (first|(with_reducible first|refine jA ?_|(refine hK _ _ ?_;clear hK K)|refine jJ fun K hK=>?_|refine jK ?_|refine jL ?_|refine jM ?_|refine jN ?_|refine jO ?_|refine jP ?_|refine jQ ?_|(refine jB ?_;clear hK K)|(refine jC ?_;clear hK K)|refine jD ?_|refine jE ?_|refine jG ?_|refine jH ?_|refine jI ?_)|((with_reducible refine jR ?hq ?_);case hq=>rfl)|((first|(with_reducible first|refine jS fun K hK=>?_|refine jT ?_|refine jU ?_)|((with_reducible refine jV ?hy fun K hK=>?_);case hy=>rfl));simp only [go_sem, Nat.reduceEqDiff, Nat.reduceAdd, Nat.reduceMul, Nat.reduceLeDiff, Nat.reduceLT, Int.reduceLT, Int.reduceLE, Int.reduceEq, Int.reduceNeg, Int.reduceToNat, Nat.reducePow, reduceIte, reduceCtorEq, i8, i21, t1])|((with_reducible first|refine jW ?hy ?_|refine jY ?hy ?_);case hy=>rfl)|((with_reducible first|refine jX ?hy ?_|refine jZ ?hy ?_);case hy=>rfl)|((with_reducible refine jF ?hy ?_);case hy=>decide))
  exact hQ _ keep.1 keep.2
end
theorem tourTurns {H : Heap} {a : Option Addr} {len cap : Nat} {zs : Nat → Int} {u v : Int} {L : Value → Heap → Prop} (hin : InInts H a len zs) (hl : len ≤ 9223372036854775807) (u0 : -9223372036854775808 ≤ u) (u1 : u ≤ 9223372036854775807) (v0 : -9223372036854775808 ≤ v) (v1 : v ≤ 9223372036854775807)
  (fin : ∀ H', Fr (fun _ => False) H H' → L (.bool true) H') : CallsH Try.prog 3 #[.slice a len cap, .int .i64 u, .int .i64 v] H L := by
 obtain ⟨n, hn⟩ : ∃ n, n = 1 + min len 63 := ⟨_, rfl⟩
 have hn64 : n ≤ 64 := by omega
 have hn1 : 1 ≤ n := by omega
 have emin : (if (63 : Int) < (len : Int) then (63 : Int) else (len : Int)) = ((min len 63 : Nat) : Int) := by
  split <;> omega
 have ew : IntKind.i64.wrap (1 + ((min len 63 : Nat) : Int)) = (n : Int) := by rw [wrap_i64] <;> omega
 have z0 : ((0 : Int) != 0) = false := rfl
 refine call3 (by simp) ?_
 simp only [Try.f3, Option.getD_some]
 repeat' (first|(with_reducible first|refine jA ?_|(refine hK _ _ ?_;clear hK K)|refine jJ fun K hK=>?_|refine jK ?_|refine jL ?_|refine jM ?_|refine jN ?_|refine jO ?_|refine jP ?_|refine jQ ?_|(refine jB ?_;clear hK K)|(refine jC ?_;clear hK K)|refine jD ?_|refine jE ?_|refine jG ?_|refine jH ?_|refine jI ?_)|((with_reducible refine jR ?hq ?_);case hq=>rfl)|((first|(with_reducible first|refine jS fun K hK=>?_|refine jT ?_|refine jU ?_)|((with_reducible refine jV ?hy fun K hK=>?_);case hy=>rfl));simp only [go_sem, Nat.reduceEqDiff, Nat.reduceAdd, Nat.reduceMul, Nat.reduceLeDiff, Nat.reduceLT, Int.reduceLT, Int.reduceLE, Int.reduceEq, Int.reduceNeg, Int.reduceToNat, Nat.reducePow, reduceIte, reduceCtorEq])|((with_reducible first|refine jW ?hy ?_|refine jY ?hy ?_);case hy=>rfl)|((with_reducible first|refine jX ?hy ?_|refine jZ ?hy ?_);case hy=>rfl)|((with_reducible refine jF ?hy ?_);case hy=>decide))
 refine awake_ok fun H1 hf1 => ?_
 repeat' (first|(with_reducible first|refine jA ?_|(refine hK _ _ ?_;clear hK K)|refine jJ fun K hK=>?_|refine jK ?_|refine jL ?_|refine jM ?_|refine jN ?_|refine jO ?_|refine jP ?_|refine jQ ?_|(refine jB ?_;clear hK K)|(refine jC ?_;clear hK K)|refine jD ?_|refine jE ?_|refine jG ?_|refine jH ?_|refine jI ?_)|((with_reducible refine jR ?hq ?_);case hq=>rfl)|((first|(with_reducible first|refine jS fun K hK=>?_|refine jT ?_|refine jU ?_)|((with_reducible refine jV ?hy fun K hK=>?_);case hy=>rfl));simp only [go_sem, Nat.reduceEqDiff, Nat.reduceAdd, Nat.reduceMul, Nat.reduceLeDiff, Nat.reduceLT, Int.reduceLT, Int.reduceLE, Int.reduceEq, Int.reduceNeg, Int.reduceToNat, Nat.reducePow, reduceIte, reduceCtorEq, emin, ew])|((with_reducible first|refine jW ?hy ?_|refine jY ?hy ?_);case hy=>rfl)|((with_reducible first|refine jX ?hy ?_|refine jZ ?hy ?_);case hy=>rfl)|((with_reducible refine jF ?hy ?_);case hy=>decide))
 refine tnew_ok hn1 hn64 fun H2 t T2 hM2 hf2 hT2 => ?_
 have hS2 := (TS.start hM2 hf2 hT2).base hf1
 repeat' (first|(with_reducible first|refine jA ?_|(refine hK _ _ ?_;clear hK K)|refine jJ fun K hK=>?_|refine jK ?_|refine jL ?_|refine jM ?_|refine jN ?_|refine jO ?_|refine jP ?_|refine jQ ?_|(refine jB ?_;clear hK K)|(refine jC ?_;clear hK K)|refine jD ?_|refine jE ?_|refine jG ?_|refine jH ?_|refine jI ?_)|((with_reducible refine jR ?hq ?_);case hq=>rfl)|((first|(with_reducible first|refine jS fun K hK=>?_|refine jT ?_|refine jU ?_)|((with_reducible refine jV ?hy fun K hK=>?_);case hy=>rfl));simp only [go_sem, Nat.reduceEqDiff, Nat.reduceAdd, Nat.reduceMul, Nat.reduceLeDiff, Nat.reduceLT, Int.reduceLT, Int.reduceLE, Int.reduceEq, Int.reduceNeg, Int.reduceToNat, Nat.reducePow, reduceIte, reduceCtorEq, z0])|((with_reducible first|refine jW ?hy ?_|refine jY ?hy ?_);case hy=>rfl)|((with_reducible first|refine jX ?hy ?_|refine jZ ?hy ?_);case hy=>rfl)|((with_reducible refine jF ?hy ?_);case hy=>decide))
 refine tuA (hin) hn hS2 rfl rfl rfl rfl ?_
 intro e' H3 T3 Q3 i1 i2 i8 i9 hS3 hG hQn
 have i1 : e' 1 = .int .i64 u := i1.trans rfl
 have i2 : e' 2 = .int .i64 v := i2.trans rfl
 repeat' (first|(with_reducible first|refine jA ?_|(refine hK _ _ ?_;clear hK K)|refine jJ fun K hK=>?_|refine jK ?_|refine jL ?_|refine jM ?_|refine jN ?_|refine jO ?_|refine jP ?_|refine jQ ?_|(refine jB ?_;clear hK K)|(refine jC ?_;clear hK K)|refine jD ?_|refine jE ?_|refine jG ?_|refine jH ?_|refine jI ?_)|((with_reducible refine jR ?hq ?_);case hq=>rfl)|((first|(with_reducible first|refine jS fun K hK=>?_|refine jT ?_|refine jU ?_)|((with_reducible refine jV ?hy fun K hK=>?_);case hy=>rfl));simp only [go_sem, Nat.reduceEqDiff, Nat.reduceAdd, Nat.reduceMul, Nat.reduceLeDiff, Nat.reduceLT, Int.reduceLT, Int.reduceLE, Int.reduceEq, Int.reduceNeg, Int.reduceToNat, Nat.reducePow, reduceIte, reduceCtorEq, i1, i2, i8])|((with_reducible first|refine jW ?hy ?_|refine jY ?hy ?_);case hy=>rfl)|((with_reducible first|refine jX ?hy ?_|refine jZ ?hy ?_);case hy=>rfl)|((with_reducible refine jF ?hy ?_);case hy=>decide))
 refine Pkisthmuslaw04.pick_ok u0 u1 (by omega) ?_
 obtain ⟨a0, a1⟩ := pickN_range u (n := (n : Int)) (by omega)
 obtain ⟨p, ep⟩ := Int.eq_ofNat_of_zero_le a0
 rw [ep] at a1 ⊢
 have hp : p < Q3.n := by omega
 repeat' (first|(with_reducible first|refine jA ?_|(refine hK _ _ ?_;clear hK K)|refine jJ fun K hK=>?_|refine jK ?_|refine jL ?_|refine jM ?_|refine jN ?_|refine jO ?_|refine jP ?_|refine jQ ?_|(refine jB ?_;clear hK K)|(refine jC ?_;clear hK K)|refine jD ?_|refine jE ?_|refine jG ?_|refine jH ?_|refine jI ?_)|((with_reducible refine jR ?hq ?_);case hq=>rfl)|((first|(with_reducible first|refine jS fun K hK=>?_|refine jT ?_|refine jU ?_)|((with_reducible refine jV ?hy fun K hK=>?_);case hy=>rfl));simp only [go_sem, Nat.reduceEqDiff, Nat.reduceAdd, Nat.reduceMul, Nat.reduceLeDiff, Nat.reduceLT, Int.reduceLT, Int.reduceLE, Int.reduceEq, Int.reduceNeg, Int.reduceToNat, Nat.reducePow, reduceIte, reduceCtorEq, i2, i8])|((with_reducible first|refine jW ?hy ?_|refine jY ?hy ?_);case hy=>rfl)|((with_reducible first|refine jX ?hy ?_|refine jZ ?hy ?_);case hy=>rfl)|((with_reducible refine jF ?hy ?_);case hy=>decide))
 refine Pkisthmuslaw04.pick_ok v0 v1 (by omega) ?_
 obtain ⟨b0, b1⟩ := pickN_range v (n := (n : Int)) (by omega)
 obtain ⟨q, eq⟩ := Int.eq_ofNat_of_zero_le b0
 rw [eq] at b1 ⊢
 have hq : q < Q3.n := by omega
 have hG' : Grown Q3 Q3.n := by rw [hQn]; exact hG
 have hok3 := hS3.to.ok
 obtain ⟨A, eA⟩ : ∃ A, A = Q3.row p := ⟨_, rfl⟩
 have hrow : ∀ w, w < Q3.n → Q3.row w = A := fun w hw => by rw [eA]; exact hG'.whole hok3 hw hp
 have hAn : A.Nodup := by rw [eA]; exact hok3.nd p hp
 have hAm : ∀ x, (x, x) ∈ A ↔ x < Q3.n := fun x => by rw [eA]; exact hG'.one p hp x
 repeat' (first|(with_reducible first|refine jA ?_|(refine hK _ _ ?_;clear hK K)|refine jJ fun K hK=>?_|refine jK ?_|refine jL ?_|refine jM ?_|refine jN ?_|refine jO ?_|refine jP ?_|refine jQ ?_|(refine jB ?_;clear hK K)|(refine jC ?_;clear hK K)|refine jD ?_|refine jE ?_|refine jG ?_|refine jH ?_|refine jI ?_)|((with_reducible refine jR ?hq ?_);case hq=>rfl)|((first|(with_reducible first|refine jS fun K hK=>?_|refine jT ?_|refine jU ?_)|((with_reducible refine jV ?hy fun K hK=>?_);case hy=>rfl));simp only [go_sem, Nat.reduceEqDiff, Nat.reduceAdd, Nat.reduceMul, Nat.reduceLeDiff, Nat.reduceLT, Int.reduceLT, Int.reduceLE, Int.reduceEq, Int.reduceNeg, Int.reduceToNat, Nat.reducePow, reduceIte, reduceCtorEq, i9])|((with_reducible first|refine jW ?hy ?_|refine jY ?hy ?_);case hy=>rfl)|((with_reducible first|refine jX ?hy ?_|refine jZ ?hy ?_);case hy=>rfl)|((with_reducible refine jF ?hy ?_);case hy=>decide))
 have r1 : Q3.rerootQ (p : Int) = (0, Q3.lay (turnedL A p)) := by
  unfold Tq.rerootQ
  rw [inB_of hp, if_pos rfl, Int.toNat_natCast, eA]
 refine tq_reroot hS3.to fun H4 T4 hM4 hf4 hT4 => ?_
 have hS4 := hS3.op hM4 hf4 hT4
 rw [r1] at hS4 ⊢
 have hrow4 : ∀ w, w < Q3.n → (Q3.lay (turnedL A p)).row w = turnedL A p := fun w hw => if_pos (mem_turnedL.2 ((hAm w).2 hw))
 have hA4 : (turnedL A p).Nodup := (turned_perm A p).nodup_iff.2 hAn
 have w1 : (Q3.lay (turnedL A p)).walkQ 0 = ((wl (turnedL A p)).map Int.ofNat, 0) := by
  unfold Tq.walkQ
  rw [show inB (Q3.lay (turnedL A p)).n (0 : Int) = true from inB_of (v := 0) (by show 0 < Q3.n; omega), if_pos rfl]
  show ((Q3.lay (turnedL A p)).walkL 0, (0 : Int)) = _
  rw [walkL_eq, hrow4 0 (by omega)]
 repeat' (first|(with_reducible first|refine jA ?_|(refine hK _ _ ?_;clear hK K)|refine jJ fun K hK=>?_|refine jK ?_|refine jL ?_|refine jM ?_|refine jN ?_|refine jO ?_|refine jP ?_|refine jQ ?_|(refine jB ?_;clear hK K)|(refine jC ?_;clear hK K)|refine jD ?_|refine jE ?_|refine jG ?_|refine jH ?_|refine jI ?_)|((with_reducible refine jR ?hq ?_);case hq=>rfl)|((first|(with_reducible first|refine jS fun K hK=>?_|refine jT ?_|refine jU ?_)|((with_reducible refine jV ?hy fun K hK=>?_);case hy=>rfl));simp only [go_sem, Nat.reduceEqDiff, Nat.reduceAdd, Nat.reduceMul, Nat.reduceLeDiff, Nat.reduceLT, Int.reduceLT, Int.reduceLE, Int.reduceEq, Int.reduceNeg, Int.reduceToNat, Nat.reducePow, reduceIte, reduceCtorEq, i9])|((with_reducible first|refine jW ?hy ?_|refine jY ?hy ?_);case hy=>rfl)|((with_reducible first|refine jX ?hy ?_|refine jZ ?hy ?_);case hy=>rfl)|((with_reducible refine jF ?hy ?_);case hy=>decide))
 refine tq_walk hS4.to fun H5 T5 B5 v5 hM5 hi5 hB5 hf5 hT5 => ?_
 rw [w1] at hi5 ⊢
 have hS5 := hS4.op hM5 hf5 hT5
 have r2 : (Q3.lay (turnedL A p)).rerootQ (q : Int) = (0, (Q3.lay (turnedL A p)).lay (turnedL (turnedL A p) q)) := by
  unfold Tq.rerootQ
  rw [show inB (Q3.lay (turnedL A p)).n (q : Int) = true from inB_of hq, if_pos rfl, Int.toNat_natCast, hrow4 q hq]
 repeat' (first|(with_reducible first|refine jA ?_|(refine hK _ _ ?_;clear hK K)|refine jJ fun K hK=>?_|refine jK ?_|refine jL ?_|refine jM ?_|refine jN ?_|refine jO ?_|refine jP ?_|refine jQ ?_|(refine jB ?_;clear hK K)|(refine jC ?_;clear hK K)|refine jD ?_|refine jE ?_|refine jG ?_|refine jH ?_|refine jI ?_)|((with_reducible refine jR ?hq ?_);case hq=>rfl)|((first|(with_reducible first|refine jS fun K hK=>?_|refine jT ?_|refine jU ?_)|((with_reducible refine jV ?hy fun K hK=>?_);case hy=>rfl));simp only [go_sem, Nat.reduceEqDiff, Nat.reduceAdd, Nat.reduceMul, Nat.reduceLeDiff, Nat.reduceLT, Int.reduceLT, Int.reduceLE, Int.reduceEq, Int.reduceNeg, Int.reduceToNat, Nat.reducePow, reduceIte, reduceCtorEq, i9])|((with_reducible first|refine jW ?hy ?_|refine jY ?hy ?_);case hy=>rfl)|((with_reducible first|refine jX ?hy ?_|refine jZ ?hy ?_);case hy=>rfl)|((with_reducible refine jF ?hy ?_);case hy=>decide))
 refine tq_reroot hS5.to fun H6 T6 hM6 hf6 hT6 => ?_
 have hS6 := hS5.op hM6 hf6 hT6
 rw [r2] at hS6 ⊢
 have hi6 := hi5.frame hf6 fun g hg => (hB5 g hg).2
 have hB6 : ∀ b, B5 = some b → ¬ T6 b ∧ b < H6.size := fun b hb => by
  refine ⟨fun hx => ?_, hi6.lt hb⟩
  rcases hT6 b hx with h | h
  ·exact (hB5 b hb).2 h
  ·have := hi5.lt hb; omega
 obtain ⟨a', ha'⟩ : ∃ a', a' = wl (turnedL A p) := ⟨_, rfl⟩
 have hal : a'.length = n := by rw [ha', ← hQn]; exact hG'.wl_len hok3 hp ((turned_perm A p).trans (by rw [eA]))
 have han : a'.Nodup := by rw [ha']; exact wl_nodup hA4
 have hqa : q ∈ a' := by rw [ha', mem_wl]; exact mem_turnedL.2 ((hAm q).2 hq)
 have w2 : ((Q3.lay (turnedL A p)).lay (turnedL (turnedL A p) q)).walkQ ((n - 1 : Nat) : Int) = ((a'.drop (a'.idxOf q) ++ a'.take (a'.idxOf q)).map Int.ofNat, 0) := by
  unfold Tq.walkQ
  have hn1' : n - 1 < Q3.n := by omega
  rw [show inB ((Q3.lay (turnedL A p)).lay (turnedL (turnedL A p) q)).n ((n - 1 : Nat) : Int) = true from inB_of hn1', if_pos rfl, Int.toNat_natCast, walkL_eq]
  show ((wl (if (n - 1, n - 1) ∈ turnedL (turnedL A p) q then turnedL (turnedL A p) q else _)).map Int.ofNat, (0 : Int)) = _
  rw [if_pos (mem_turnedL.2 (mem_turnedL.2 ((hAm _).2 hn1'))), wl_turned hA4 (mem_turnedL.2 ((hAm q).2 hq)), ← ha']
 have ew3 : IntKind.i64.wrap ((n : Int) - 1) = ((n - 1 : Nat) : Int) := by rw [wrap_i64] <;> omega
 repeat' (first|(with_reducible first|refine jA ?_|(refine hK _ _ ?_;clear hK K)|refine jJ fun K hK=>?_|refine jK ?_|refine jL ?_|refine jM ?_|refine jN ?_|refine jO ?_|refine jP ?_|refine jQ ?_|(refine jB ?_;clear hK K)|(refine jC ?_;clear hK K)|refine jD ?_|refine jE ?_|refine jG ?_|refine jH ?_|refine jI ?_)|((with_reducible refine jR ?hq ?_);case hq=>rfl)|((first|(with_reducible first|refine jS fun K hK=>?_|refine jT ?_|refine jU ?_)|((with_reducible refine jV ?hy fun K hK=>?_);case hy=>rfl));simp only [go_sem, Nat.reduceEqDiff, Nat.reduceAdd, Nat.reduceMul, Nat.reduceLeDiff, Nat.reduceLT, Int.reduceLT, Int.reduceLE, Int.reduceEq, Int.reduceNeg, Int.reduceToNat, Nat.reducePow, reduceIte, reduceCtorEq, i9, i8, ew3])|((with_reducible first|refine jW ?hy ?_|refine jY ?hy ?_);case hy=>rfl)|((with_reducible first|refine jX ?hy ?_|refine jZ ?hy ?_);case hy=>rfl)|((with_reducible refine jF ?hy ?_);case hy=>decide))
 refine tq_walk hS6.to fun H7 T7 B7 v7 hM7 hi7 hB7 hf7 hT7 => ?_
 rw [w2] at hi7 ⊢
 have hS7 := hS6.op hM7 hf7 hT7
 have hi57 := hi6.frame hf7 fun g hg => (hB6 g hg).1
 rw [← ha'] at hi57
 have l1 : (a'.map Int.ofNat).length = n := by simp [hal]
 have l2 : ((a'.drop (a'.idxOf q) ++ a'.take (a'.idxOf q)).map Int.ofNat).length = n := by
  have := List.idxOf_lt_length_of_mem hqa
  simp; omega
 obtain ⟨sa, sc, rfl⟩ : ∃ sa sc, v5 = .slice sa n sc := by
  obtain ⟨sa, sc, h⟩ := hi57.slice
  exact ⟨sa, sc, by rw [h, l1]⟩
 obtain ⟨sb, sd, rfl⟩ : ∃ sb sd, v7 = .slice sb n sd := by
  obtain ⟨sb, sd, h⟩ := hi7.slice
  exact ⟨sb, sd, by rw [h, l2]⟩
 have tn : ((n : Int) != (n : Int)) = false := by simp
 have hkn : a'.idxOf q < n := by rw [← hal]; exact List.idxOf_lt_length_of_mem hqa
 repeat' (first|(with_reducible first|refine jA ?_|(refine hK _ _ ?_;clear hK K)|refine jJ fun K hK=>?_|refine jK ?_|refine jL ?_|refine jM ?_|refine jN ?_|refine jO ?_|refine jP ?_|refine jQ ?_|(refine jB ?_;clear hK K)|(refine jC ?_;clear hK K)|refine jD ?_|refine jE ?_|refine jG ?_|refine jH ?_|refine jI ?_)|((with_reducible refine jR ?hq ?_);case hq=>rfl)|((first|(with_reducible first|refine jS fun K hK=>?_|refine jT ?_|refine jU ?_)|((with_reducible refine jV ?hy fun K hK=>?_);case hy=>rfl));simp only [go_sem, Nat.reduceEqDiff, Nat.reduceAdd, Nat.reduceMul, Nat.reduceLeDiff, Nat.reduceLT, Int.reduceLT, Int.reduceLE, Int.reduceEq, Int.reduceNeg, Int.reduceToNat, Nat.reducePow, reduceIte, reduceCtorEq, z0, tn, i8, i2])|((with_reducible first|refine jW ?hy ?_|refine jY ?hy ?_);case hy=>rfl)|((with_reducible first|refine jX ?hy ?_|refine jZ ?hy ?_);case hy=>rfl)|((with_reducible refine jF ?hy ?_);case hy=>decide))
 refine tuB hi57 hal hn64 han hqa rfl rfl i8 rfl rfl fun e2 j1 j8 j14 j17 j19 => ?_
 have j14 : e2 14 = .slice sa n sc := j14.trans rfl
 have j17 : e2 17 = .slice sb n sd := j17.trans rfl
 have j8 : e2 8 = .int .i64 (n : Nat) := j8.trans i8
 have j1 : e2 1 = .int .i64 (p : Nat) := j1.trans rfl
 repeat' (first|(with_reducible first|refine jA ?_|(refine hK _ _ ?_;clear hK K)|refine jJ fun K hK=>?_|refine jK ?_|refine jL ?_|refine jM ?_|refine jN ?_|refine jO ?_|refine jP ?_|refine jQ ?_|(refine jB ?_;clear hK K)|(refine jC ?_;clear hK K)|refine jD ?_|refine jE ?_|refine jG ?_|refine jH ?_|refine jI ?_)|((with_reducible refine jR ?hq ?_);case hq=>rfl)|((first|(with_reducible first|refine jS fun K hK=>?_|refine jT ?_|refine jU ?_)|((with_reducible refine jV ?hy fun K hK=>?_);case hy=>rfl));simp only [go_sem, Nat.reduceEqDiff, Nat.reduceAdd, Nat.reduceMul, Nat.reduceLeDiff, Nat.reduceLT, Int.reduceLT, Int.reduceLE, Int.reduceEq, Int.reduceNeg, Int.reduceToNat, Nat.reducePow, reduceIte, reduceCtorEq])|((with_reducible first|refine jW ?hy ?_|refine jY ?hy ?_);case hy=>rfl)|((with_reducible first|refine jX ?hy ?_|refine jZ ?hy ?_);case hy=>rfl)|((with_reducible refine jF ?hy ?_);case hy=>decide))
 refine tuC hi57 hi7 hal hn64 hkn j14 j17 j8 j19 rfl fun e3 k1 k14 => ?_
 have k14 : e3 14 = .slice sa n sc := k14.trans j14
 have k1 : e3 1 = .int .i64 (p : Nat) := k1.trans j1
 have hp0 : a'[0]? = some p := by
  rw [ha', turnedL_eq hAn (split_idx ((hAm p).2 hp)).1, List.cons_append, wl_stop]
  rfl
 obtain ⟨g, c, rfl, hv, cx⟩ := hi57.read (i := 0) (x := (p : Int)) (by rw [List.getElem?_map, hp0]; rfl)
 simp only [Value.slice.injEq] at hv
 obtain ⟨rfl, _, rfl⟩ := hv
 have t0 : ((0 : Int) < (n : Int)) = True := by simp; omega
 have t0' : (0 < n) = True := by simp; omega
 have tp : ((p : Int) == (p : Int)) = true := by simp
 repeat' (first|(with_reducible first|refine jA ?_|(refine hK _ _ ?_;clear hK K)|refine jJ fun K hK=>?_|refine jK ?_|refine jL ?_|refine jM ?_|refine jN ?_|refine jO ?_|refine jP ?_|refine jQ ?_|(refine jB ?_;clear hK K)|(refine jC ?_;clear hK K)|refine jD ?_|refine jE ?_|refine jG ?_|refine jH ?_|refine jI ?_)|((with_reducible refine jR ?hq ?_);case hq=>rfl)|((first|(with_reducible first|refine jS fun K hK=>?_|refine jT ?_|refine jU ?_)|((with_reducible refine jV ?hy fun K hK=>?_);case hy=>rfl));simp only [go_sem, Nat.reduceEqDiff, Nat.reduceAdd, Nat.reduceMul, Nat.reduceLeDiff, Nat.reduceLT, Int.reduceLT, Int.reduceLE, Int.reduceEq, Int.reduceNeg, Int.reduceToNat, Nat.reducePow, reduceIte, reduceCtorEq, k14, k1, t0, t0', cx, tp])|((with_reducible first|refine jW ?hy ?_|refine jY ?hy ?_);case hy=>rfl)|((with_reducible first|refine jX ?hy ?_|refine jZ ?hy ?_);case hy=>rfl)|((with_reducible refine jF ?hy ?_);case hy=>decide))
 exact fin _ hS7.fr
end Go.Proofs.Ytnlafhnbakipmaa
namespace Go.To
open Go Go.Hp Go.Sp Go.Proofs.Ytnlafhnbakipmaa
theorem turned_idem {l : List St} {v : Nat} (hn : l.Nodup) (hv : (v, v) ∈ l) : turnedL (turnedL l v) v = turnedL l v := by
 have h1 := turnedL_eq hn (split_idx hv).1
 have hn2 : (turnedL l v).Nodup := (turned_perm l v).nodup_iff.2 hn
 rw [turnedL_eq (a := []) hn2 h1, List.append_nil, h1]
 rfl
theorem split_one {α : Type} : ∀ {a b c d : List α} {x : α}, x ∉ a → x ∉ c → a ++ x :: b = c ++ x :: d → a = c ∧ b = d
 | [], b, [], d, x, _, _, e => ⟨rfl, (List.cons.inj e).2⟩
 | [], b, y :: c, d, x, _, hc, e => absurd (by rw [(List.cons.inj e).1]; exact .head _) hc
 | y :: a, b, [], d, x, ha, _, e => absurd (by rw [← (List.cons.inj e).1]; exact .head _) ha
 | y :: a, b, z :: c, d, x, ha, hc, e => by
  obtain ⟨e1, e2⟩ := List.cons.inj e
  obtain ⟨e3, e4⟩ := split_one (fun h => ha (.tail _ h)) (fun h => hc (.tail _ h)) e2
  exact ⟨by rw [e1, e3], e4⟩
theorem cut_one {l1 m l2 k1 n k2 : List St} {x y p q : St} (hn : (k1 ++ p :: (n ++ q :: k2)).Nodup) (hxy : (x = p ∧ y = q) ∨ (x = q ∧ y = p)) (e : k1 ++ p :: (n ++ q :: k2) = l1 ++ x :: (m ++ y :: l2)) : l1 = k1 ∧ m = n ∧ l2 = k2 := by
 have hn2 := hn
 rw [e] at hn2
 rw [List.nodup_append, List.nodup_cons, List.nodup_append, List.nodup_cons] at hn hn2
 have nx : x ∉ l1 := fun h => hn2.2.2 _ h _ (.head _) rfl
 have ny : y ∉ m := fun h => hn2.2.1.2.2.2 _ h _ (.head _) rfl
 have np : p ∉ k1 := fun h => hn.2.2 _ h _ (.head _) rfl
 have nq : q ∉ n := fun h => hn.2.1.2.2.2 _ h _ (.head _) rfl
 rcases hxy with ⟨rfl, rfl⟩ | ⟨rfl, rfl⟩
 ·obtain ⟨e1, e2⟩ := split_one np nx e
  obtain ⟨e3, e4⟩ := split_one nq ny e2
  exact ⟨e1.symm, e3.symm, e4.symm⟩
 ·exfalso
  have np2 : y ∉ l1 ∧ y ≠ x := ⟨fun h => hn2.2.2 _ h _ (.tail _ (List.mem_append_right _ (.head _))) rfl, fun h => hn2.2.1.1 (by rw [← h]; exact List.mem_append_right _ (.head _))⟩
  have hnp : y ∉ l1 ++ x :: m := fun h => by
   rcases List.mem_append.1 h with h | h
   ·exact np2.1 h
   ·rcases List.mem_cons.1 h with h | h
    ·exact np2.2 h
    ·exact ny h
  have e2 : k1 ++ y :: (n ++ x :: k2) = (l1 ++ x :: m) ++ y :: l2 := by rw [e]; simp
  obtain ⟨e3, _⟩ := split_one np hnp e2
  exact hn.2.2 x (by rw [e3]; simp) x (.tail _ (List.mem_append_right _ (.head _))) rfl
theorem idx_min {v : Nat} : ∀ {xs : List Nat} {i : Nat}, xs[i]? = some v → xs.idxOf v ≤ i
 | [], i, h => by cases h
 | x :: xs, 0, h => by
  simp at h
  simp [h]
 | x :: xs, i + 1, h => by
  have := idx_min (xs := xs) (i := i) (by simpa using h)
  rw [List.idxOf_cons]
  cases x == v <;> simp <;> omega
def RestV (Q : Tq) (i : Nat) : Prop := ∀ w, i ≤ w → w < Q.n → Q.row w = [(w, w)]
theorem RestV.link {Q : Tq} {i k : Nat} (h : RestV Q i) (hok : Q.Ok) (hi : i < Q.n) (hk : k < i) : (i, i) ∉ Q.row k ∧ RestV (Q.lay (Q.linkRow k i)) (i + 1) := by
 have hkn : k < Q.n := by omega
 have hne : (i, i) ∉ Q.row k := fun hm => by
  have h1 := (hok.same k hkn i hm).2
  have h2 := hok.self k hkn
  rw [← h1, h i (Nat.le_refl _) hi] at h2
  simp only [List.mem_singleton, Prod.mk.injEq] at h2
  omega
 refine ⟨hne, fun w hw hwn => ?_⟩
 have hwn : w < Q.n := hwn
 show (if (w, w) ∈ Q.linkRow k i then Q.linkRow k i else Q.row w) = _
 rw [if_neg]
 ·exact h w (by omega) hwn
 ·rw [Tq.mem_linkRow (hok.self k hkn), h i (Nat.le_refl _) hi]
  simp only [List.mem_singleton, Prod.mk.injEq]
  rintro (g | g | g | g)
  ·have h1 := (hok.same k hkn w g).2
   have h2 := hok.self k hkn
   rw [← h1, h w (by omega) hwn] at h2
   simp only [List.mem_singleton, Prod.mk.injEq] at h2
   omega
  ·omega
  ·omega
  ·omega
end Go.To
namespace Go.Proofs.Ytnlafhnbakipmaa
open Go Go.Hp Go.Sp Go.To
set_option linter.all false
set_option maxRecDepth 100000
set_option maxHeartbeats 1600000
def KR (H : Heap) (T : Nat → Prop) (B : Option Nat) (v : Value) (xs : List Int) : Prop := IR H B v xs ∧ ∀ b, B = some b → b < H.size ∧ ¬ T b
section
variable {H0 H H' : Heap} {e : Env} {Z : HX → Env → Heap → Prop} {t : Nat} {T T' : Nat → Prop} {Q : Tq} {B : Option Nat} {v : Value} {xs : List Int}
theorem KR.op (h : KR H T B v xs) (hf : Fr T H H') (hT : ∀ b, T' b → T b ∨ H.size ≤ b) : KR H' T' B v xs :=
 ⟨h.1.frame hf fun g hg => (h.2 g hg).2, fun b hb => ⟨Nat.lt_of_lt_of_le (h.2 b hb).1 hf.size, fun hx => by
  rcases hT b hx with h' | h'
  ·exact (h.2 b hb).2 h'
  ·have := (h.2 b hb).1; omega⟩⟩
theorem KR.grow (h : KR H T B v xs) (hf : Fr (fun _ => False) H H') : KR H' T B v xs := ⟨h.1.frame hf fun _ _ h => h, fun b hb => ⟨Nat.lt_of_lt_of_le (h.2 b hb).1 hf.size, (h.2 b hb).2⟩⟩
theorem KR.new (hi : IR H' B v xs) (hB : ∀ b, B = some b → H.size ≤ b ∧ ¬ T b) : KR H' T B v xs := ⟨hi, fun b hb => ⟨hi.lt hb, (hB b hb).2⟩⟩
theorem KR.sl (h : KR H T B v xs) {n : Nat} (hn : xs.length = n) : ∃ a c, v = .slice a n c := by
 obtain ⟨a, c, hv⟩ := h.1.slice
 exact ⟨a, c, by rw [hv, hn]⟩
theorem tdiv3 (z : Int) (h1 : -9223372036854775808 ≤ z) (h2 : z ≤ 9223372036854775807) : -9223372036854775808 ≤ z.tdiv 3 ∧ z.tdiv 3 ≤ 9223372036854775807 := by
 rcases Int.lt_or_le z 0 with h | h
 ·have : z.tdiv 3 = -((-z) / 3) := by rw [← Int.tdiv_eq_ediv_of_nonneg (by omega), Int.neg_tdiv, Int.neg_neg]
  omega
 ·rw [Int.tdiv_eq_ediv_of_nonneg h]; omega
theorem baA {a : Option Addr} {len cap n : Nat} {zs : Nat → Int} (hin : InInts H0 a len zs) (hn : n = 2 + min len 62) (hS : TS H0 H t T (Tq.new n))
  (e0 : e 0 = .slice a len cap) (e8 : e 8 = .int .i64 (n : Nat)) (e9 : e 9 = .pointer (some ⟨t, 0, none⟩)) (e11 : e 11 = .int .i64 1)
  (hQ : ∀ e' H' T' Q', e' 1 = e 1 → e' 2 = e 2 → e' 8 = .int .i64 (n : Nat) → e' 9 = .pointer (some ⟨t, 0, none⟩) → TS H0 H' t T' Q' → Q'.n = n → Z .normal e' H') :
  codeX Try.prog [] (loopAt Try.f4.body 0) (blockQ 0 Z) e H := by
 refine x_loop (fun m e' H' => ∃ (i : Nat) (T' : Nat → Prop) (Q' : Tq), e' 11 = .int .i64 (i : Nat) ∧ 1 ≤ i ∧ i ≤ n ∧ TS H0 H' t T' Q' ∧ RestV Q' i ∧ Q'.n = n ∧ m = n - i) (n - 1) ⟨1, T, Tq.new n, e11, Nat.le_refl _, by omega, hS, fun w _ _ => rfl, rfl, rfl⟩ ?_
 rintro m e1 H1 ⟨i, T1, Q1, i11, hi1, hi, hS1, hG, hQn, rfl⟩ hoff
 have i0 := (hoff 0 rfl).trans e0
 have i8 := (hoff 8 rfl).trans e8
 have i9 := (hoff 9 rfl).trans e9
 have keep : e1 1 = e 1 ∧ e1 2 = e 2 := ⟨hoff 1 rfl, hoff 2 rfl⟩
 clear hoff e0 e8 e9 e11
 have ew : IntKind.i64.wrap ((i : Int) - 1) = ((i - 1 : Nat) : Int) := by rw [wrap_i64] <;> omega
 by_cases hlt : i < n
 ·by_cases hl1 : i - 1 < len
  ·obtain ⟨p, rfl, cz, hz1, hz2⟩ := (hin.frame hS1.fr) (i - 1) hl1
   have ew2 : IntKind.i64.wrap ((i : Int) + 1) = ((i + 1 : Nat) : Int) := by rw [wrap_i64] <;> omega
   obtain ⟨d1, d2⟩ := tdiv3 (zs (i - 1)) hz1 hz2
   have ewd : IntKind.i64.wrap ((zs (i - 1)).tdiv 3) = (zs (i - 1)).tdiv 3 := by rw [wrap_i64] <;> omega
   have z2 : ((3 : Int) = 0) = False := by simp
   repeat' (first|(with_reducible first|refine jA ?_|(refine hK _ _ ?_;clear hK K)|refine jJ fun K hK=>?_|refine jK ?_|refine jL ?_|refine jM ?_|refine jN ?_|refine jO ?_|refine jP ?_|refine jQ ?_|(refine jB ?_;clear hK K)|(refine jC ?_;clear hK K)|refine jD ?_|refine jE ?_|refine jG ?_|refine jH ?_|refine jI ?_)|((with_reducible refine jR ?hq ?_);case hq=>rfl)|((first|(with_reducible first|refine jS fun K hK=>?_|refine jT ?_|refine jU ?_)|((with_reducible refine jV ?hy fun K hK=>?_);case hy=>rfl));simp only [go_sem, Nat.reduceEqDiff, Nat.reduceAdd, Nat.reduceMul, Nat.reduceLeDiff, Nat.reduceLT, Int.reduceLT, Int.reduceLE, Int.reduceEq, Int.reduceNeg, Int.reduceToNat, Nat.reducePow, reduceIte, reduceCtorEq, i0, i8, i9, i11, hlt, ew, hl1, cz, ewd, z2])|((with_reducible first|refine jW ?hy ?_|refine jY ?hy ?_);case hy=>rfl)|((with_reducible first|refine jX ?hy ?_|refine jZ ?hy ?_);case hy=>rfl)|((with_reducible refine jF ?hy ?_);case hy=>decide))
   refine Pkisthmuslaw04.pick_ok d1 d2 (by omega) ?_
   obtain ⟨k0, k1⟩ := pickN_range ((zs (i - 1)).tdiv 3) (n := (i : Int)) (by omega)
   obtain ⟨k, ek⟩ := Int.eq_ofNat_of_zero_le k0
   rw [ek] at k1 ⊢
   have hki : k < i := by omega
   repeat' (first|(with_reducible first|refine jA ?_|(refine hK _ _ ?_;clear hK K)|refine jJ fun K hK=>?_|refine jK ?_|refine jL ?_|refine jM ?_|refine jN ?_|refine jO ?_|refine jP ?_|refine jQ ?_|(refine jB ?_;clear hK K)|(refine jC ?_;clear hK K)|refine jD ?_|refine jE ?_|refine jG ?_|refine jH ?_|refine jI ?_)|((with_reducible refine jR ?hq ?_);case hq=>rfl)|((first|(with_reducible first|refine jS fun K hK=>?_|refine jT ?_|refine jU ?_)|((with_reducible refine jV ?hy fun K hK=>?_);case hy=>rfl));simp only [go_sem, Nat.reduceEqDiff, Nat.reduceAdd, Nat.reduceMul, Nat.reduceLeDiff, Nat.reduceLT, Int.reduceLT, Int.reduceLE, Int.reduceEq, Int.reduceNeg, Int.reduceToNat, Nat.reducePow, reduceIte, reduceCtorEq, i0, i8, i9, i11, ew, hl1, cz])|((with_reducible first|refine jW ?hy ?_|refine jY ?hy ?_);case hy=>rfl)|((with_reducible first|refine jX ?hy ?_|refine jZ ?hy ?_);case hy=>rfl)|((with_reducible refine jF ?hy ?_);case hy=>decide))
   refine Pkisthmuslaw04.pick_ok hz1 hz2 (by omega) ?_
   have z0 : ((0 : Int) != 0) = false := rfl
   by_cases hp : pickN (zs (i - 1)) 3 = 0
   ·have t1 : (pickN (zs (i - 1)) 3 == 0) = true := by simp [hp]
    repeat' (first|(with_reducible first|refine jA ?_|(refine hK _ _ ?_;clear hK K)|refine jJ fun K hK=>?_|refine jK ?_|refine jL ?_|refine jM ?_|refine jN ?_|refine jO ?_|refine jP ?_|refine jQ ?_|(refine jB ?_;clear hK K)|(refine jC ?_;clear hK K)|refine jD ?_|refine jE ?_|refine jG ?_|refine jH ?_|refine jI ?_)|((with_reducible refine jR ?hq ?_);case hq=>rfl)|((first|(with_reducible first|refine jS fun K hK=>?_|refine jT ?_|refine jU ?_)|((with_reducible refine jV ?hy fun K hK=>?_);case hy=>rfl));simp only [go_sem, Nat.reduceEqDiff, Nat.reduceAdd, Nat.reduceMul, Nat.reduceLeDiff, Nat.reduceLT, Int.reduceLT, Int.reduceLE, Int.reduceEq, Int.reduceNeg, Int.reduceToNat, Nat.reducePow, reduceIte, reduceCtorEq, i9, i11, t1, ew2])|((with_reducible first|refine jW ?hy ?_|refine jY ?hy ?_);case hy=>rfl)|((with_reducible first|refine jX ?hy ?_|refine jZ ?hy ?_);case hy=>rfl)|((with_reducible refine jF ?hy ?_);case hy=>decide))
    exact loop_normal (m' := n - (i + 1)) (by omega) ⟨i + 1, T1, Q1, rfl, by omega, hlt, hS1, fun w h1 h2 => hG w (by omega) h2, hQn, rfl⟩
   ·have t1 : (pickN (zs (i - 1)) 3 == 0) = false := by simp [hp]
    repeat' (first|(with_reducible first|refine jA ?_|(refine hK _ _ ?_;clear hK K)|refine jJ fun K hK=>?_|refine jK ?_|refine jL ?_|refine jM ?_|refine jN ?_|refine jO ?_|refine jP ?_|refine jQ ?_|(refine jB ?_;clear hK K)|(refine jC ?_;clear hK K)|refine jD ?_|refine jE ?_|refine jG ?_|refine jH ?_|refine jI ?_)|((with_reducible refine jR ?hq ?_);case hq=>rfl)|((first|(with_reducible first|refine jS fun K hK=>?_|refine jT ?_|refine jU ?_)|((with_reducible refine jV ?hy fun K hK=>?_);case hy=>rfl));simp only [go_sem, Nat.reduceEqDiff, Nat.reduceAdd, Nat.reduceMul, Nat.reduceLeDiff, Nat.reduceLT, Int.reduceLT, Int.reduceLE, Int.reduceEq, Int.reduceNeg, Int.reduceToNat, Nat.reducePow, reduceIte, reduceCtorEq, i9, i11, t1])|((with_reducible first|refine jW ?hy ?_|refine jY ?hy ?_);case hy=>rfl)|((with_reducible first|refine jX ?hy ?_|refine jZ ?hy ?_);case hy=>rfl)|((with_reducible refine jF ?hy ?_);case hy=>decide))
    obtain ⟨hne, hG'⟩ := RestV.link hG hS1.to.ok (by omega) hki
    have hq := linkQ_new (by omega) (by omega) hne
    refine tq_link hS1.to fun H2 T2 hM2 hf2 hT2 => ?_
    have hS2 := hS1.op hM2 hf2 hT2
    rw [hq] at hS2 ⊢
    repeat' (first|(with_reducible first|refine jA ?_|(refine hK _ _ ?_;clear hK K)|refine jJ fun K hK=>?_|refine jK ?_|refine jL ?_|refine jM ?_|refine jN ?_|refine jO ?_|refine jP ?_|refine jQ ?_|(refine jB ?_;clear hK K)|(refine jC ?_;clear hK K)|refine jD ?_|refine jE ?_|refine jG ?_|refine jH ?_|refine jI ?_)|((with_reducible refine jR ?hq ?_);case hq=>rfl)|((first|(with_reducible first|refine jS fun K hK=>?_|refine jT ?_|refine jU ?_)|((with_reducible refine jV ?hy fun K hK=>?_);case hy=>rfl));simp only [go_sem, Nat.reduceEqDiff, Nat.reduceAdd, Nat.reduceMul, Nat.reduceLeDiff, Nat.reduceLT, Int.reduceLT, Int.reduceLE, Int.reduceEq, Int.reduceNeg, Int.reduceToNat, Nat.reducePow, reduceIte, reduceCtorEq, z0, i11, ew2])|((with_reducible first|refine jW ?hy ?_|refine jY ?hy ?_);case hy=>rfl)|((with_reducible first|refine jX ?hy ?_|refine jZ ?hy ?_);case hy=>rfl)|((with_reducible refine jF ?hy ?_);case hy=>decide))
    exact loop_normal (m' := n - (i + 1)) (by omega) ⟨i + 1, T2, _, rfl, by omega, hlt, hS2, hG', hQn, rfl⟩
  ·have t1 : (i - 1 < len) = False := by simp; omega
   repeat' (first|(with_reducible first|refine jA ?_|(refine hK _ _ ?_;clear hK K)|refine jJ fun K hK=>?_|refine jK ?_|refine jL ?_|refine jM ?_|refine jN ?_|refine jO ?_|refine jP ?_|refine jQ ?_|(refine jB ?_;clear hK K)|(refine jC ?_;clear hK K)|refine jD ?_|refine jE ?_|refine jG ?_|refine jH ?_|refine jI ?_)|((with_reducible refine jR ?hq ?_);case hq=>rfl)|((first|(with_reducible first|refine jS fun K hK=>?_|refine jT ?_|refine jU ?_)|((with_reducible refine jV ?hy fun K hK=>?_);case hy=>rfl));simp only [go_sem, Nat.reduceEqDiff, Nat.reduceAdd, Nat.reduceMul, Nat.reduceLeDiff, Nat.reduceLT, Int.reduceLT, Int.reduceLE, Int.reduceEq, Int.reduceNeg, Int.reduceToNat, Nat.reducePow, reduceIte, reduceCtorEq, i0, i8, i11, hlt, ew, t1])|((with_reducible first|refine jW ?hy ?_|refine jY ?hy ?_);case hy=>rfl)|((with_reducible first|refine jX ?hy ?_|refine jZ ?hy ?_);case hy=>rfl)|((with_reducible refine jF ?hy ?_);case hy=>decide))
   exact hQ _ _ _ _ keep.1 keep.2 i8 i9 hS1 hQn
 ·have t1 : (i < n) = False := by simp; omega
  repeat' (first|(with_reducible first|refine jA ?_|(refine hK _ _ ?_;clear hK K)|refine jJ fun K hK=>?_|refine jK ?_|refine jL ?_|refine jM ?_|refine jN ?_|refine jO ?_|refine jP ?_|refine jQ ?_|(refine jB ?_;clear hK K)|(refine jC ?_;clear hK K)|refine jD ?_|refine jE ?_|refine jG ?_|refine jH ?_|refine jI ?_)|((with_reducible refine jR ?hq ?_);case hq=>rfl)|((first|(with_reducible first|refine jS fun K hK=>?_|refine jT ?_|refine jU ?_)|((with_reducible refine jV ?hy fun K hK=>?_);case hy=>rfl));simp only [go_sem, Nat.reduceEqDiff, Nat.reduceAdd, Nat.reduceMul, Nat.reduceLeDiff, Nat.reduceLT, Int.reduceLT, Int.reduceLE, Int.reduceEq, Int.reduceNeg, Int.reduceToNat, Nat.reducePow, reduceIte, reduceCtorEq, i0, i8, i11, t1])|((with_reducible first|refine jW ?hy ?_|refine jY ?hy ?_);case hy=>rfl)|((with_reducible first|refine jX ?hy ?_|refine jZ ?hy ?_);case hy=>rfl)|((with_reducible refine jF ?hy ?_);case hy=>decide))
  exact hQ _ _ _ _ keep.1 keep.2 i8 i9 hS1 hQn
theorem baB {B : Option Nat} {va : Value} {xs : List Nat} {v : Nat} (hx : IR H B va (xs.map Int.ofNat)) (hl : xs.length ≤ 64) (hv : v ∈ xs) (e15 : e 15 = va) (e2 : e 2 = .int .i64 (v : Nat)) (e26 : e 26 = .int .i64 0)
  (hQ : ∀ e', e' 2 = e 2 → e' 9 = e 9 → e' 13 = e 13 → e' 15 = e 15 → e' 22 = e 22 → e' 23 = e 23 → e' 24 = e 24 → e' 25 = e 25 → e' 26 = .int .i64 (xs.idxOf v : Nat) → Z .normal e' H) :
  codeX Try.prog [] (loopAt Try.f4.body 1) (blockQ 2 Z) e H := by
 have hk := List.idxOf_lt_length_of_mem hv
 have hlen : (xs.map Int.ofNat).length = xs.length := by simp
 refine x_loop (fun m e' H' => ∃ i : Nat, H' = H ∧ e' 26 = .int .i64 (i : Nat) ∧ i ≤ xs.idxOf v ∧ m = xs.length - i) xs.length ⟨0, rfl, e26, Nat.zero_le _, rfl⟩ ?_
 rintro m e1 H1 ⟨i, rfl, i26, hi, rfl⟩ hoff
 have i15 := (hoff 15 rfl).trans e15
 have i2 := (hoff 2 rfl).trans e2
 have keep : e1 2 = e 2 ∧ e1 9 = e 9 ∧ e1 13 = e 13 ∧ e1 15 = e 15 ∧ e1 22 = e 22 ∧ e1 23 = e 23 ∧ e1 24 = e 24 ∧ e1 25 = e 25 := ⟨hoff 2 rfl, hoff 9 rfl, hoff 13 rfl, hoff 15 rfl, hoff 22 rfl, hoff 23 rfl, hoff 24 rfl, hoff 25 rfl⟩
 clear hoff
 have hlt : i < xs.length := by omega
 obtain ⟨y, hy⟩ : ∃ y, xs[i]? = some y := ⟨_, List.getElem?_eq_getElem hlt⟩
 have hy' : (xs.map Int.ofNat)[i]? = some (y : Int) := by rw [List.getElem?_map, hy]; rfl
 obtain ⟨g, c, rfl, rfl, cy⟩ := hx.read hy'
 rw [hlen] at i15
 have ew2 : IntKind.i64.wrap ((i : Int) + 1) = ((i + 1 : Nat) : Int) := by rw [wrap_i64] <;> omega
 by_cases hyv : y = v
 ·have t1 : ((y : Int) != (v : Int)) = false := by simp [hyv]
  have hidx : xs.idxOf v = i := by
   exact Nat.le_antisymm (idx_min (by rw [hy, hyv])) hi
  repeat' (first|(with_reducible first|refine jA ?_|(refine hK _ _ ?_;clear hK K)|refine jJ fun K hK=>?_|refine jK ?_|refine jL ?_|refine jM ?_|refine jN ?_|refine jO ?_|refine jP ?_|refine jQ ?_|(refine jB ?_;clear hK K)|(refine jC ?_;clear hK K)|refine jD ?_|refine jE ?_|refine jG ?_|refine jH ?_|refine jI ?_)|((with_reducible refine jR ?hq ?_);case hq=>rfl)|((first|(with_reducible first|refine jS fun K hK=>?_|refine jT ?_|refine jU ?_)|((with_reducible refine jV ?hy fun K hK=>?_);case hy=>rfl));simp only [go_sem, Nat.reduceEqDiff, Nat.reduceAdd, Nat.reduceMul, Nat.reduceLeDiff, Nat.reduceLT, Int.reduceLT, Int.reduceLE, Int.reduceEq, Int.reduceNeg, Int.reduceToNat, Nat.reducePow, reduceIte, reduceCtorEq, i15, i2, i26, hlt, cy, t1])|((with_reducible first|refine jW ?hy ?_|refine jY ?hy ?_);case hy=>rfl)|((with_reducible first|refine jX ?hy ?_|refine jZ ?hy ?_);case hy=>rfl)|((with_reducible refine jF ?hy ?_);case hy=>decide))
  obtain ⟨k1, k2, k3, k4, k5, k6, k7, k8⟩ := keep
  exact hQ _ k1 k2 k3 k4 k5 k6 k7 k8 (i26.trans (by rw [hidx]))
 ·have t1 : ((y : Int) != (v : Int)) = true := by simp; omega
  have hidx : xs.idxOf v ≠ i := fun e => by
   have e1 := List.getElem_idxOf hk
   have e2 : xs[xs.idxOf v]? = some y := by rw [e]; exact hy
   rw [List.getElem?_eq_getElem hk, e1] at e2
   exact hyv (Option.some.inj e2).symm
  repeat' (first|(with_reducible first|refine jA ?_|(refine hK _ _ ?_;clear hK K)|refine jJ fun K hK=>?_|refine jK ?_|refine jL ?_|refine jM ?_|refine jN ?_|refine jO ?_|refine jP ?_|refine jQ ?_|(refine jB ?_;clear hK K)|(refine jC ?_;clear hK K)|refine jD ?_|refine jE ?_|refine jG ?_|refine jH ?_|refine jI ?_)|((with_reducible refine jR ?hq ?_);case hq=>rfl)|((first|(with_reducible first|refine jS fun K hK=>?_|refine jT ?_|refine jU ?_)|((with_reducible refine jV ?hy fun K hK=>?_);case hy=>rfl));simp only [go_sem, Nat.reduceEqDiff, Nat.reduceAdd, Nat.reduceMul, Nat.reduceLeDiff, Nat.reduceLT, Int.reduceLT, Int.reduceLE, Int.reduceEq, Int.reduceNeg, Int.reduceToNat, Nat.reducePow, reduceIte, reduceCtorEq, i15, i2, i26, hlt, cy, t1, ew2])|((with_reducible first|refine jW ?hy ?_|refine jY ?hy ?_);case hy=>rfl)|((with_reducible first|refine jX ?hy ?_|refine jZ ?hy ?_);case hy=>rfl)|((with_reducible refine jF ?hy ?_);case hy=>decide))
  exact loop_normal (m' := xs.length - (i + 1)) (by omega) ⟨i + 1, rfl, rfl, by omega, rfl⟩
end
end Go.Proofs.Ytnlafhnbakipmaa
namespace Go.Proofs.Ytnlafhnbakipmaa
open Go Go.Hp Go.Sp Go.To
set_option linter.all false
set_option maxRecDepth 100000
set_option maxHeartbeats 1600000
theorem walkQ_ok {Q : Tq} {v : Nat} (hv : v < Q.n) : Q.walkQ (v : Int) = ((wl (Q.row v)).map Int.ofNat, 0) := by
 unfold Tq.walkQ
 rw [inB_of hv, if_pos rfl, Int.toNat_natCast, walkL_eq]
theorem rerootQ_ok {Q : Tq} {v : Nat} (hv : v < Q.n) : Q.rerootQ (v : Int) = (0, Q.lay (turnedL (Q.row v) v)) := by
 unfold Tq.rerootQ
 rw [inB_of hv, if_pos rfl, Int.toNat_natCast]
theorem sameQ_ok {Q : Tq} {u v : Nat} (hu : u < Q.n) (hv : v < Q.n) : Q.sameQ (u : Int) (v : Int) = (decide ((v, v) ∈ Q.row u), 0) := by
 unfold Tq.sameQ
 rw [inB_of hu, inB_of hv, Bool.and_self, if_pos rfl, Int.toNat_natCast, Int.toNat_natCast]
theorem wl_len {Q : Tq} (hok : Q.Ok) {v : Nat} (hv : v < Q.n) : (wl (Q.row v)).length ≤ 64 := by
 have h := (wl_nodup (hok.nd v hv)).length_le_of_subset (l₂ := List.range Q.n) (fun x hx => by
  rw [mem_wl] at hx
  rw [List.mem_range]
  exact (hok.same v hv x hx).1)
 have := hok.n64
 rw [List.length_range] at h
 omega
theorem map_inj {xs ys : List Nat} : xs.map Int.ofNat = ys.map Int.ofNat ↔ xs = ys := by
 constructor
 ·intro h
  have := congrArg (List.map Int.toNat) h
  simpa [List.map_map, Function.comp_def] using this
 ·intro h; rw [h]
section
variable {H0 H H' : Heap} {e : Env} {Z : HX → Env → Heap → Prop} {t : Nat} {T T' : Nat → Prop} {Q : Tq} {B : Option Nat} {v : Value} {xs : List Int}
theorem KR.walk {B : Option Nat} {v : Value} {xs : List Int} (hi : IR H' B v xs) (hB : ∀ b, B = some b → H.size ≤ b ∧ ¬ T b) : KR H' T B v xs := KR.new hi hB
theorem tourBack {H : Heap} {a : Option Addr} {len cap : Nat} {zs : Nat → Int} {u v : Int} {L : Value → Heap → Prop} (hin : InInts H a len zs) (hl : len ≤ 9223372036854775807) (u0 : -9223372036854775808 ≤ u) (u1 : u ≤ 9223372036854775807) (v0 : -9223372036854775808 ≤ v) (v1 : v ≤ 9223372036854775807)
  (fin : ∀ H', Fr (fun _ => False) H H' → L (.bool true) H') : CallsH Try.prog 4 #[.slice a len cap, .int .i64 u, .int .i64 v] H L := by
 obtain ⟨n, hn⟩ : ∃ n, n = 2 + min len 62 := ⟨_, rfl⟩
 have hn64 : n ≤ 64 := by omega
 have hn1 : 1 ≤ n := by omega
 have emin : (if (62 : Int) < (len : Int) then (62 : Int) else (len : Int)) = ((min len 62 : Nat) : Int) := by
  split <;> omega
 have ew : IntKind.i64.wrap (2 + ((min len 62 : Nat) : Int)) = (n : Int) := by rw [wrap_i64] <;> omega
 have z0 : ((0 : Int) != 0) = false := rfl
 have z00 : ((0 : Int) == 0) = true := rfl
 have z41 : ((41 : Int) == 0) = false := rfl
 refine call4 (by simp) ?_
 simp only [Try.f4, Option.getD_some]
 repeat' (first|(with_reducible first|refine jA ?_|(refine hK _ _ ?_;clear hK K)|refine jJ fun K hK=>?_|refine jK ?_|refine jL ?_|refine jM ?_|refine jN ?_|refine jO ?_|refine jP ?_|refine jQ ?_|(refine jB ?_;clear hK K)|(refine jC ?_;clear hK K)|refine jD ?_|refine jE ?_|refine jG ?_|refine jH ?_|refine jI ?_)|((with_reducible refine jR ?hq ?_);case hq=>rfl)|((first|(with_reducible first|refine jS fun K hK=>?_|refine jT ?_|refine jU ?_)|((with_reducible refine jV ?hy fun K hK=>?_);case hy=>rfl));simp only [go_sem, Nat.reduceEqDiff, Nat.reduceAdd, Nat.reduceMul, Nat.reduceLeDiff, Nat.reduceLT, Int.reduceLT, Int.reduceLE, Int.reduceEq, Int.reduceNeg, Int.reduceToNat, Nat.reducePow, reduceIte, reduceCtorEq])|((with_reducible first|refine jW ?hy ?_|refine jY ?hy ?_);case hy=>rfl)|((with_reducible first|refine jX ?hy ?_|refine jZ ?hy ?_);case hy=>rfl)|((with_reducible refine jF ?hy ?_);case hy=>decide))
 refine awake_ok fun H1 hf1 => ?_
 repeat' (first|(with_reducible first|refine jA ?_|(refine hK _ _ ?_;clear hK K)|refine jJ fun K hK=>?_|refine jK ?_|refine jL ?_|refine jM ?_|refine jN ?_|refine jO ?_|refine jP ?_|refine jQ ?_|(refine jB ?_;clear hK K)|(refine jC ?_;clear hK K)|refine jD ?_|refine jE ?_|refine jG ?_|refine jH ?_|refine jI ?_)|((with_reducible refine jR ?hq ?_);case hq=>rfl)|((first|(with_reducible first|refine jS fun K hK=>?_|refine jT ?_|refine jU ?_)|((with_reducible refine jV ?hy fun K hK=>?_);case hy=>rfl));simp only [go_sem, Nat.reduceEqDiff, Nat.reduceAdd, Nat.reduceMul, Nat.reduceLeDiff, Nat.reduceLT, Int.reduceLT, Int.reduceLE, Int.reduceEq, Int.reduceNeg, Int.reduceToNat, Nat.reducePow, reduceIte, reduceCtorEq, emin, ew])|((with_reducible first|refine jW ?hy ?_|refine jY ?hy ?_);case hy=>rfl)|((with_reducible first|refine jX ?hy ?_|refine jZ ?hy ?_);case hy=>rfl)|((with_reducible refine jF ?hy ?_);case hy=>decide))
 refine tnew_ok hn1 hn64 fun H2 t T2 hM2 hf2 hT2 => ?_
 have hS2 := (TS.start hM2 hf2 hT2).base hf1
 repeat' (first|(with_reducible first|refine jA ?_|(refine hK _ _ ?_;clear hK K)|refine jJ fun K hK=>?_|refine jK ?_|refine jL ?_|refine jM ?_|refine jN ?_|refine jO ?_|refine jP ?_|refine jQ ?_|(refine jB ?_;clear hK K)|(refine jC ?_;clear hK K)|refine jD ?_|refine jE ?_|refine jG ?_|refine jH ?_|refine jI ?_)|((with_reducible refine jR ?hq ?_);case hq=>rfl)|((first|(with_reducible first|refine jS fun K hK=>?_|refine jT ?_|refine jU ?_)|((with_reducible refine jV ?hy fun K hK=>?_);case hy=>rfl));simp only [go_sem, Nat.reduceEqDiff, Nat.reduceAdd, Nat.reduceMul, Nat.reduceLeDiff, Nat.reduceLT, Int.reduceLT, Int.reduceLE, Int.reduceEq, Int.reduceNeg, Int.reduceToNat, Nat.reducePow, reduceIte, reduceCtorEq, z0])|((with_reducible first|refine jW ?hy ?_|refine jY ?hy ?_);case hy=>rfl)|((with_reducible first|refine jX ?hy ?_|refine jZ ?hy ?_);case hy=>rfl)|((with_reducible refine jF ?hy ?_);case hy=>decide))
 refine baA (hin) hn hS2 rfl rfl rfl rfl ?_
 intro e' H3 T3 Q3 i1 i2 i8 i9 hS3 hQn
 have i1 : e' 1 = .int .i64 u := i1.trans rfl
 have i2 : e' 2 = .int .i64 v := i2.trans rfl
 repeat' (first|(with_reducible first|refine jA ?_|(refine hK _ _ ?_;clear hK K)|refine jJ fun K hK=>?_|refine jK ?_|refine jL ?_|refine jM ?_|refine jN ?_|refine jO ?_|refine jP ?_|refine jQ ?_|(refine jB ?_;clear hK K)|(refine jC ?_;clear hK K)|refine jD ?_|refine jE ?_|refine jG ?_|refine jH ?_|refine jI ?_)|((with_reducible refine jR ?hq ?_);case hq=>rfl)|((first|(with_reducible first|refine jS fun K hK=>?_|refine jT ?_|refine jU ?_)|((with_reducible refine jV ?hy fun K hK=>?_);case hy=>rfl));simp only [go_sem, Nat.reduceEqDiff, Nat.reduceAdd, Nat.reduceMul, Nat.reduceLeDiff, Nat.reduceLT, Int.reduceLT, Int.reduceLE, Int.reduceEq, Int.reduceNeg, Int.reduceToNat, Nat.reducePow, reduceIte, reduceCtorEq, i1, i2, i8])|((with_reducible first|refine jW ?hy ?_|refine jY ?hy ?_);case hy=>rfl)|((with_reducible first|refine jX ?hy ?_|refine jZ ?hy ?_);case hy=>rfl)|((with_reducible refine jF ?hy ?_);case hy=>decide))
 refine Pkisthmuslaw04.pick_ok u0 u1 (by omega) ?_
 obtain ⟨a0, a1⟩ := pickN_range u (n := (n : Int)) (by omega)
 obtain ⟨p, ep⟩ := Int.eq_ofNat_of_zero_le a0
 rw [ep] at a1 ⊢
 have hp : p < Q3.n := by omega
 repeat' (first|(with_reducible first|refine jA ?_|(refine hK _ _ ?_;clear hK K)|refine jJ fun K hK=>?_|refine jK ?_|refine jL ?_|refine jM ?_|refine jN ?_|refine jO ?_|refine jP ?_|refine jQ ?_|(refine jB ?_;clear hK K)|(refine jC ?_;clear hK K)|refine jD ?_|refine jE ?_|refine jG ?_|refine jH ?_|refine jI ?_)|((with_reducible refine jR ?hq ?_);case hq=>rfl)|((first|(with_reducible first|refine jS fun K hK=>?_|refine jT ?_|refine jU ?_)|((with_reducible refine jV ?hy fun K hK=>?_);case hy=>rfl));simp only [go_sem, Nat.reduceEqDiff, Nat.reduceAdd, Nat.reduceMul, Nat.reduceLeDiff, Nat.reduceLT, Int.reduceLT, Int.reduceLE, Int.reduceEq, Int.reduceNeg, Int.reduceToNat, Nat.reducePow, reduceIte, reduceCtorEq, i2, i8])|((with_reducible first|refine jW ?hy ?_|refine jY ?hy ?_);case hy=>rfl)|((with_reducible first|refine jX ?hy ?_|refine jZ ?hy ?_);case hy=>rfl)|((with_reducible refine jF ?hy ?_);case hy=>decide))
 refine Pkisthmuslaw04.pick_ok v0 v1 (by omega) ?_
 obtain ⟨b0, b1⟩ := pickN_range v (n := (n : Int)) (by omega)
 obtain ⟨q, eq⟩ := Int.eq_ofNat_of_zero_le b0
 rw [eq] at b1 ⊢
 have hq : q < Q3.n := by omega
 have hok3 := hS3.to.ok
 obtain ⟨A, eA⟩ : ∃ A, A = wl (Q3.row p) := ⟨_, rfl⟩
 obtain ⟨C, eC⟩ : ∃ C, C = wl (Q3.row q) := ⟨_, rfl⟩
 have hAl : A.length ≤ 64 := by rw [eA]; exact wl_len hok3 hp
 have hCl : C.length ≤ 64 := by rw [eC]; exact wl_len hok3 hq
 repeat' (first|(with_reducible first|refine jA ?_|(refine hK _ _ ?_;clear hK K)|refine jJ fun K hK=>?_|refine jK ?_|refine jL ?_|refine jM ?_|refine jN ?_|refine jO ?_|refine jP ?_|refine jQ ?_|(refine jB ?_;clear hK K)|(refine jC ?_;clear hK K)|refine jD ?_|refine jE ?_|refine jG ?_|refine jH ?_|refine jI ?_)|((with_reducible refine jR ?hq ?_);case hq=>rfl)|((first|(with_reducible first|refine jS fun K hK=>?_|refine jT ?_|refine jU ?_)|((with_reducible refine jV ?hy fun K hK=>?_);case hy=>rfl));simp only [go_sem, Nat.reduceEqDiff, Nat.reduceAdd, Nat.reduceMul, Nat.reduceLeDiff, Nat.reduceLT, Int.reduceLT, Int.reduceLE, Int.reduceEq, Int.reduceNeg, Int.reduceToNat, Nat.reducePow, reduceIte, reduceCtorEq, i9])|((with_reducible first|refine jW ?hy ?_|refine jY ?hy ?_);case hy=>rfl)|((with_reducible first|refine jX ?hy ?_|refine jZ ?hy ?_);case hy=>rfl)|((with_reducible refine jF ?hy ?_);case hy=>decide))
 refine tq_walk hS3.to fun H4 T4 B4 v4 hM4 hi4 hB4 hf4 hT4 => ?_
 rw [walkQ_ok hp, ← eA] at hi4
 rw [walkQ_ok hp]
 have hS4 := hS3.op hM4 hf4 hT4
 have k4 := KR.new hi4 hB4
 repeat' (first|(with_reducible first|refine jA ?_|(refine hK _ _ ?_;clear hK K)|refine jJ fun K hK=>?_|refine jK ?_|refine jL ?_|refine jM ?_|refine jN ?_|refine jO ?_|refine jP ?_|refine jQ ?_|(refine jB ?_;clear hK K)|(refine jC ?_;clear hK K)|refine jD ?_|refine jE ?_|refine jG ?_|refine jH ?_|refine jI ?_)|((with_reducible refine jR ?hq ?_);case hq=>rfl)|((first|(with_reducible first|refine jS fun K hK=>?_|refine jT ?_|refine jU ?_)|((with_reducible refine jV ?hy fun K hK=>?_);case hy=>rfl));simp only [go_sem, Nat.reduceEqDiff, Nat.reduceAdd, Nat.reduceMul, Nat.reduceLeDiff, Nat.reduceLT, Int.reduceLT, Int.reduceLE, Int.reduceEq, Int.reduceNeg, Int.reduceToNat, Nat.reducePow, reduceIte, reduceCtorEq, i9])|((with_reducible first|refine jW ?hy ?_|refine jY ?hy ?_);case hy=>rfl)|((with_reducible first|refine jX ?hy ?_|refine jZ ?hy ?_);case hy=>rfl)|((with_reducible refine jF ?hy ?_);case hy=>decide))
 refine tq_walk hS4.to fun H5 T5 B5 v5 hM5 hi5 hB5 hf5 hT5 => ?_
 rw [walkQ_ok hq, ← eC] at hi5
 rw [walkQ_ok hq]
 have hS5 := hS4.op hM5 hf5 hT5
 have k45 := k4.op hf5 hT5
 have k5 := KR.new hi5 hB5
 have lA : (A.map Int.ofNat).length = A.length := by simp
 have lC : (C.map Int.ofNat).length = C.length := by simp
 obtain ⟨sa, sc, rfl⟩ := k45.sl lA
 obtain ⟨sb, sd, rfl⟩ := k5.sl lC
 repeat' (first|(with_reducible first|refine jA ?_|(refine hK _ _ ?_;clear hK K)|refine jJ fun K hK=>?_|refine jK ?_|refine jL ?_|refine jM ?_|refine jN ?_|refine jO ?_|refine jP ?_|refine jQ ?_|(refine jB ?_;clear hK K)|(refine jC ?_;clear hK K)|refine jD ?_|refine jE ?_|refine jG ?_|refine jH ?_|refine jI ?_)|((with_reducible refine jR ?hq ?_);case hq=>rfl)|((first|(with_reducible first|refine jS fun K hK=>?_|refine jT ?_|refine jU ?_)|((with_reducible refine jV ?hy fun K hK=>?_);case hy=>rfl));simp only [go_sem, Nat.reduceEqDiff, Nat.reduceAdd, Nat.reduceMul, Nat.reduceLeDiff, Nat.reduceLT, Int.reduceLT, Int.reduceLE, Int.reduceEq, Int.reduceNeg, Int.reduceToNat, Nat.reducePow, reduceIte, reduceCtorEq, i9])|((with_reducible first|refine jW ?hy ?_|refine jY ?hy ?_);case hy=>rfl)|((with_reducible first|refine jX ?hy ?_|refine jZ ?hy ?_);case hy=>rfl)|((with_reducible refine jF ?hy ?_);case hy=>decide))
 obtain ⟨bb, ebb⟩ : ∃ bb, bb = decide ((q, q) ∈ Q3.row p) := ⟨_, rfl⟩
 obtain ⟨c0, ec0⟩ : ∃ c0, c0 = (Q3.linkQ (p : Int) (q : Int)).1 := ⟨_, rfl⟩
 obtain ⟨Q6, eQ6⟩ : ∃ Q6, Q6 = (Q3.linkQ (p : Int) (q : Int)).2 := ⟨_, rfl⟩
 have hlq : Q3.linkQ (p : Int) (q : Int) = if bb then (41, Q3) else (0, Q3.lay (Q3.linkRow p q)) := by
  unfold Tq.linkQ
  rw [inB_of hp, inB_of hq, Bool.and_self, if_pos rfl, Int.toNat_natCast, Int.toNat_natCast, ebb]
  by_cases h : (q, q) ∈ Q3.row p <;> simp [h]
 have hn6 : Q6.n = Q3.n := by
  rw [eQ6, hlq]
  cases bb <;> rfl
 have t1 : (c0 == 0) = !bb := by
  rw [ec0, hlq]
  cases bb <;> rfl
 have hpq6 : (q, q) ∈ Q6.row p := by
  rw [eQ6, hlq]
  cases hbb : bb with
  | true =>
   rw [hbb] at ebb
   exact of_decide_eq_true ebb.symm
  | false =>
   show (q, q) ∈ (if (p, p) ∈ Q3.linkRow p q then Q3.linkRow p q else Q3.row p)
   rw [if_pos ((Tq.mem_linkRow (hok3.self p hp)).2 (.inl (hok3.self p hp)))]
   exact (Tq.mem_linkRow (hok3.self p hp)).2 (.inr (.inl (hok3.self q hq)))
 have hsame : decide (A.map Int.ofNat = C.map Int.ofNat) = bb := by
  rw [ebb, decide_eq_decide, map_inj]
  constructor
  ·intro e
   have : q ∈ A := by rw [e, eC, mem_wl]; exact hok3.self q hq
   rw [eA, mem_wl] at this
   exact this
  ·intro hm
   rw [eA, eC, (hok3.same p hp q hm).2]
 refine tq_link hS5.to fun H6 T6 hM6 hf6 hT6 => ?_
 have hS6 := hS5.op hM6 hf6 hT6
 rw [← eQ6] at hS6
 rw [← ec0]
 have k46 := k45.op hf6 hT6
 have k56 := k5.op hf6 hT6
 repeat' (first|(with_reducible first|refine jA ?_|(refine hK _ _ ?_;clear hK K)|refine jJ fun K hK=>?_|refine jK ?_|refine jL ?_|refine jM ?_|refine jN ?_|refine jO ?_|refine jP ?_|refine jQ ?_|(refine jB ?_;clear hK K)|(refine jC ?_;clear hK K)|refine jD ?_|refine jE ?_|refine jG ?_|refine jH ?_|refine jI ?_)|((with_reducible refine jR ?hq ?_);case hq=>rfl)|((first|(with_reducible first|refine jS fun K hK=>?_|refine jT ?_|refine jU ?_)|((with_reducible refine jV ?hy fun K hK=>?_);case hy=>rfl));simp only [go_sem, Nat.reduceEqDiff, Nat.reduceAdd, Nat.reduceMul, Nat.reduceLeDiff, Nat.reduceLT, Int.reduceLT, Int.reduceLE, Int.reduceEq, Int.reduceNeg, Int.reduceToNat, Nat.reducePow, reduceIte, reduceCtorEq, i9])|((with_reducible first|refine jW ?hy ?_|refine jY ?hy ?_);case hy=>rfl)|((with_reducible first|refine jX ?hy ?_|refine jZ ?hy ?_);case hy=>rfl)|((with_reducible refine jF ?hy ?_);case hy=>decide))
 refine tq_same hS6.to fun H7 T7 hM7 hf7 hT7 => ?_
 have hS7 := hS6.op hM7 hf7 hT7
 have k47 := k46.op hf7 hT7
 have k57 := k56.op hf7 hT7
 rw [sameQ_ok (by omega) (by omega), decide_eq_true hpq6]
 repeat' (first|(with_reducible first|refine jA ?_|(refine hK _ _ ?_;clear hK K)|refine jJ fun K hK=>?_|refine jK ?_|refine jL ?_|refine jM ?_|refine jN ?_|refine jO ?_|refine jP ?_|refine jQ ?_|(refine jB ?_;clear hK K)|(refine jC ?_;clear hK K)|refine jD ?_|refine jE ?_|refine jG ?_|refine jH ?_|refine jI ?_)|((with_reducible refine jR ?hq ?_);case hq=>rfl)|((first|(with_reducible first|refine jS fun K hK=>?_|refine jT ?_|refine jU ?_)|((with_reducible refine jV ?hy fun K hK=>?_);case hy=>rfl));simp only [go_sem, Nat.reduceEqDiff, Nat.reduceAdd, Nat.reduceMul, Nat.reduceLeDiff, Nat.reduceLT, Int.reduceLT, Int.reduceLE, Int.reduceEq, Int.reduceNeg, Int.reduceToNat, Nat.reducePow, reduceIte, reduceCtorEq, z0, t1])|((with_reducible first|refine jW ?hy ?_|refine jY ?hy ?_);case hy=>rfl)|((with_reducible first|refine jX ?hy ?_|refine jZ ?hy ?_);case hy=>rfl)|((with_reducible refine jF ?hy ?_);case hy=>decide))
 refine Pkisthmuslaw04.same_ok k47.1.rds k57.1.rds (by simp; omega) ?_
 rw [hsame]
 have t2 : ((!bb) != (!bb)) = false := by simp
 repeat' (first|(with_reducible first|refine jA ?_|(refine hK _ _ ?_;clear hK K)|refine jJ fun K hK=>?_|refine jK ?_|refine jL ?_|refine jM ?_|refine jN ?_|refine jO ?_|refine jP ?_|refine jQ ?_|(refine jB ?_;clear hK K)|(refine jC ?_;clear hK K)|refine jD ?_|refine jE ?_|refine jG ?_|refine jH ?_|refine jI ?_)|((with_reducible refine jR ?hq ?_);case hq=>rfl)|((first|(with_reducible first|refine jS fun K hK=>?_|refine jT ?_|refine jU ?_)|((with_reducible refine jV ?hy fun K hK=>?_);case hy=>rfl));simp only [go_sem, Nat.reduceEqDiff, Nat.reduceAdd, Nat.reduceMul, Nat.reduceLeDiff, Nat.reduceLT, Int.reduceLT, Int.reduceLE, Int.reduceEq, Int.reduceNeg, Int.reduceToNat, Nat.reducePow, reduceIte, reduceCtorEq, t2])|((with_reducible first|refine jW ?hy ?_|refine jY ?hy ?_);case hy=>rfl)|((with_reducible first|refine jX ?hy ?_|refine jZ ?hy ?_);case hy=>rfl)|((with_reducible refine jF ?hy ?_);case hy=>decide))
 have hok6 := hS7.to.ok
 have tail : ∀ (e' : Env) (H' : Heap) (T' : Nat → Prop) (Q' : Tq), e' 2 = .int .i64 (q : Nat) → e' 9 = .pointer (some ⟨t, 0, none⟩) → TS H H' t T' Q' → q < Q'.n → K e' H' := by
  intro e' H' T' Q' j2 j9 hS' hq'
  refine hK _ _ ?_
  clear hK K
  have hok' := hS'.to.ok
  obtain ⟨D, eD⟩ : ∃ D, D = turnedL (Q'.row q) q := ⟨_, rfl⟩
  have hDn : D.Nodup := by rw [eD]; exact (turned_perm _ _).nodup_iff.2 (hok'.nd q hq')
  have hqD : (q, q) ∈ D := by rw [eD]; exact mem_turnedL.2 (hok'.self q hq')
  repeat' (first|(with_reducible first|refine jA ?_|(refine hK _ _ ?_;clear hK K)|refine jJ fun K hK=>?_|refine jK ?_|refine jL ?_|refine jM ?_|refine jN ?_|refine jO ?_|refine jP ?_|refine jQ ?_|(refine jB ?_;clear hK K)|(refine jC ?_;clear hK K)|refine jD ?_|refine jE ?_|refine jG ?_|refine jH ?_|refine jI ?_)|((with_reducible refine jR ?hq ?_);case hq=>rfl)|((first|(with_reducible first|refine jS fun K hK=>?_|refine jT ?_|refine jU ?_)|((with_reducible refine jV ?hy fun K hK=>?_);case hy=>rfl));simp only [go_sem, Nat.reduceEqDiff, Nat.reduceAdd, Nat.reduceMul, Nat.reduceLeDiff, Nat.reduceLT, Int.reduceLT, Int.reduceLE, Int.reduceEq, Int.reduceNeg, Int.reduceToNat, Nat.reducePow, reduceIte, reduceCtorEq, j2, j9])|((with_reducible first|refine jW ?hy ?_|refine jY ?hy ?_);case hy=>rfl)|((with_reducible first|refine jX ?hy ?_|refine jZ ?hy ?_);case hy=>rfl)|((with_reducible refine jF ?hy ?_);case hy=>decide))
  refine tq_reroot hS'.to fun H8 T8 hM8 hf8 hT8 => ?_
  have hS8 := hS'.op hM8 hf8 hT8
  rw [rerootQ_ok hq', ← eD] at hS8
  rw [rerootQ_ok hq']
  have hrow8 : (Q'.lay D).row q = D := if_pos hqD
  repeat' (first|(with_reducible first|refine jA ?_|(refine hK _ _ ?_;clear hK K)|refine jJ fun K hK=>?_|refine jK ?_|refine jL ?_|refine jM ?_|refine jN ?_|refine jO ?_|refine jP ?_|refine jQ ?_|(refine jB ?_;clear hK K)|(refine jC ?_;clear hK K)|refine jD ?_|refine jE ?_|refine jG ?_|refine jH ?_|refine jI ?_)|((with_reducible refine jR ?hq ?_);case hq=>rfl)|((first|(with_reducible first|refine jS fun K hK=>?_|refine jT ?_|refine jU ?_)|((with_reducible refine jV ?hy fun K hK=>?_);case hy=>rfl));simp only [go_sem, Nat.reduceEqDiff, Nat.reduceAdd, Nat.reduceMul, Nat.reduceLeDiff, Nat.reduceLT, Int.reduceLT, Int.reduceLE, Int.reduceEq, Int.reduceNeg, Int.reduceToNat, Nat.reducePow, reduceIte, reduceCtorEq, j2, j9])|((with_reducible first|refine jW ?hy ?_|refine jY ?hy ?_);case hy=>rfl)|((with_reducible first|refine jX ?hy ?_|refine jZ ?hy ?_);case hy=>rfl)|((with_reducible refine jF ?hy ?_);case hy=>decide))
  refine tq_walk hS8.to fun H9 T9 B9 v9 hM9 hi9 hB9 hf9 hT9 => ?_
  rw [walkQ_ok (show q < (Q'.lay D).n from hq'), hrow8] at hi9
  rw [walkQ_ok (show q < (Q'.lay D).n from hq')]
  have hS9 := hS8.op hM9 hf9 hT9
  have k9 := KR.new hi9 hB9
  have lD : ((wl D).map Int.ofNat).length = (wl D).length := by simp
  obtain ⟨sx, sy, rfl⟩ := k9.sl lD
  repeat' (first|(with_reducible first|refine jA ?_|(refine hK _ _ ?_;clear hK K)|refine jJ fun K hK=>?_|refine jK ?_|refine jL ?_|refine jM ?_|refine jN ?_|refine jO ?_|refine jP ?_|refine jQ ?_|(refine jB ?_;clear hK K)|(refine jC ?_;clear hK K)|refine jD ?_|refine jE ?_|refine jG ?_|refine jH ?_|refine jI ?_)|((with_reducible refine jR ?hq ?_);case hq=>rfl)|((first|(with_reducible first|refine jS fun K hK=>?_|refine jT ?_|refine jU ?_)|((with_reducible refine jV ?hy fun K hK=>?_);case hy=>rfl));simp only [go_sem, Nat.reduceEqDiff, Nat.reduceAdd, Nat.reduceMul, Nat.reduceLeDiff, Nat.reduceLT, Int.reduceLT, Int.reduceLE, Int.reduceEq, Int.reduceNeg, Int.reduceToNat, Nat.reducePow, reduceIte, reduceCtorEq, j2, j9])|((with_reducible first|refine jW ?hy ?_|refine jY ?hy ?_);case hy=>rfl)|((with_reducible first|refine jX ?hy ?_|refine jZ ?hy ?_);case hy=>rfl)|((with_reducible refine jF ?hy ?_);case hy=>decide))
  refine tq_reroot hS9.to fun H10 T10 hM10 hf10 hT10 => ?_
  have hS10 := hS9.op hM10 hf10 hT10
  have ei : turnedL D q = D := by rw [eD]; exact turned_idem (hok'.nd q hq') (hok'.self q hq')
  rw [rerootQ_ok (show q < (Q'.lay D).n from hq'), hrow8, ei] at hS10
  rw [rerootQ_ok (show q < (Q'.lay D).n from hq')]
  have k10 := k9.op hf10 hT10
  have hrow10 : ((Q'.lay D).lay D).row q = D := if_pos hqD
  repeat' (first|(with_reducible first|refine jA ?_|(refine hK _ _ ?_;clear hK K)|refine jJ fun K hK=>?_|refine jK ?_|refine jL ?_|refine jM ?_|refine jN ?_|refine jO ?_|refine jP ?_|refine jQ ?_|(refine jB ?_;clear hK K)|(refine jC ?_;clear hK K)|refine jD ?_|refine jE ?_|refine jG ?_|refine jH ?_|refine jI ?_)|((with_reducible refine jR ?hq ?_);case hq=>rfl)|((first|(with_reducible first|refine jS fun K hK=>?_|refine jT ?_|refine jU ?_)|((with_reducible refine jV ?hy fun K hK=>?_);case hy=>rfl));simp only [go_sem, Nat.reduceEqDiff, Nat.reduceAdd, Nat.reduceMul, Nat.reduceLeDiff, Nat.reduceLT, Int.reduceLT, Int.reduceLE, Int.reduceEq, Int.reduceNeg, Int.reduceToNat, Nat.reducePow, reduceIte, reduceCtorEq, j2, j9])|((with_reducible first|refine jW ?hy ?_|refine jY ?hy ?_);case hy=>rfl)|((with_reducible first|refine jX ?hy ?_|refine jZ ?hy ?_);case hy=>rfl)|((with_reducible refine jF ?hy ?_);case hy=>decide))
  refine tq_walk hS10.to fun H11 T11 B11 v11 hM11 hi11 hB11 hf11 hT11 => ?_
  rw [walkQ_ok (show q < ((Q'.lay D).lay D).n from hq'), hrow10] at hi11
  rw [walkQ_ok (show q < ((Q'.lay D).lay D).n from hq')]
  have hS11 := hS10.op hM11 hf11 hT11
  have k91 := k10.op hf11 hT11
  have k11 := KR.new hi11 hB11
  have hDl : (wl D).length ≤ 64 := by
   rw [← hrow10]
   exact wl_len hS11.to.ok hq'
  repeat' (first|(with_reducible first|refine jA ?_|(refine hK _ _ ?_;clear hK K)|refine jJ fun K hK=>?_|refine jK ?_|refine jL ?_|refine jM ?_|refine jN ?_|refine jO ?_|refine jP ?_|refine jQ ?_|(refine jB ?_;clear hK K)|(refine jC ?_;clear hK K)|refine jD ?_|refine jE ?_|refine jG ?_|refine jH ?_|refine jI ?_)|((with_reducible refine jR ?hq ?_);case hq=>rfl)|((first|(with_reducible first|refine jS fun K hK=>?_|refine jT ?_|refine jU ?_)|((with_reducible refine jV ?hy fun K hK=>?_);case hy=>rfl));simp only [go_sem, Nat.reduceEqDiff, Nat.reduceAdd, Nat.reduceMul, Nat.reduceLeDiff, Nat.reduceLT, Int.reduceLT, Int.reduceLE, Int.reduceEq, Int.reduceNeg, Int.reduceToNat, Nat.reducePow, reduceIte, reduceCtorEq])|((with_reducible first|refine jW ?hy ?_|refine jY ?hy ?_);case hy=>rfl)|((with_reducible first|refine jX ?hy ?_|refine jZ ?hy ?_);case hy=>rfl)|((with_reducible refine jF ?hy ?_);case hy=>decide))
  refine Pkisthmuslaw04.same_ok k91.1.rds k11.1.rds (by rw [lD]; omega) ?_
  rw [decide_eq_true rfl]
  have h0 : (wl D)[0]? = some q := by
   rw [eD, turnedL_eq (hok'.nd q hq') (split_idx (hok'.self q hq')).1, List.cons_append, wl_stop]
   rfl
  obtain ⟨g, c, rfl, hv, cx⟩ := k91.1.read (i := 0) (x := (q : Int)) (by rw [List.getElem?_map, h0]; rfl)
  simp only [Value.slice.injEq] at hv
  obtain ⟨rfl, _, rfl⟩ := hv
  have hpos : 0 < (wl D).length := (List.getElem?_eq_some_iff.1 h0).1
  have t0 : ((0 : Int) < ((wl D).length : Int)) = True := by simp; omega
  have t0' : (0 < (wl D).length) = True := by simp [hpos]
  have tp : ((q : Int) == (q : Int)) = true := by simp
  repeat' (first|(with_reducible first|refine jA ?_|(refine hK _ _ ?_;clear hK K)|refine jJ fun K hK=>?_|refine jK ?_|refine jL ?_|refine jM ?_|refine jN ?_|refine jO ?_|refine jP ?_|refine jQ ?_|(refine jB ?_;clear hK K)|(refine jC ?_;clear hK K)|refine jD ?_|refine jE ?_|refine jG ?_|refine jH ?_|refine jI ?_)|((with_reducible refine jR ?hq ?_);case hq=>rfl)|((first|(with_reducible first|refine jS fun K hK=>?_|refine jT ?_|refine jU ?_)|((with_reducible refine jV ?hy fun K hK=>?_);case hy=>rfl));simp only [go_sem, Nat.reduceEqDiff, Nat.reduceAdd, Nat.reduceMul, Nat.reduceLeDiff, Nat.reduceLT, Int.reduceLT, Int.reduceLE, Int.reduceEq, Int.reduceNeg, Int.reduceToNat, Nat.reducePow, reduceIte, reduceCtorEq, z00, t0, t0', cx, tp, j2])|((with_reducible first|refine jW ?hy ?_|refine jY ?hy ?_);case hy=>rfl)|((with_reducible first|refine jX ?hy ?_|refine jZ ?hy ?_);case hy=>rfl)|((with_reducible refine jF ?hy ?_);case hy=>decide))
  exact fin _ hS11.fr
 refine x_cond (t := (c0 == 0)) rfl (fun ht => ?_) (fun ht => ?_)
 ·-- linked: cut again
  have hbb : bb = false := by rw [t1] at ht; simpa using ht
  have hne : (q, q) ∉ Q3.row p := by rw [hbb] at ebb; exact of_decide_eq_false ebb.symm
  have hpq : p ≠ q := by rintro rfl; exact hne (hok3.self p hp)
  have e6 : Q6 = Q3.lay (Q3.linkRow p q) := by rw [eQ6, hlq, hbb]; rfl
  obtain ⟨a1, a2, ha⟩ : ∃ a1 a2, Q3.row p = a1 ++ (p, p) :: a2 := ⟨_, _, (split_idx (hok3.self p hp)).1⟩
  obtain ⟨c1, c2, hc⟩ : ∃ c1 c2, Q3.row q = c1 ++ (q, q) :: c2 := ⟨_, _, (split_idx (hok3.self q hq)).1⟩
  obtain ⟨D, eD⟩ : ∃ D, D = turnedL (Q3.row q) q := ⟨_, rfl⟩
  have hlr : Q3.linkRow p q = (a1 ++ [(p, p)]) ++ (p, q) :: (D ++ (q, p) :: a2) := by
   have hi : (Q3.row p).idxOf (p, p) = a1.length := by
    have hn := hok3.nd p hp
    rw [ha] at hn ⊢
    rw [List.nodup_append] at hn
    rw [List.idxOf_append, if_neg (fun hm => hn.2.2 _ hm _ (.head _) rfl)]
    simp
   unfold Tq.linkRow
   rw [hi, ← eD]
   conv => lhs; lhs; rw [ha]
   conv => lhs; rhs; rhs; rhs; rhs; rhs; rw [ha]
   simp
  have hrow6 : ∀ w, (w, w) ∈ Q3.linkRow p q → Q6.row w = Q3.linkRow p q := fun w hw => by rw [e6]; exact if_pos hw
  have hpl : (p, p) ∈ Q3.linkRow p q := (Tq.mem_linkRow (hok3.self p hp)).2 (.inl (hok3.self p hp))
  have hql : (q, q) ∈ Q3.linkRow p q := (Tq.mem_linkRow (hok3.self p hp)).2 (.inr (.inl (hok3.self q hq)))
  have hp6 : p < Q6.n := by omega
  have hq6 : q < Q6.n := by omega
  have hwD : wl D = C.drop (C.idxOf q) ++ C.take (C.idxOf q) := by rw [eD, eC]; exact wl_turned (hok3.nd q hq) (hok3.self q hq)
  have hlenD : (wl D).length = C.length := by rw [hwD]; have hx : C.idxOf q < C.length := List.idxOf_lt_length_of_mem (by rw [eC, mem_wl]; exact hok3.self q hq); simp; omega
  have hwc : (wl (Q6.row q)).length = A.length + C.length := by
   rw [hrow6 q hql, hlr, eA, ha]
   have e1 : ∀ (x : St) (l : List St), x.1 ≠ x.2 → wl (x :: l) = wl l := fun x l h => by unfold wl; rw [List.filter_cons_of_neg (by simp [h])]
   have e2 := fun l => e1 (p, q) l hpq
   have e3 := fun l => e1 (q, p) l hpq.symm
   simp only [wl_append, e2, e3, wl_stop, List.length_append, List.length_cons, hlenD]
   have : (wl ([] : List St)).length = 0 := rfl
   omega
  have hA' : wl (a1 ++ [(p, p)] ++ a2) = A := by rw [eA, ha]; simp
  repeat' (first|(with_reducible first|refine jA ?_|(refine hK _ _ ?_;clear hK K)|refine jJ fun K hK=>?_|refine jK ?_|refine jL ?_|refine jM ?_|refine jN ?_|refine jO ?_|refine jP ?_|refine jQ ?_|(refine jB ?_;clear hK K)|(refine jC ?_;clear hK K)|refine jD ?_|refine jE ?_|refine jG ?_|refine jH ?_|refine jI ?_)|((with_reducible refine jR ?hq ?_);case hq=>rfl)|((first|(with_reducible first|refine jS fun K hK=>?_|refine jT ?_|refine jU ?_)|((with_reducible refine jV ?hy fun K hK=>?_);case hy=>rfl));simp only [go_sem, Nat.reduceEqDiff, Nat.reduceAdd, Nat.reduceMul, Nat.reduceLeDiff, Nat.reduceLT, Int.reduceLT, Int.reduceLE, Int.reduceEq, Int.reduceNeg, Int.reduceToNat, Nat.reducePow, reduceIte, reduceCtorEq, i9])|((with_reducible first|refine jW ?hy ?_|refine jY ?hy ?_);case hy=>rfl)|((with_reducible first|refine jX ?hy ?_|refine jZ ?hy ?_);case hy=>rfl)|((with_reducible refine jF ?hy ?_);case hy=>decide))
  refine tq_walk hS7.to fun H8 T8 B8 v8 hM8 hi8 hB8 hf8 hT8 => ?_
  rw [walkQ_ok hq6] at hi8
  rw [walkQ_ok hq6]
  have hS8 := hS7.op hM8 hf8 hT8
  have k48 := k47.op hf8 hT8
  have k58 := k57.op hf8 hT8
  obtain ⟨sx, sy, rfl⟩ := (KR.new hi8 hB8).sl (n := A.length + C.length) (by rw [List.length_map]; exact hwc)
  have ewl : IntKind.i64.wrap ((A.length : Int) + (C.length : Int)) = ((A.length + C.length : Nat) : Int) := by rw [wrap_i64] <;> omega
  have tl : (((A.length + C.length : Nat) : Int) != ((A.length + C.length : Nat) : Int)) = false := by simp
  repeat' (first|(with_reducible first|refine jA ?_|(refine hK _ _ ?_;clear hK K)|refine jJ fun K hK=>?_|refine jK ?_|refine jL ?_|refine jM ?_|refine jN ?_|refine jO ?_|refine jP ?_|refine jQ ?_|(refine jB ?_;clear hK K)|(refine jC ?_;clear hK K)|refine jD ?_|refine jE ?_|refine jG ?_|refine jH ?_|refine jI ?_)|((with_reducible refine jR ?hq ?_);case hq=>rfl)|((first|(with_reducible first|refine jS fun K hK=>?_|refine jT ?_|refine jU ?_)|((with_reducible refine jV ?hy fun K hK=>?_);case hy=>rfl));simp only [go_sem, Nat.reduceEqDiff, Nat.reduceAdd, Nat.reduceMul, Nat.reduceLeDiff, Nat.reduceLT, Int.reduceLT, Int.reduceLE, Int.reduceEq, Int.reduceNeg, Int.reduceToNat, Nat.reducePow, reduceIte, reduceCtorEq, i9, z0, ewl, tl])|((with_reducible first|refine jW ?hy ?_|refine jY ?hy ?_);case hy=>rfl)|((with_reducible first|refine jX ?hy ?_|refine jZ ?hy ?_);case hy=>rfl)|((with_reducible refine jF ?hy ?_);case hy=>decide))
  have hqp6 : (q, p) ∈ Q6.row q := by rw [hrow6 q hql, Tq.mem_linkRow (hok3.self p hp)]; exact .inr (.inr (.inr rfl))
  refine t_cut (u := q) (v := p) hS8.to hq6 hp6 hpq.symm hqp6 fun H9 T9 x y l1 m l2 hxy hlx hM9 hf9 hT9 => ?_
  obtain ⟨rfl, rfl, rfl⟩ := cut_one (p := (p, q)) (q := (q, p)) (k1 := a1 ++ [(p, p)]) (n := D) (k2 := a2) (by rw [← hlr, ← hrow6 q hql]; exact hok6.nd q hq6) (by
   rcases hxy with ⟨h1, h2⟩ | ⟨h1, h2⟩
   ·exact .inr ⟨h1, h2⟩
   ·exact .inl ⟨h1, h2⟩) (by rw [← hlr, ← hrow6 q hql]; exact hlx)
  have hS9 := hS8.op hM9 hf9 hT9
  have k49 := k48.op hf9 hT9
  have k59 := k58.op hf9 hT9
  obtain ⟨Q9, eQ9⟩ : ∃ Q9, Q9 = Q6.cutTo q p m (a1 ++ [(p, p)] ++ l2) := ⟨_, rfl⟩
  have hn9 : Q9.n = Q6.n := by rw [eQ9]; rfl
  have hr9p : Q9.row p = a1 ++ [(p, p)] ++ l2 := by rw [eQ9]; exact if_pos (by simp)
  have hqm : (q, q) ∈ m := by rw [eD]; exact mem_turnedL.2 (hok3.self q hq)
  have hr9q : Q9.row q = m := by
   rw [eQ9]
   show (if (q, q) ∈ a1 ++ [(p, p)] ++ l2 then _ else if (q, q) ∈ m then m else _) = m
   rw [if_neg, if_pos hqm]
   intro hm
   apply hne
   rw [ha]
   simpa using hm
  rw [← eQ9] at hS9
  have hok9 := hS9.to.ok
  repeat' (first|(with_reducible first|refine jA ?_|(refine hK _ _ ?_;clear hK K)|refine jJ fun K hK=>?_|refine jK ?_|refine jL ?_|refine jM ?_|refine jN ?_|refine jO ?_|refine jP ?_|refine jQ ?_|(refine jB ?_;clear hK K)|(refine jC ?_;clear hK K)|refine jD ?_|refine jE ?_|refine jG ?_|refine jH ?_|refine jI ?_)|((with_reducible refine jR ?hq ?_);case hq=>rfl)|((first|(with_reducible first|refine jS fun K hK=>?_|refine jT ?_|refine jU ?_)|((with_reducible refine jV ?hy fun K hK=>?_);case hy=>rfl));simp only [go_sem, Nat.reduceEqDiff, Nat.reduceAdd, Nat.reduceMul, Nat.reduceLeDiff, Nat.reduceLT, Int.reduceLT, Int.reduceLE, Int.reduceEq, Int.reduceNeg, Int.reduceToNat, Nat.reducePow, reduceIte, reduceCtorEq, z0, i9])|((with_reducible first|refine jW ?hy ?_|refine jY ?hy ?_);case hy=>rfl)|((with_reducible first|refine jX ?hy ?_|refine jZ ?hy ?_);case hy=>rfl)|((with_reducible refine jF ?hy ?_);case hy=>decide))
  refine tq_walk hS9.to fun H10 T10 B10 v10 hM10 hi10 hB10 hf10 hT10 => ?_
  rw [walkQ_ok (by omega), hr9p, hA'] at hi10
  rw [walkQ_ok (by omega)]
  have hS10 := hS9.op hM10 hf10 hT10
  have k410 := k49.op hf10 hT10
  have k510 := k59.op hf10 hT10
  have k10 := KR.new hi10 hB10
  repeat' (first|(with_reducible first|refine jA ?_|(refine hK _ _ ?_;clear hK K)|refine jJ fun K hK=>?_|refine jK ?_|refine jL ?_|refine jM ?_|refine jN ?_|refine jO ?_|refine jP ?_|refine jQ ?_|(refine jB ?_;clear hK K)|(refine jC ?_;clear hK K)|refine jD ?_|refine jE ?_|refine jG ?_|refine jH ?_|refine jI ?_)|((with_reducible refine jR ?hq ?_);case hq=>rfl)|((first|(with_reducible first|refine jS fun K hK=>?_|refine jT ?_|refine jU ?_)|((with_reducible refine jV ?hy fun K hK=>?_);case hy=>rfl));simp only [go_sem, Nat.reduceEqDiff, Nat.reduceAdd, Nat.reduceMul, Nat.reduceLeDiff, Nat.reduceLT, Int.reduceLT, Int.reduceLE, Int.reduceEq, Int.reduceNeg, Int.reduceToNat, Nat.reducePow, reduceIte, reduceCtorEq, i9])|((with_reducible first|refine jW ?hy ?_|refine jY ?hy ?_);case hy=>rfl)|((with_reducible first|refine jX ?hy ?_|refine jZ ?hy ?_);case hy=>rfl)|((with_reducible refine jF ?hy ?_);case hy=>decide))
  refine tq_walk hS10.to fun H11 T11 B11 v11 hM11 hi11 hB11 hf11 hT11 => ?_
  rw [walkQ_ok (by omega), hr9q, hwD] at hi11
  rw [walkQ_ok (by omega)]
  have hS11 := hS10.op hM11 hf11 hT11
  have k411 := k410.op hf11 hT11
  have k511 := k510.op hf11 hT11
  have k1011 := k10.op hf11 hT11
  have k11 := KR.new hi11 hB11
  have hqC : q ∈ C := by rw [eC, mem_wl]; exact hok3.self q hq
  have hkC := List.idxOf_lt_length_of_mem hqC
  repeat' (first|(with_reducible first|refine jA ?_|(refine hK _ _ ?_;clear hK K)|refine jJ fun K hK=>?_|refine jK ?_|refine jL ?_|refine jM ?_|refine jN ?_|refine jO ?_|refine jP ?_|refine jQ ?_|(refine jB ?_;clear hK K)|(refine jC ?_;clear hK K)|refine jD ?_|refine jE ?_|refine jG ?_|refine jH ?_|refine jI ?_)|((with_reducible refine jR ?hq ?_);case hq=>rfl)|((first|(with_reducible first|refine jS fun K hK=>?_|refine jT ?_|refine jU ?_)|((with_reducible refine jV ?hy fun K hK=>?_);case hy=>rfl));simp only [go_sem, Nat.reduceEqDiff, Nat.reduceAdd, Nat.reduceMul, Nat.reduceLeDiff, Nat.reduceLT, Int.reduceLT, Int.reduceLE, Int.reduceEq, Int.reduceNeg, Int.reduceToNat, Nat.reducePow, reduceIte, reduceCtorEq])|((with_reducible first|refine jW ?hy ?_|refine jY ?hy ?_);case hy=>rfl)|((with_reducible first|refine jX ?hy ?_|refine jZ ?hy ?_);case hy=>rfl)|((with_reducible refine jF ?hy ?_);case hy=>decide))
  refine baB k511.1 hCl hqC rfl rfl rfl ?_
  intro e2 o2 o9 o13 o15 o22 o23 o24 o25 j26
  have j2 : e2 2 = .int .i64 (q : Nat) := o2.trans rfl
  have j9 : e2 9 = .pointer (some ⟨t, 0, none⟩) := o9.trans i9
  have j13 : e2 13 = .slice sa A.length sc := o13.trans rfl
  have j15 : e2 15 = .slice sb C.length sd := o15.trans rfl
  have j22 : e2 22 = v10 := o22.trans rfl
  have j23 : e2 23 = .int .i64 0 := o23.trans rfl
  have j24 : e2 24 = v11 := o24.trans rfl
  have j25 : e2 25 = .int .i64 0 := o25.trans rfl
  clear o2 o9 o13 o15 o22 o23 o24 o25
  obtain ⟨kk, ekk⟩ : ∃ kk, kk = C.idxOf q := ⟨_, rfl⟩
  rw [← ekk] at hkC j26 hi11
  have k11' : KR H11 T11 B11 v11 ((C.drop kk ++ C.take kk).map Int.ofNat) := by rw [ekk]; exact k11
  obtain ⟨gC, cC, _, rfl, hvC, _, _, hcC⟩ := k511.1.row (by
   intro e
   rw [List.map_eq_nil_iff] at e
   rw [e] at hqC
   cases hqC)
  simp only [Value.slice.injEq] at hvC
  obtain ⟨rfl, _, rfl⟩ := hvC
  rw [List.length_map] at hcC
  have irC := k511.1
  have t3 : (kk ≤ C.length) = True := by simp; omega
  have t4 : (C.length ≤ sd) = True := by simp; omega
  have t5 : (sd = kk) = False := by simp; omega
  have t6 : (kk ≤ sd) = True := by simp; omega
  have rl1 := irC.readL (o := kk) (m := C.length - kk) (by rw [lC]; omega)
  repeat' (first|(with_reducible first|refine jA ?_|(refine hK _ _ ?_;clear hK K)|refine jJ fun K hK=>?_|refine jK ?_|refine jL ?_|refine jM ?_|refine jN ?_|refine jO ?_|refine jP ?_|refine jQ ?_|(refine jB ?_;clear hK K)|(refine jC ?_;clear hK K)|refine jD ?_|refine jE ?_|refine jG ?_|refine jH ?_|refine jI ?_)|((with_reducible refine jR ?hq ?_);case hq=>rfl)|((first|(with_reducible first|refine jS fun K hK=>?_|refine jT ?_|refine jU ?_)|((with_reducible refine jV ?hy fun K hK=>?_);case hy=>rfl));simp only [go_sem, Nat.reduceEqDiff, Nat.reduceAdd, Nat.reduceMul, Nat.reduceLeDiff, Nat.reduceLT, Int.reduceLT, Int.reduceLE, Int.reduceEq, Int.reduceNeg, Int.reduceToNat, Nat.reducePow, reduceIte, reduceCtorEq, j15, j26, t3, t4, t5])|((with_reducible first|refine jW ?hy ?_|refine jY ?hy ?_);case hy=>rfl)|((with_reducible first|refine jX ?hy ?_|refine jZ ?hy ?_);case hy=>rfl)|((with_reducible refine jF ?hy ?_);case hy=>decide))
  refine append_irs elems22 tl3 (IR.nil H11) (ys := (C.drop kk).map Int.ofNat) (by rw [rl1, ← List.map_drop, List.take_of_length_le (by simp)]) (by simp) (by decide) (by simp; omega) rfl fun v12 H12 B12 hi12 hf12 hB12 => ?_
  have hf12' : Fr (fun _ => False) H11 H12 := hf12.mono fun b _ h => by cases h
  have irC2 := irC.frame hf12' fun _ _ h => h
  have rl2 := irC2.readL (o := 0) (m := kk) (by rw [lC]; omega)
  have hB12' : ∀ b, B12 = some b → H11.size ≤ b := fun b hb => by
   rcases hB12 with e | ⟨g, hg, hge⟩
   ·rw [e] at hb; cases hb
   ·rw [hg] at hb
    obtain rfl := Option.some.inj hb
    exact hge
  repeat' (first|(with_reducible first|refine jA ?_|(refine hK _ _ ?_;clear hK K)|refine jJ fun K hK=>?_|refine jK ?_|refine jL ?_|refine jM ?_|refine jN ?_|refine jO ?_|refine jP ?_|refine jQ ?_|(refine jB ?_;clear hK K)|(refine jC ?_;clear hK K)|refine jD ?_|refine jE ?_|refine jG ?_|refine jH ?_|refine jI ?_)|((with_reducible refine jR ?hq ?_);case hq=>rfl)|((first|(with_reducible first|refine jS fun K hK=>?_|refine jT ?_|refine jU ?_)|((with_reducible refine jV ?hy fun K hK=>?_);case hy=>rfl));simp only [go_sem, Nat.reduceEqDiff, Nat.reduceAdd, Nat.reduceMul, Nat.reduceLeDiff, Nat.reduceLT, Int.reduceLT, Int.reduceLE, Int.reduceEq, Int.reduceNeg, Int.reduceToNat, Nat.reducePow, reduceIte, reduceCtorEq, j15, j26, t6, ite_self, Nat.sub_zero])|((with_reducible first|refine jW ?hy ?_|refine jY ?hy ?_);case hy=>rfl)|((with_reducible first|refine jX ?hy ?_|refine jZ ?hy ?_);case hy=>rfl)|((with_reducible refine jF ?hy ?_);case hy=>decide))
  refine append_irs elems22 tl3 hi12 (ys := (C.take kk).map Int.ofNat) (by rw [rl2, List.drop_zero]; simp only [List.map_take]) (by simp; omega) (by decide) (by simp; omega) rfl fun v13 H13 B13 hi13 hf13 hB13 => ?_
  have hf13' : Fr (fun _ => False) H11 H13 := hf12'.trans' hf13 fun b hb e => by have := hB12' b e; omega
  have k413 := k411.grow hf13'
  have k1013 := k1011.grow hf13'
  have k1113 := k11'.grow hf13'
  have hS13 := hS11.grow hf13'
  have hi13' : IR H13 B13 v13 ((C.drop kk ++ C.take kk).map Int.ofNat) := by rw [List.map_append]; exact hi13
  have l13 : ((C.drop kk ++ C.take kk).map Int.ofNat).length = C.length := by simp; omega
  repeat' (first|(with_reducible first|refine jA ?_|(refine hK _ _ ?_;clear hK K)|refine jJ fun K hK=>?_|refine jK ?_|refine jL ?_|refine jM ?_|refine jN ?_|refine jO ?_|refine jP ?_|refine jQ ?_|(refine jB ?_;clear hK K)|(refine jC ?_;clear hK K)|refine jD ?_|refine jE ?_|refine jG ?_|refine jH ?_|refine jI ?_)|((with_reducible refine jR ?hq ?_);case hq=>rfl)|((first|(with_reducible first|refine jS fun K hK=>?_|refine jT ?_|refine jU ?_)|((with_reducible refine jV ?hy fun K hK=>?_);case hy=>rfl));simp only [go_sem, Nat.reduceEqDiff, Nat.reduceAdd, Nat.reduceMul, Nat.reduceLeDiff, Nat.reduceLT, Int.reduceLT, Int.reduceLE, Int.reduceEq, Int.reduceNeg, Int.reduceToNat, Nat.reducePow, reduceIte, reduceCtorEq, j13, j22])|((with_reducible first|refine jW ?hy ?_|refine jY ?hy ?_);case hy=>rfl)|((with_reducible first|refine jX ?hy ?_|refine jZ ?hy ?_);case hy=>rfl)|((with_reducible refine jF ?hy ?_);case hy=>decide))
  refine Pkisthmuslaw04.same_ok k413.1.rds k1013.1.rds (by simp; omega) ?_
  rw [decide_eq_true rfl]
  repeat' (first|(with_reducible first|refine jA ?_|(refine hK _ _ ?_;clear hK K)|refine jJ fun K hK=>?_|refine jK ?_|refine jL ?_|refine jM ?_|refine jN ?_|refine jO ?_|refine jP ?_|refine jQ ?_|(refine jB ?_;clear hK K)|(refine jC ?_;clear hK K)|refine jD ?_|refine jE ?_|refine jG ?_|refine jH ?_|refine jI ?_)|((with_reducible refine jR ?hq ?_);case hq=>rfl)|((first|(with_reducible first|refine jS fun K hK=>?_|refine jT ?_|refine jU ?_)|((with_reducible refine jV ?hy fun K hK=>?_);case hy=>rfl));simp only [go_sem, Nat.reduceEqDiff, Nat.reduceAdd, Nat.reduceMul, Nat.reduceLeDiff, Nat.reduceLT, Int.reduceLT, Int.reduceLE, Int.reduceEq, Int.reduceNeg, Int.reduceToNat, Nat.reducePow, reduceIte, reduceCtorEq, j24])|((with_reducible first|refine jW ?hy ?_|refine jY ?hy ?_);case hy=>rfl)|((with_reducible first|refine jX ?hy ?_|refine jZ ?hy ?_);case hy=>rfl)|((with_reducible refine jF ?hy ?_);case hy=>decide))
  refine Pkisthmuslaw04.same_ok hi13'.rds k1113.1.rds (by rw [l13]; omega) ?_
  rw [decide_eq_true rfl]
  repeat' (first|(with_reducible first|refine jA ?_|(refine hK _ _ ?_;clear hK K)|refine jJ fun K hK=>?_|refine jK ?_|refine jL ?_|refine jM ?_|refine jN ?_|refine jO ?_|refine jP ?_|refine jQ ?_|(refine jB ?_;clear hK K)|(refine jC ?_;clear hK K)|refine jD ?_|refine jE ?_|refine jG ?_|refine jH ?_|refine jI ?_)|((with_reducible refine jR ?hq ?_);case hq=>rfl)|((first|(with_reducible first|refine jS fun K hK=>?_|refine jT ?_|refine jU ?_)|((with_reducible refine jV ?hy fun K hK=>?_);case hy=>rfl));simp only [go_sem, Nat.reduceEqDiff, Nat.reduceAdd, Nat.reduceMul, Nat.reduceLeDiff, Nat.reduceLT, Int.reduceLT, Int.reduceLE, Int.reduceEq, Int.reduceNeg, Int.reduceToNat, Nat.reducePow, reduceIte, reduceCtorEq, j23, j25, z0])|((with_reducible first|refine jW ?hy ?_|refine jY ?hy ?_);case hy=>rfl)|((with_reducible first|refine jX ?hy ?_|refine jZ ?hy ?_);case hy=>rfl)|((with_reducible refine jF ?hy ?_);case hy=>decide))
  exact tail _ _ _ _ j2 j9 hS13 (by omega)
 ·repeat' (first|(with_reducible first|refine jA ?_|(refine hK _ _ ?_;clear hK K)|refine jJ fun K hK=>?_|refine jK ?_|refine jL ?_|refine jM ?_|refine jN ?_|refine jO ?_|refine jP ?_|refine jQ ?_|(refine jB ?_;clear hK K)|(refine jC ?_;clear hK K)|refine jD ?_|refine jE ?_|refine jG ?_|refine jH ?_|refine jI ?_)|((with_reducible refine jR ?hq ?_);case hq=>rfl)|((first|(with_reducible first|refine jS fun K hK=>?_|refine jT ?_|refine jU ?_)|((with_reducible refine jV ?hy fun K hK=>?_);case hy=>rfl));simp only [go_sem, Nat.reduceEqDiff, Nat.reduceAdd, Nat.reduceMul, Nat.reduceLeDiff, Nat.reduceLT, Int.reduceLT, Int.reduceLE, Int.reduceEq, Int.reduceNeg, Int.reduceToNat, Nat.reducePow, reduceIte, reduceCtorEq])|((with_reducible first|refine jW ?hy ?_|refine jY ?hy ?_);case hy=>rfl)|((with_reducible first|refine jX ?hy ?_|refine jZ ?hy ?_);case hy=>rfl)|((with_reducible refine jF ?hy ?_);case hy=>decide))
  exact tail _ _ _ _ rfl i9 hS7 (by omega)
end
end Go.Proofs.Ytnlafhnbakipmaa
namespace Go.Hp
open Go Go.ChangeShapes Go.WideShapes Go.RowKit
set_option linter.unusedVariables false
section
variable {E : Type} {enc : TypeId × Value → E} {P : Program} {w : World} {base : Nat} {spare : Nat → Bool} {held : Bool}
theorem cells_in {t e : TypeId} {a : Option Addr} {len cap : Nat} {d : DataW E} {p : List MemPlace} (ht : P.underlying t = some (.slice e)) (h : DataW.Trod enc P w base spare held t (.slice a len cap) d p) :
  len ≤ 9223372036854775807 ∧ ∀ i, i < len → ∃ (q : Addr) (cs : List Value) (m : Nat) (y : DataW E × List MemPlace), a = some q ∧ w.cells? base (q.add (i * P.cellsOf e)) (P.cellsOf e) = some cs ∧ DataW.trod enc P w base spare held m e cs = some y := by
 obtain ⟨fuel, hf⟩ := h
 rcases DataW.trod_slice ht hf with ⟨h0, _⟩ | ⟨a', len', cap', elems, rest, n, _, h0, _, hb, hl, hm, hlen, hel, hsp, hns⟩
 ·simp [Value.cells] at h0
  obtain ⟨rfl, rfl, rfl⟩ := h0
  exact ⟨by omega, fun i hi => absurd hi (by omega)⟩
 ·simp [Value.cells] at h0
  obtain ⟨rfl, rfl, rfl⟩ := h0
  refine ⟨by unfold maxLen at hm; omega, fun i hi => ?_⟩
  have h1 := hel i hi
  rw [List.getElem?_eq_getElem (by omega)] at h1
  obtain ⟨cs, hcs, hy⟩ := Option.bind_eq_some_iff.1 h1
  exact ⟨a', cs, n, _, rfl, hcs, hy⟩
theorem fit_of_wf {n : Int} (h : (Lit.int .i64 n).wf = true) : -9223372036854775808 ≤ n ∧ n ≤ 9223372036854775807 := by
 have hb := bounds_i64 h
 omega
theorem ints_in {t e : TypeId} {a : Option Addr} {len cap : Nat} {d : DataW E} {p : List MemPlace} (ht : P.underlying t = some (.slice e)) (he : P.underlying e = some (.int .i64)) (hc : P.cellsOf e = 1) (h : DataW.Trod enc P w base spare held t (.slice a len cap) d p) :
  len ≤ 9223372036854775807 ∧ ∃ zs, InInts w.heap a len zs := by
 obtain ⟨hl, hi⟩ := cells_in ht h
 refine ⟨hl, ?_⟩
 have each : ∀ i, i < len → ∃ (q : Addr) (n : Int), a = some q ∧ w.cell? (q.add i) = some (.int .i64 n) ∧ (Lit.int .i64 n).wf = true := fun i hlt => by
  obtain ⟨q, cs, m, y, h1, h2, h3⟩ := hi i hlt
  obtain ⟨n, rfl, _, hw⟩ := DataW.trod_int he h3
  rw [hc, Nat.mul_one] at h2
  obtain ⟨_, _, h4⟩ := World.cells?_some h2
  refine ⟨q, n, h1, ?_, hw⟩
  have := h4 0 (by omega)
  simpa [Addr.add] using this
 refine ⟨fun i => if h : i < len then (each i h).choose_spec.choose else 0, fun i hlt => ?_⟩
 have e := (each i hlt).choose_spec.choose_spec
 refine ⟨_, e.1, ?_, ?_⟩
 ·simp only [hlt, dif_pos]
  exact e.2.1
 ·simp only [hlt, dif_pos]
  exact fit_of_wf e.2.2
theorem field_in {e : TypeId} {fs : Array Field} {q : Addr} {n : Nat} {cs : List Value} {m : Nat} {y : DataW E × List MemPlace} (he : P.underlying e = some (.struct fs)) (h2 : w.cells? base q n = some cs) (h3 : DataW.trod enc P w base spare held m e cs = some y)
  (i : Nat) {f : Field} (hf : fs[i]? = some f) (hc : P.cellsOf f.type = 1) (ho : f.offset < n) :
  ∃ (v : Value) (z : DataW E × List MemPlace) (m' : Nat), w.cell? (q.add f.offset) = some v ∧ DataW.trod enc P w base spare held m' f.type [v] = some z := by
 obtain ⟨xs, n', _, _, hlen, hxl, hfs⟩ := DataW.trod_struct he h3
 obtain ⟨_, hcl, hcell⟩ := World.cells?_some h2
 have h4 := hfs i f hf
 have hlt : i < fs.size := (Array.getElem?_eq_some_iff.1 hf).1
 rw [hc, List.getElem?_eq_getElem (by omega)] at h4
 have hd : (cs.drop f.offset).take 1 = [cs[f.offset]'(by omega)] := by
  rw [List.drop_eq_getElem_cons (by omega)]; rfl
 rw [hd] at h4
 refine ⟨_, _, n', ?_, h4⟩
 rw [hcell f.offset ho, List.getElem?_eq_getElem (by omega)]
end
theorem add_zero_addr (q : Addr) : q.add 0 = q := rfl
theorem add_succ_addr (q : Addr) (n : Nat) : q.add (n + 1) = ⟨q.block, q.off + (n + 1), none⟩ := by
 unfold Addr.add; rw [if_neg (by omega)]
end Go.Hp
