/-
  TourTurns returns true, whatever it is given, and writes nothing that was there.
  What a law's walk is told of slices that came in.
-/
import Derived.Test.YtnlafhnbakipmaaG6
import Derived.Test.YtnlafhnbakipmaaHpN
import Derived.WalkKit
import Derived.ProofKit
import Derived.OpenShut
import Derived.ShutString
import Derived.ChangeOld
import Derived.Below
import Derived.Deep.Fields
namespace Go.Proofs.Ytnlafhnbakipmaa
open Go Go.Hp Go.Sp Go.To
set_option linter.all false
set_option maxRecDepth 100000
set_option maxHeartbeats 1600000
section
variable {H0 H : Heap} {e : Env} {Z : HX → Env → Heap → Prop} {t : Nat} {T : Nat → Prop} {Q : Tq}
theorem tdiv2 (z : Int) (h1 : -9223372036854775808 ≤ z) (h2 : z ≤ 9223372036854775807) : -9223372036854775808 ≤ z.tdiv 2 ∧ z.tdiv 2 ≤ 9223372036854775807 := by
 rcases Int.lt_or_le z 0 with h | h
 ·have : z.tdiv 2 = -((-z) / 2) := by rw [← Int.tdiv_eq_ediv_of_nonneg (by omega), Int.neg_tdiv, Int.neg_neg]
  omega
 ·rw [Int.tdiv_eq_ediv_of_nonneg h]; omega
theorem linkQ_new {Q : Tq} {u v : Nat} (hu : u < Q.n) (hv : v < Q.n) (hne : (v, v) ∉ Q.row u) : Q.linkQ (u : Int) (v : Int) = (0, Q.lay (Q.linkRow u v)) := by
 unfold Tq.linkQ
 rw [inB_of hu, inB_of hv]
 simp only [Bool.and_self, if_true, Int.toNat_natCast]
 rw [if_neg hne]
theorem tuA {a : Option Addr} {len cap n : Nat} {zs : Nat → Int} (hin : InInts H0 a len zs) (hn : n = 1 + min len 63) (hS : TS H0 H t T (Tq.new n))
  (e0 : e 0 = .slice a len cap) (e8 : e 8 = .int .i64 (n : Nat)) (e9 : e 9 = .pointer (some ⟨t, 0, none⟩)) (e11 : e 11 = .int .i64 1)
  (hQ : ∀ e' H' T' Q', e' 1 = e 1 → e' 2 = e 2 → e' 8 = .int .i64 (n : Nat) → e' 9 = .pointer (some ⟨t, 0, none⟩) → TS H0 H' t T' Q' → Grown Q' n → Q'.n = n → Z .normal e' H') :
  codeX Try.prog [33] (loopAt Try.f3.body 0) (blockQ 0 Z) e H := by
 refine x_loop (fun m e' H' => ∃ (i : Nat) (T' : Nat → Prop) (Q' : Tq), e' 11 = .int .i64 (i : Nat) ∧ 1 ≤ i ∧ i ≤ n ∧ TS H0 H' t T' Q' ∧ Grown Q' i ∧ Q'.n = n ∧ m = n - i) (n - 1) ⟨1, T, Tq.new n, e11, Nat.le_refl _, by omega, hS, Grown.start, rfl, rfl⟩ ?_
 rintro m e1 H1 ⟨i, T1, Q1, i11, hi1, hi, hS1, hG, hQn, rfl⟩ hoff
 have i0 := (hoff 0 rfl).trans e0
 have i8 := (hoff 8 rfl).trans e8
 have i9 := (hoff 9 rfl).trans e9
 have keep : e1 1 = e 1 ∧ e1 2 = e 2 := ⟨hoff 1 rfl, hoff 2 rfl⟩
 clear hoff e0 e8 e9 e11
 by_cases hlt : i < n
 ·obtain ⟨p, rfl, cz, hz1, hz2⟩ := (hin.frame hS1.fr) (i - 1) (by omega)
  have ew : IntKind.i64.wrap ((i : Int) - 1) = ((i - 1 : Nat) : Int) := by rw [wrap_i64] <;> omega
  have ew2 : IntKind.i64.wrap ((i : Int) + 1) = ((i + 1 : Nat) : Int) := by rw [wrap_i64] <;> omega
  have hl1 : i - 1 < len := by omega
  obtain ⟨d1, d2⟩ := tdiv2 (zs (i - 1)) hz1 hz2
  have ewd : IntKind.i64.wrap ((zs (i - 1)).tdiv 2) = (zs (i - 1)).tdiv 2 := by rw [wrap_i64] <;> omega
  have z2 : ((2 : Int) = 0) = False := by simp
  repeat' (first|(with_reducible first|refine jA ?_|(refine hK _ _ ?_;clear hK K)|refine jJ fun K hK=>?_|refine jK ?_|refine jL ?_|refine jM ?_|refine jN ?_|refine jO ?_|refine jP ?_|refine jQ ?_|(refine jB ?_;clear hK K)|(refine jC ?_;clear hK K)|refine jD ?_|refine jE ?_|refine jG ?_|refine jH ?_|refine jI ?_)|((with_reducible refine jR ?hq ?_);case hq=>rfl)|((first|(with_reducible first|refine jS fun K hK=>?_|refine jT ?_|refine jU ?_)|((with_reducible refine jV ?hy fun K hK=>?_);case hy=>rfl));simp only [go_sem, Nat.reduceEqDiff, Nat.reduceAdd, Nat.reduceMul, Nat.reduceLeDiff, Nat.reduceLT, Int.reduceLT, Int.reduceLE, Int.reduceEq, Int.reduceNeg, Int.reduceToNat, Nat.reducePow, reduceIte, reduceCtorEq, i0, i8, i9, i11, hlt, ew, hl1, cz, ewd, z2])|((with_reducible first|refine jW ?hy ?_|refine jY ?hy ?_);case hy=>rfl)|((with_reducible first|refine jX ?hy ?_|refine jZ ?hy ?_);case hy=>rfl)|((with_reducible refine jF ?hy ?_);case hy=>decide))
  refine Pkisthmuslaw04.pick_ok d1 d2 (by omega) ?_
  obtain ⟨k0, k1⟩ := pickN_range ((zs (i - 1)).tdiv 2) (n := (i : Int)) (by omega)
  obtain ⟨k, ek⟩ := Int.eq_ofNat_of_zero_le k0
  rw [ek] at k1 ⊢
  have hki : k < i := by omega
  repeat' (first|(with_reducible first|refine jA ?_|(refine hK _ _ ?_;clear hK K)|refine jJ fun K hK=>?_|refine jK ?_|refine jL ?_|refine jM ?_|refine jN ?_|refine jO ?_|refine jP ?_|refine jQ ?_|(refine jB ?_;clear hK K)|(refine jC ?_;clear hK K)|refine jD ?_|refine jE ?_|refine jG ?_|refine jH ?_|refine jI ?_)|((with_reducible refine jR ?hq ?_);case hq=>rfl)|((first|(with_reducible first|refine jS fun K hK=>?_|refine jT ?_|refine jU ?_)|((with_reducible refine jV ?hy fun K hK=>?_);case hy=>rfl));simp only [go_sem, Nat.reduceEqDiff, Nat.reduceAdd, Nat.reduceMul, Nat.reduceLeDiff, Nat.reduceLT, Int.reduceLT, Int.reduceLE, Int.reduceEq, Int.reduceNeg, Int.reduceToNat, Nat.reducePow, reduceIte, reduceCtorEq, i0, i8, i9, i11, ew, hl1, cz])|((with_reducible first|refine jW ?hy ?_|refine jY ?hy ?_);case hy=>rfl)|((with_reducible first|refine jX ?hy ?_|refine jZ ?hy ?_);case hy=>rfl)|((with_reducible refine jF ?hy ?_);case hy=>decide))
  refine Pkisthmuslaw04.pick_ok hz1 hz2 (by omega) ?_
  have z0 : ((0 : Int) != 0) = false := rfl
  by_cases hp : pickN (zs (i - 1)) 2 = 0
  ·have t1 : (pickN (zs (i - 1)) 2 == 0) = true := by simp [hp]
   repeat' (first|(with_reducible first|refine jA ?_|(refine hK _ _ ?_;clear hK K)|refine jJ fun K hK=>?_|refine jK ?_|refine jL ?_|refine jM ?_|refine jN ?_|refine jO ?_|refine jP ?_|refine jQ ?_|(refine jB ?_;clear hK K)|(refine jC ?_;clear hK K)|refine jD ?_|refine jE ?_|refine jG ?_|refine jH ?_|refine jI ?_)|((with_reducible refine jR ?hq ?_);case hq=>rfl)|((first|(with_reducible first|refine jS fun K hK=>?_|refine jT ?_|refine jU ?_)|((with_reducible refine jV ?hy fun K hK=>?_);case hy=>rfl));simp only [go_sem, Nat.reduceEqDiff, Nat.reduceAdd, Nat.reduceMul, Nat.reduceLeDiff, Nat.reduceLT, Int.reduceLT, Int.reduceLE, Int.reduceEq, Int.reduceNeg, Int.reduceToNat, Nat.reducePow, reduceIte, reduceCtorEq, i9, i11, t1])|((with_reducible first|refine jW ?hy ?_|refine jY ?hy ?_);case hy=>rfl)|((with_reducible first|refine jX ?hy ?_|refine jZ ?hy ?_);case hy=>rfl)|((with_reducible refine jF ?hy ?_);case hy=>decide))
   obtain ⟨hne, hG'⟩ := hG.link hS1.to.ok (u := k) (v := i) (by omega) (.inl ⟨hki, rfl⟩)
   have hq := linkQ_new (by omega) (by omega) hne
   refine tq_link hS1.to fun H2 T2 hM2 hf2 hT2 => ?_
   have hS2 := hS1.op hM2 hf2 hT2
   rw [hq] at hS2 ⊢
   repeat' (first|(with_reducible first|refine jA ?_|(refine hK _ _ ?_;clear hK K)|refine jJ fun K hK=>?_|refine jK ?_|refine jL ?_|refine jM ?_|refine jN ?_|refine jO ?_|refine jP ?_|refine jQ ?_|(refine jB ?_;clear hK K)|(refine jC ?_;clear hK K)|refine jD ?_|refine jE ?_|refine jG ?_|refine jH ?_|refine jI ?_)|((with_reducible refine jR ?hq ?_);case hq=>rfl)|((first|(with_reducible first|refine jS fun K hK=>?_|refine jT ?_|refine jU ?_)|((with_reducible refine jV ?hy fun K hK=>?_);case hy=>rfl));simp only [go_sem, Nat.reduceEqDiff, Nat.reduceAdd, Nat.reduceMul, Nat.reduceLeDiff, Nat.reduceLT, Int.reduceLT, Int.reduceLE, Int.reduceEq, Int.reduceNeg, Int.reduceToNat, Nat.reducePow, reduceIte, reduceCtorEq, z0, i11, ew2])|((with_reducible first|refine jW ?hy ?_|refine jY ?hy ?_);case hy=>rfl)|((with_reducible first|refine jX ?hy ?_|refine jZ ?hy ?_);case hy=>rfl)|((with_reducible refine jF ?hy ?_);case hy=>decide))
   exact loop_normal (m' := n - (i + 1)) (by omega) ⟨i + 1, T2, _, rfl, by omega, hlt, hS2, hG', hQn, rfl⟩
  ·have t1 : (pickN (zs (i - 1)) 2 == 0) = false := by simp [hp]
   repeat' (first|(with_reducible first|refine jA ?_|(refine hK _ _ ?_;clear hK K)|refine jJ fun K hK=>?_|refine jK ?_|refine jL ?_|refine jM ?_|refine jN ?_|refine jO ?_|refine jP ?_|refine jQ ?_|(refine jB ?_;clear hK K)|(refine jC ?_;clear hK K)|refine jD ?_|refine jE ?_|refine jG ?_|refine jH ?_|refine jI ?_)|((with_reducible refine jR ?hq ?_);case hq=>rfl)|((first|(with_reducible first|refine jS fun K hK=>?_|refine jT ?_|refine jU ?_)|((with_reducible refine jV ?hy fun K hK=>?_);case hy=>rfl));simp only [go_sem, Nat.reduceEqDiff, Nat.reduceAdd, Nat.reduceMul, Nat.reduceLeDiff, Nat.reduceLT, Int.reduceLT, Int.reduceLE, Int.reduceEq, Int.reduceNeg, Int.reduceToNat, Nat.reducePow, reduceIte, reduceCtorEq, i9, i11, t1])|((with_reducible first|refine jW ?hy ?_|refine jY ?hy ?_);case hy=>rfl)|((with_reducible first|refine jX ?hy ?_|refine jZ ?hy ?_);case hy=>rfl)|((with_reducible refine jF ?hy ?_);case hy=>decide))
   obtain ⟨hne, hG'⟩ := hG.link hS1.to.ok (u := i) (v := k) (by omega) (.inr ⟨rfl, hki⟩)
   have hq := linkQ_new (by omega) (by omega) hne
   refine tq_link hS1.to fun H2 T2 hM2 hf2 hT2 => ?_
   have hS2 := hS1.op hM2 hf2 hT2
   rw [hq] at hS2 ⊢
   repeat' (first|(with_reducible first|refine jA ?_|(refine hK _ _ ?_;clear hK K)|refine jJ fun K hK=>?_|refine jK ?_|refine jL ?_|refine jM ?_|refine jN ?_|refine jO ?_|refine jP ?_|refine jQ ?_|(refine jB ?_;clear hK K)|(refine jC ?_;clear hK K)|refine jD ?_|refine jE ?_|refine jG ?_|refine jH ?_|refine jI ?_)|((with_reducible refine jR ?hq ?_);case hq=>rfl)|((first|(with_reducible first|refine jS fun K hK=>?_|refine jT ?_|refine jU ?_)|((with_reducible refine jV ?hy fun K hK=>?_);case hy=>rfl));simp only [go_sem, Nat.reduceEqDiff, Nat.reduceAdd, Nat.reduceMul, Nat.reduceLeDiff, Nat.reduceLT, Int.reduceLT, Int.reduceLE, Int.reduceEq, Int.reduceNeg, Int.reduceToNat, Nat.reducePow, reduceIte, reduceCtorEq, z0, i11, ew2])|((with_reducible first|refine jW ?hy ?_|refine jY ?hy ?_);case hy=>rfl)|((with_reducible first|refine jX ?hy ?_|refine jZ ?hy ?_);case hy=>rfl)|((with_reducible refine jF ?hy ?_);case hy=>decide))
   exact loop_normal (m' := n - (i + 1)) (by omega) ⟨i + 1, T2, _, rfl, by omega, hlt, hS2, hG', hQn, rfl⟩
 ·obtain rfl : i = n := by omega
  have t1 : (i < i) = False := by simp
  repeat' (first|(with_reducible first|refine jA ?_|(refine hK _ _ ?_;clear hK K)|refine jJ fun K hK=>?_|refine jK ?_|refine jL ?_|refine jM ?_|refine jN ?_|refine jO ?_|refine jP ?_|refine jQ ?_|(refine jB ?_;clear hK K)|(refine jC ?_;clear hK K)|refine jD ?_|refine jE ?_|refine jG ?_|refine jH ?_|refine jI ?_)|((with_reducible refine jR ?hq ?_);case hq=>rfl)|((first|(with_reducible first|refine jS fun K hK=>?_|refine jT ?_|refine jU ?_)|((with_reducible refine jV ?hy fun K hK=>?_);case hy=>rfl));simp only [go_sem, Nat.reduceEqDiff, Nat.reduceAdd, Nat.reduceMul, Nat.reduceLeDiff, Nat.reduceLT, Int.reduceLT, Int.reduceLE, Int.reduceEq, Int.reduceNeg, Int.reduceToNat, Nat.reducePow, reduceIte, reduceCtorEq, i8, i11, t1])|((with_reducible first|refine jW ?hy ?_|refine jY ?hy ?_);case hy=>rfl)|((with_reducible first|refine jX ?hy ?_|refine jZ ?hy ?_);case hy=>rfl)|((with_reducible refine jF ?hy ?_);case hy=>decide))
  exact hQ _ _ _ _ keep.1 keep.2 i8 i9 hS1 hG hQn
theorem tuB {B : Option Nat} {va : Value} {xs : List Nat} {v n : Nat} (hx : IR H B va (xs.map Int.ofNat)) (hl : xs.length = n) (hn : n ≤ 64) (hnd : xs.Nodup) (hv : v ∈ xs) (e14 : e 14 = va) (e2 : e 2 = .int .i64 (v : Nat)) (e8 : e 8 = .int .i64 (n : Nat)) (e19 : e 19 = .int .i64 (-1)) (e20 : e 20 = .int .i64 0)
  (hQ : ∀ e', e' 1 = e 1 → e' 8 = e 8 → e' 14 = e 14 → e' 17 = e 17 → e' 19 = .int .i64 (xs.idxOf v : Nat) → Z .normal e' H) :
  codeX Try.prog [33] (loopAt Try.f3.body 1) (blockQ 2 Z) e H := by
 have hk := List.idxOf_lt_length_of_mem hv
 refine x_loop (fun m e' H' => ∃ i : Nat, H' = H ∧ e' 20 = .int .i64 (i : Nat) ∧ i ≤ n ∧ e' 19 = .int .i64 (if xs.idxOf v < i then (xs.idxOf v : Int) else -1) ∧ m = n - i) n ⟨0, rfl, e20, Nat.zero_le _, by rw [e19]; simp, rfl⟩ ?_
 rintro m e1 H1 ⟨i, rfl, i20, hi, i19, rfl⟩ hoff
 have i14 := (hoff 14 rfl).trans e14
 have i2 := (hoff 2 rfl).trans e2
 have i8 := (hoff 8 rfl).trans e8
 have keep : e1 1 = e 1 ∧ e1 8 = e 8 ∧ e1 14 = e 14 ∧ e1 17 = e 17 := ⟨hoff 1 rfl, hoff 8 rfl, hoff 14 rfl, hoff 17 rfl⟩
 by_cases hlt : i < n
 ·obtain ⟨y, hy⟩ : ∃ y, xs[i]? = some y := ⟨_, List.getElem?_eq_getElem (by omega)⟩
  have hy' : (xs.map Int.ofNat)[i]? = some (y : Int) := by rw [List.getElem?_map, hy]; rfl
  obtain ⟨g, c, rfl, rfl, cy⟩ := hx.read hy'
  have hlx : i < (xs.map Int.ofNat).length := by simp; omega
  have hlx' : i < xs.length := by omega
  have ew2 : IntKind.i64.wrap ((i : Int) + 1) = ((i + 1 : Nat) : Int) := by rw [wrap_i64] <;> omega
  clear hoff
  have hlen : (xs.map Int.ofNat).length = xs.length := by simp
  rw [hlen] at i14
  by_cases hyv : y = v
  ·have t1 : ((y : Int) == (v : Int)) = true := by simp [hyv]
   have hidx : xs.idxOf v = i := by
    have e1 := List.getElem_idxOf hk
    have e2 : xs[i] = v := by rw [← hyv]; exact (List.getElem?_eq_some_iff.1 hy).2
    exact (List.getElem_inj hnd).1 (e1.trans e2.symm)
   repeat' (first|(with_reducible first|refine jA ?_|(refine hK _ _ ?_;clear hK K)|refine jJ fun K hK=>?_|refine jK ?_|refine jL ?_|refine jM ?_|refine jN ?_|refine jO ?_|refine jP ?_|refine jQ ?_|(refine jB ?_;clear hK K)|(refine jC ?_;clear hK K)|refine jD ?_|refine jE ?_|refine jG ?_|refine jH ?_|refine jI ?_)|((with_reducible refine jR ?hq ?_);case hq=>rfl)|((first|(with_reducible first|refine jS fun K hK=>?_|refine jT ?_|refine jU ?_)|((with_reducible refine jV ?hy fun K hK=>?_);case hy=>rfl));simp only [go_sem, Nat.reduceEqDiff, Nat.reduceAdd, Nat.reduceMul, Nat.reduceLeDiff, Nat.reduceLT, Int.reduceLT, Int.reduceLE, Int.reduceEq, Int.reduceNeg, Int.reduceToNat, Nat.reducePow, reduceIte, reduceCtorEq, i14, i2, i8, i20, hlt, hlx', cy, t1, ew2])|((with_reducible first|refine jW ?hy ?_|refine jY ?hy ?_);case hy=>rfl)|((with_reducible first|refine jX ?hy ?_|refine jZ ?hy ?_);case hy=>rfl)|((with_reducible refine jF ?hy ?_);case hy=>decide))
   exact loop_normal (m' := n - (i + 1)) (by omega) ⟨i + 1, rfl, rfl, hlt, by rw [if_pos (by omega), hidx]; rfl, rfl⟩
  ·have t1 : ((y : Int) == (v : Int)) = false := by simp; omega
   have hidx : xs.idxOf v ≠ i := fun e => by
    have e1 := List.getElem_idxOf hk
    have e2 : xs[xs.idxOf v]? = some y := by rw [e]; exact hy
    rw [List.getElem?_eq_getElem hk, e1] at e2
    exact hyv (Option.some.inj e2).symm
   repeat' (first|(with_reducible first|refine jA ?_|(refine hK _ _ ?_;clear hK K)|refine jJ fun K hK=>?_|refine jK ?_|refine jL ?_|refine jM ?_|refine jN ?_|refine jO ?_|refine jP ?_|refine jQ ?_|(refine jB ?_;clear hK K)|(refine jC ?_;clear hK K)|refine jD ?_|refine jE ?_|refine jG ?_|refine jH ?_|refine jI ?_)|((with_reducible refine jR ?hq ?_);case hq=>rfl)|((first|(with_reducible first|refine jS fun K hK=>?_|refine jT ?_|refine jU ?_)|((with_reducible refine jV ?hy fun K hK=>?_);case hy=>rfl));simp only [go_sem, Nat.reduceEqDiff, Nat.reduceAdd, Nat.reduceMul, Nat.reduceLeDiff, Nat.reduceLT, Int.reduceLT, Int.reduceLE, Int.reduceEq, Int.reduceNeg, Int.reduceToNat, Nat.reducePow, reduceIte, reduceCtorEq, i14, i2, i8, i20, hlt, hlx', cy, t1, ew2])|((with_reducible first|refine jW ?hy ?_|refine jY ?hy ?_);case hy=>rfl)|((with_reducible first|refine jX ?hy ?_|refine jZ ?hy ?_);case hy=>rfl)|((with_reducible refine jF ?hy ?_);case hy=>decide))
   refine loop_normal (m' := n - (i + 1)) (by omega) ⟨i + 1, rfl, rfl, hlt, i19.trans ?_, rfl⟩
   by_cases h : xs.idxOf v < i
   ·rw [if_pos h, if_pos (by omega)]
   ·rw [if_neg h, if_neg (by omega)]
 ·obtain rfl : i = n := by omega
  have t1 : (i < i) = False := by simp
  repeat' (first|(with_reducible first|refine jA ?_|(refine hK _ _ ?_;clear hK K)|refine jJ fun K hK=>?_|refine jK ?_|refine jL ?_|refine jM ?_|refine jN ?_|refine jO ?_|refine jP ?_|refine jQ ?_|(refine jB ?_;clear hK K)|(refine jC ?_;clear hK K)|refine jD ?_|refine jE ?_|refine jG ?_|refine jH ?_|refine jI ?_)|((with_reducible refine jR ?hq ?_);case hq=>rfl)|((first|(with_reducible first|refine jS fun K hK=>?_|refine jT ?_|refine jU ?_)|((with_reducible refine jV ?hy fun K hK=>?_);case hy=>rfl));simp only [go_sem, Nat.reduceEqDiff, Nat.reduceAdd, Nat.reduceMul, Nat.reduceLeDiff, Nat.reduceLT, Int.reduceLT, Int.reduceLE, Int.reduceEq, Int.reduceNeg, Int.reduceToNat, Nat.reducePow, reduceIte, reduceCtorEq, i8, i20, t1])|((with_reducible first|refine jW ?hy ?_|refine jY ?hy ?_);case hy=>rfl)|((with_reducible first|refine jX ?hy ?_|refine jZ ?hy ?_);case hy=>rfl)|((with_reducible refine jF ?hy ?_);case hy=>decide))
  exact hQ _ keep.1 keep.2.1 keep.2.2.1 keep.2.2.2 (i19.trans (by rw [if_pos (by omega)]))
theorem tuC {B C : Option Nat} {va vb : Value} {xs : List Nat} {k n : Nat} (hx : IR H B va (xs.map Int.ofNat)) (hy : IR H C vb ((xs.drop k ++ xs.take k).map Int.ofNat)) (hl : xs.length = n) (hn : n ≤ 64) (hk : k < n) (e14 : e 14 = va) (e17 : e 17 = vb) (e8 : e 8 = .int .i64 (n : Nat)) (e19 : e 19 = .int .i64 (k : Nat)) (e21 : e 21 = .int .i64 0)
  (hQ : ∀ e', e' 1 = e 1 → e' 14 = e 14 → Z .normal e' H) :
  codeX Try.prog [33] (loopAt Try.f3.body 2) (blockQ 4 Z) e H := by
 refine x_loop (fun m e' H' => ∃ i : Nat, H' = H ∧ e' 21 = .int .i64 (i : Nat) ∧ i ≤ n ∧ m = n - i) n ⟨0, rfl, e21, Nat.zero_le _, rfl⟩ ?_
 rintro m e1 H1 ⟨i, rfl, i21, hi, rfl⟩ hoff
 have i14 := (hoff 14 rfl).trans e14
 have i17 := (hoff 17 rfl).trans e17
 have i8 := (hoff 8 rfl).trans e8
 have i19 := (hoff 19 rfl).trans e19
 have keep : e1 1 = e 1 ∧ e1 14 = e 14 := ⟨hoff 1 rfl, hoff 14 rfl⟩
 clear hoff
 by_cases hlt : i < n
 ·have hj : (k + i) % n < n := Nat.mod_lt _ (by omega)
  obtain ⟨y, hyg⟩ : ∃ y, xs[(k + i) % n]? = some y := ⟨_, List.getElem?_eq_getElem (by omega)⟩
  have hrot := rot_get xs k i (by omega) (by omega)
  rw [hl, hyg] at hrot
  have h1 : (xs.map Int.ofNat)[(k + i) % n]? = some (y : Int) := by rw [List.getElem?_map, hyg]; rfl
  have h2 : ((xs.drop k ++ xs.take k).map Int.ofNat)[i]? = some (y : Int) := by rw [List.getElem?_map, hrot]; rfl
  obtain ⟨g, c, rfl, rfl, cx⟩ := hx.read h1
  obtain ⟨g', c', rfl, rfl, cy⟩ := hy.read h2
  have l1 : (xs.map Int.ofNat).length = n := by simp [hl]
  have l2 : ((xs.drop k ++ xs.take k).map Int.ofNat).length = n := by simp; omega
  rw [l1] at i14
  rw [l2] at i17
  have t0 : ((k : Int) < 0) = False := by simp
  have ew : IntKind.i64.wrap ((k : Int) + (i : Int)) = ((k + i : Nat) : Int) := by rw [wrap_i64] <;> omega
  have em : ((k + i : Nat) : Int).tmod (n : Int) = (((k + i) % n : Nat) : Int) := by rw [Int.tmod_eq_emod_of_nonneg (by omega)]; rfl
  have ez : ((n : Int) = 0) = False := by simp; omega
  have ez' : (n = 0) = False := by simp; omega
  have t1 : ((y : Int) != (y : Int)) = false := by simp
  have ew2 : IntKind.i64.wrap ((i : Int) + 1) = ((i + 1 : Nat) : Int) := by rw [wrap_i64] <;> omega
  repeat' (first|(with_reducible first|refine jA ?_|(refine hK _ _ ?_;clear hK K)|refine jJ fun K hK=>?_|refine jK ?_|refine jL ?_|refine jM ?_|refine jN ?_|refine jO ?_|refine jP ?_|refine jQ ?_|(refine jB ?_;clear hK K)|(refine jC ?_;clear hK K)|refine jD ?_|refine jE ?_|refine jG ?_|refine jH ?_|refine jI ?_)|((with_reducible refine jR ?hq ?_);case hq=>rfl)|((first|(with_reducible first|refine jS fun K hK=>?_|refine jT ?_|refine jU ?_)|((with_reducible refine jV ?hy fun K hK=>?_);case hy=>rfl));simp only [go_sem, Nat.reduceEqDiff, Nat.reduceAdd, Nat.reduceMul, Nat.reduceLeDiff, Nat.reduceLT, Int.reduceLT, Int.reduceLE, Int.reduceEq, Int.reduceNeg, Int.reduceToNat, Nat.reducePow, reduceIte, reduceCtorEq, i14, i17, i8, i19, i21, hlt, t0, ew, em, ez, ez', hj, cx, cy, t1, ew2])|((with_reducible first|refine jW ?hy ?_|refine jY ?hy ?_);case hy=>rfl)|((with_reducible first|refine jX ?hy ?_|refine jZ ?hy ?_);case hy=>rfl)|((with_reducible refine jF ?hy ?_);case hy=>decide))
  exact loop_normal (m' := n - (i + 1)) (by omega) ⟨i + 1, rfl, rfl, hlt, rfl⟩
 ·obtain rfl : i = n := by omega
  have t1 : (i < i) = False := by simp
  repeat' (first|(with_reducible first|refine jA ?_|(refine hK _ _ ?_;clear hK K)|refine jJ fun K hK=>?_|refine jK ?_|refine jL ?_|refine jM ?_|refine jN ?_|refine jO ?_|refine jP ?_|refine jQ ?_|(refine jB ?_;clear hK K)|(refine jC ?_;clear hK K)|refine jD ?_|refine jE ?_|refine jG ?_|refine jH ?_|refine jI ?_)|((with_reducible refine jR ?hq ?_);case hq=>rfl)|((first|(with_reducible first|refine jS fun K hK=>?_|refine jT ?_|refine jU ?_)|((with_reducible refine jV ?hy fun K hK=>?_);case hy=>rfl));simp only [go_sem, Nat.reduceEqDiff, Nat.reduceAdd, Nat.reduceMul, Nat.reduceLeDiff, Nat.reduceLT, Int.reduceLT, Int.reduceLE, Int.reduceEq, Int.reduceNeg, Int.reduceToNat, Nat.reducePow, reduceIte, reduceCtorEq, i8, i21, t1])|((with_reducible first|refine jW ?hy ?_|refine jY ?hy ?_);case hy=>rfl)|((with_reducible first|refine jX ?hy ?_|refine jZ ?hy ?_);case hy=>rfl)|((with_reducible refine jF ?hy ?_);case hy=>decide))
  exact hQ _ keep.1 keep.2
end
theorem tourTurns {H : Heap} {a : Option Addr} {len cap : Nat} {zs : Nat → Int} {u v : Int} {L : Value → Heap → Prop} (hin : InInts H a len zs) (hl : len ≤ 9223372036854775807) (u0 : -9223372036854775808 ≤ u) (u1 : u ≤ 9223372036854775807) (v0 : -9223372036854775808 ≤ v) (v1 : v ≤ 9223372036854775807)
  (fin : ∀ H', Fr (fun _ => False) H H' → L (.bool true) H') : CallsH Try.prog 3 #[.slice a len cap, .int .i64 u, .int .i64 v] H L := by
 obtain ⟨n, hn⟩ : ∃ n, n = 1 + min len 63 := ⟨_, rfl⟩
 have hn64 : n ≤ 64 := by omega
 have hn1 : 1 ≤ n := by omega
 have emin : (if (63 : Int) < (len : Int) then (63 : Int) else (len : Int)) = ((min len 63 : Nat) : Int) := by
  split <;> omega
 have ew : IntKind.i64.wrap (1 + ((min len 63 : Nat) : Int)) = (n : Int) := by rw [wrap_i64] <;> omega
 have z0 : ((0 : Int) != 0) = false := rfl
 refine call3 (by simp) ?_
 simp only [Try.f3, Option.getD_some]
 repeat' (first|(with_reducible first|refine jA ?_|(refine hK _ _ ?_;clear hK K)|refine jJ fun K hK=>?_|refine jK ?_|refine jL ?_|refine jM ?_|refine jN ?_|refine jO ?_|refine jP ?_|refine jQ ?_|(refine jB ?_;clear hK K)|(refine jC ?_;clear hK K)|refine jD ?_|refine jE ?_|refine jG ?_|refine jH ?_|refine jI ?_)|((with_reducible refine jR ?hq ?_);case hq=>rfl)|((first|(with_reducible first|refine jS fun K hK=>?_|refine jT ?_|refine jU ?_)|((with_reducible refine jV ?hy fun K hK=>?_);case hy=>rfl));simp only [go_sem, Nat.reduceEqDiff, Nat.reduceAdd, Nat.reduceMul, Nat.reduceLeDiff, Nat.reduceLT, Int.reduceLT, Int.reduceLE, Int.reduceEq, Int.reduceNeg, Int.reduceToNat, Nat.reducePow, reduceIte, reduceCtorEq])|((with_reducible first|refine jW ?hy ?_|refine jY ?hy ?_);case hy=>rfl)|((with_reducible first|refine jX ?hy ?_|refine jZ ?hy ?_);case hy=>rfl)|((with_reducible refine jF ?hy ?_);case hy=>decide))
 refine awake_ok fun H1 hf1 => ?_
 repeat' (first|(with_reducible first|refine jA ?_|(refine hK _ _ ?_;clear hK K)|refine jJ fun K hK=>?_|refine jK ?_|refine jL ?_|refine jM ?_|refine jN ?_|refine jO ?_|refine jP ?_|refine jQ ?_|(refine jB ?_;clear hK K)|(refine jC ?_;clear hK K)|refine jD ?_|refine jE ?_|refine jG ?_|refine jH ?_|refine jI ?_)|((with_reducible refine jR ?hq ?_);case hq=>rfl)|((first|(with_reducible first|refine jS fun K hK=>?_|refine jT ?_|refine jU ?_)|((with_reducible refine jV ?hy fun K hK=>?_);case hy=>rfl));simp only [go_sem, Nat.reduceEqDiff, Nat.reduceAdd, Nat.reduceMul, Nat.reduceLeDiff, Nat.reduceLT, Int.reduceLT, Int.reduceLE, Int.reduceEq, Int.reduceNeg, Int.reduceToNat, Nat.reducePow, reduceIte, reduceCtorEq, emin, ew])|((with_reducible first|refine jW ?hy ?_|refine jY ?hy ?_);case hy=>rfl)|((with_reducible first|refine jX ?hy ?_|refine jZ ?hy ?_);case hy=>rfl)|((with_reducible refine jF ?hy ?_);case hy=>decide))
 refine tnew_ok hn1 hn64 fun H2 t T2 hM2 hf2 hT2 => ?_
 have hS2 := (TS.start hM2 hf2 hT2).base hf1
 repeat' (first|(with_reducible first|refine jA ?_|(refine hK _ _ ?_;clear hK K)|refine jJ fun K hK=>?_|refine jK ?_|refine jL ?_|refine jM ?_|refine jN ?_|refine jO ?_|refine jP ?_|refine jQ ?_|(refine jB ?_;clear hK K)|(refine jC ?_;clear hK K)|refine jD ?_|refine jE ?_|refine jG ?_|refine jH ?_|refine jI ?_)|((with_reducible refine jR ?hq ?_);case hq=>rfl)|((first|(with_reducible first|refine jS fun K hK=>?_|refine jT ?_|refine jU ?_)|((with_reducible refine jV ?hy fun K hK=>?_);case hy=>rfl));simp only [go_sem, Nat.reduceEqDiff, Nat.reduceAdd, Nat.reduceMul, Nat.reduceLeDiff, Nat.reduceLT, Int.reduceLT, Int.reduceLE, Int.reduceEq, Int.reduceNeg, Int.reduceToNat, Nat.reducePow, reduceIte, reduceCtorEq, z0])|((with_reducible first|refine jW ?hy ?_|refine jY ?hy ?_);case hy=>rfl)|((with_reducible first|refine jX ?hy ?_|refine jZ ?hy ?_);case hy=>rfl)|((with_reducible refine jF ?hy ?_);case hy=>decide))
 refine tuA (hin) hn hS2 rfl rfl rfl rfl ?_
 intro e' H3 T3 Q3 i1 i2 i8 i9 hS3 hG hQn
 have i1 : e' 1 = .int .i64 u := i1.trans rfl
 have i2 : e' 2 = .int .i64 v := i2.trans rfl
 repeat' (first|(with_reducible first|refine jA ?_|(refine hK _ _ ?_;clear hK K)|refine jJ fun K hK=>?_|refine jK ?_|refine jL ?_|refine jM ?_|refine jN ?_|refine jO ?_|refine jP ?_|refine jQ ?_|(refine jB ?_;clear hK K)|(refine jC ?_;clear hK K)|refine jD ?_|refine jE ?_|refine jG ?_|refine jH ?_|refine jI ?_)|((with_reducible refine jR ?hq ?_);case hq=>rfl)|((first|(with_reducible first|refine jS fun K hK=>?_|refine jT ?_|refine jU ?_)|((with_reducible refine jV ?hy fun K hK=>?_);case hy=>rfl));simp only [go_sem, Nat.reduceEqDiff, Nat.reduceAdd, Nat.reduceMul, Nat.reduceLeDiff, Nat.reduceLT, Int.reduceLT, Int.reduceLE, Int.reduceEq, Int.reduceNeg, Int.reduceToNat, Nat.reducePow, reduceIte, reduceCtorEq, i1, i2, i8])|((with_reducible first|refine jW ?hy ?_|refine jY ?hy ?_);case hy=>rfl)|((with_reducible first|refine jX ?hy ?_|refine jZ ?hy ?_);case hy=>rfl)|((with_reducible refine jF ?hy ?_);case hy=>decide))
 refine Pkisthmuslaw04.pick_ok u0 u1 (by omega) ?_
 obtain ⟨a0, a1⟩ := pickN_range u (n := (n : Int)) (by omega)
 obtain ⟨p, ep⟩ := Int.eq_ofNat_of_zero_le a0
 rw [ep] at a1 ⊢
 have hp : p < Q3.n := by omega
 repeat' (first|(with_reducible first|refine jA ?_|(refine hK _ _ ?_;clear hK K)|refine jJ fun K hK=>?_|refine jK ?_|refine jL ?_|refine jM ?_|refine jN ?_|refine jO ?_|refine jP ?_|refine jQ ?_|(refine jB ?_;clear hK K)|(refine jC ?_;clear hK K)|refine jD ?_|refine jE ?_|refine jG ?_|refine jH ?_|refine jI ?_)|((with_reducible refine jR ?hq ?_);case hq=>rfl)|((first|(with_reducible first|refine jS fun K hK=>?_|refine jT ?_|refine jU ?_)|((with_reducible refine jV ?hy fun K hK=>?_);case hy=>rfl));simp only [go_sem, Nat.reduceEqDiff, Nat.reduceAdd, Nat.reduceMul, Nat.reduceLeDiff, Nat.reduceLT, Int.reduceLT, Int.reduceLE, Int.reduceEq, Int.reduceNeg, Int.reduceToNat, Nat.reducePow, reduceIte, reduceCtorEq, i2, i8])|((with_reducible first|refine jW ?hy ?_|refine jY ?hy ?_);case hy=>rfl)|((with_reducible first|refine jX ?hy ?_|refine jZ ?hy ?_);case hy=>rfl)|((with_reducible refine jF ?hy ?_);case hy=>decide))
 refine Pkisthmuslaw04.pick_ok v0 v1 (by omega) ?_
 obtain ⟨b0, b1⟩ := pickN_range v (n := (n : Int)) (by omega)
 obtain ⟨q, eq⟩ := Int.eq_ofNat_of_zero_le b0
 rw [eq] at b1 ⊢
 have hq : q < Q3.n := by omega
 have hG' : Grown Q3 Q3.n := by rw [hQn]; exact hG
 have hok3 := hS3.to.ok
 obtain ⟨A, eA⟩ : ∃ A, A = Q3.row p := ⟨_, rfl⟩
 have hrow : ∀ w, w < Q3.n → Q3.row w = A := fun w hw => by rw [eA]; exact hG'.whole hok3 hw hp
 have hAn : A.Nodup := by rw [eA]; exact hok3.nd p hp
 have hAm : ∀ x, (x, x) ∈ A ↔ x < Q3.n := fun x => by rw [eA]; exact hG'.one p hp x
 repeat' (first|(with_reducible first|refine jA ?_|(refine hK _ _ ?_;clear hK K)|refine jJ fun K hK=>?_|refine jK ?_|refine jL ?_|refine jM ?_|refine jN ?_|refine jO ?_|refine jP ?_|refine jQ ?_|(refine jB ?_;clear hK K)|(refine jC ?_;clear hK K)|refine jD ?_|refine jE ?_|refine jG ?_|refine jH ?_|refine jI ?_)|((with_reducible refine jR ?hq ?_);case hq=>rfl)|((first|(with_reducible first|refine jS fun K hK=>?_|refine jT ?_|refine jU ?_)|((with_reducible refine jV ?hy fun K hK=>?_);case hy=>rfl));simp only [go_sem, Nat.reduceEqDiff, Nat.reduceAdd, Nat.reduceMul, Nat.reduceLeDiff, Nat.reduceLT, Int.reduceLT, Int.reduceLE, Int.reduceEq, Int.reduceNeg, Int.reduceToNat, Nat.reducePow, reduceIte, reduceCtorEq, i9])|((with_reducible first|refine jW ?hy ?_|refine jY ?hy ?_);case hy=>rfl)|((with_reducible first|refine jX ?hy ?_|refine jZ ?hy ?_);case hy=>rfl)|((with_reducible refine jF ?hy ?_);case hy=>decide))
 have r1 : Q3.rerootQ (p : Int) = (0, Q3.lay (turnedL A p)) := by
  unfold Tq.rerootQ
  rw [inB_of hp, if_pos rfl, Int.toNat_natCast, eA]
 refine tq_reroot hS3.to fun H4 T4 hM4 hf4 hT4 => ?_
 have hS4 := hS3.op hM4 hf4 hT4
 rw [r1] at hS4 ⊢
 have hrow4 : ∀ w, w < Q3.n → (Q3.lay (turnedL A p)).row w = turnedL A p := fun w hw => if_pos (mem_turnedL.2 ((hAm w).2 hw))
 have hA4 : (turnedL A p).Nodup := (turned_perm A p).nodup_iff.2 hAn
 have w1 : (Q3.lay (turnedL A p)).walkQ 0 = ((wl (turnedL A p)).map Int.ofNat, 0) := by
  unfold Tq.walkQ
  rw [show inB (Q3.lay (turnedL A p)).n (0 : Int) = true from inB_of (v := 0) (by show 0 < Q3.n; omega), if_pos rfl]
  show ((Q3.lay (turnedL A p)).walkL 0, (0 : Int)) = _
  rw [walkL_eq, hrow4 0 (by omega)]
 repeat' (first|(with_reducible first|refine jA ?_|(refine hK _ _ ?_;clear hK K)|refine jJ fun K hK=>?_|refine jK ?_|refine jL ?_|refine jM ?_|refine jN ?_|refine jO ?_|refine jP ?_|refine jQ ?_|(refine jB ?_;clear hK K)|(refine jC ?_;clear hK K)|refine jD ?_|refine jE ?_|refine jG ?_|refine jH ?_|refine jI ?_)|((with_reducible refine jR ?hq ?_);case hq=>rfl)|((first|(with_reducible first|refine jS fun K hK=>?_|refine jT ?_|refine jU ?_)|((with_reducible refine jV ?hy fun K hK=>?_);case hy=>rfl));simp only [go_sem, Nat.reduceEqDiff, Nat.reduceAdd, Nat.reduceMul, Nat.reduceLeDiff, Nat.reduceLT, Int.reduceLT, Int.reduceLE, Int.reduceEq, Int.reduceNeg, Int.reduceToNat, Nat.reducePow, reduceIte, reduceCtorEq, i9])|((with_reducible first|refine jW ?hy ?_|refine jY ?hy ?_);case hy=>rfl)|((with_reducible first|refine jX ?hy ?_|refine jZ ?hy ?_);case hy=>rfl)|((with_reducible refine jF ?hy ?_);case hy=>decide))
 refine tq_walk hS4.to fun H5 T5 B5 v5 hM5 hi5 hB5 hf5 hT5 => ?_
 rw [w1] at hi5 ⊢
 have hS5 := hS4.op hM5 hf5 hT5
 have r2 : (Q3.lay (turnedL A p)).rerootQ (q : Int) = (0, (Q3.lay (turnedL A p)).lay (turnedL (turnedL A p) q)) := by
  unfold Tq.rerootQ
  rw [show inB (Q3.lay (turnedL A p)).n (q : Int) = true from inB_of hq, if_pos rfl, Int.toNat_natCast, hrow4 q hq]
 repeat' (first|(with_reducible first|refine jA ?_|(refine hK _ _ ?_;clear hK K)|refine jJ fun K hK=>?_|refine jK ?_|refine jL ?_|refine jM ?_|refine jN ?_|refine jO ?_|refine jP ?_|refine jQ ?_|(refine jB ?_;clear hK K)|(refine jC ?_;clear hK K)|refine jD ?_|refine jE ?_|refine jG ?_|refine jH ?_|refine jI ?_)|((with_reducible refine jR ?hq ?_);case hq=>rfl)|((first|(with_reducible first|refine jS fun K hK=>?_|refine jT ?_|refine jU ?_)|((with_reducible refine jV ?hy fun K hK=>?_);case hy=>rfl));simp only [go_sem, Nat.reduceEqDiff, Nat.reduceAdd, Nat.reduceMul, Nat.reduceLeDiff, Nat.reduceLT, Int.reduceLT, Int.reduceLE, Int.reduceEq, Int.reduceNeg, Int.reduceToNat, Nat.reducePow, reduceIte, reduceCtorEq, i9])|((with_reducible first|refine jW ?hy ?_|refine jY ?hy ?_);case hy=>rfl)|((with_reducible first|refine jX ?hy ?_|refine jZ ?hy ?_);case hy=>rfl)|((with_reducible refine jF ?hy ?_);case hy=>decide))
 refine tq_reroot hS5.to fun H6 T6 hM6 hf6 hT6 => ?_
 have hS6 := hS5.op hM6 hf6 hT6
 rw [r2] at hS6 ⊢
 have hi6 := hi5.frame hf6 fun g hg => (hB5 g hg).2
 have hB6 : ∀ b, B5 = some b → ¬ T6 b ∧ b < H6.size := fun b hb => by
  refine ⟨fun hx => ?_, hi6.lt hb⟩
  rcases hT6 b hx with h | h
  ·exact (hB5 b hb).2 h
  ·have := hi5.lt hb; omega
 obtain ⟨a', ha'⟩ : ∃ a', a' = wl (turnedL A p) := ⟨_, rfl⟩
 have hal : a'.length = n := by rw [ha', ← hQn]; exact hG'.wl_len hok3 hp ((turned_perm A p).trans (by rw [eA]))
 have han : a'.Nodup := by rw [ha']; exact wl_nodup hA4
 have hqa : q ∈ a' := by rw [ha', mem_wl]; exact mem_turnedL.2 ((hAm q).2 hq)
 have w2 : ((Q3.lay (turnedL A p)).lay (turnedL (turnedL A p) q)).walkQ ((n - 1 : Nat) : Int) = ((a'.drop (a'.idxOf q) ++ a'.take (a'.idxOf q)).map Int.ofNat, 0) := by
  unfold Tq.walkQ
  have hn1' : n - 1 < Q3.n := by omega
  rw [show inB ((Q3.lay (turnedL A p)).lay (turnedL (turnedL A p) q)).n ((n - 1 : Nat) : Int) = true from inB_of hn1', if_pos rfl, Int.toNat_natCast, walkL_eq]
  show ((wl (if (n - 1, n - 1) ∈ turnedL (turnedL A p) q then turnedL (turnedL A p) q else _)).map Int.ofNat, (0 : Int)) = _
  rw [if_pos (mem_turnedL.2 (mem_turnedL.2 ((hAm _).2 hn1'))), wl_turned hA4 (mem_turnedL.2 ((hAm q).2 hq)), ← ha']
 have ew3 : IntKind.i64.wrap ((n : Int) - 1) = ((n - 1 : Nat) : Int) := by rw [wrap_i64] <;> omega
 repeat' (first|(with_reducible first|refine jA ?_|(refine hK _ _ ?_;clear hK K)|refine jJ fun K hK=>?_|refine jK ?_|refine jL ?_|refine jM ?_|refine jN ?_|refine jO ?_|refine jP ?_|refine jQ ?_|(refine jB ?_;clear hK K)|(refine jC ?_;clear hK K)|refine jD ?_|refine jE ?_|refine jG ?_|refine jH ?_|refine jI ?_)|((with_reducible refine jR ?hq ?_);case hq=>rfl)|((first|(with_reducible first|refine jS fun K hK=>?_|refine jT ?_|refine jU ?_)|((with_reducible refine jV ?hy fun K hK=>?_);case hy=>rfl));simp only [go_sem, Nat.reduceEqDiff, Nat.reduceAdd, Nat.reduceMul, Nat.reduceLeDiff, Nat.reduceLT, Int.reduceLT, Int.reduceLE, Int.reduceEq, Int.reduceNeg, Int.reduceToNat, Nat.reducePow, reduceIte, reduceCtorEq, i9, i8, ew3])|((with_reducible first|refine jW ?hy ?_|refine jY ?hy ?_);case hy=>rfl)|((with_reducible first|refine jX ?hy ?_|refine jZ ?hy ?_);case hy=>rfl)|((with_reducible refine jF ?hy ?_);case hy=>decide))
 refine tq_walk hS6.to fun H7 T7 B7 v7 hM7 hi7 hB7 hf7 hT7 => ?_
 rw [w2] at hi7 ⊢
 have hS7 := hS6.op hM7 hf7 hT7
 have hi57 := hi6.frame hf7 fun g hg => (hB6 g hg).1
 rw [← ha'] at hi57
 have l1 : (a'.map Int.ofNat).length = n := by simp [hal]
 have l2 : ((a'.drop (a'.idxOf q) ++ a'.take (a'.idxOf q)).map Int.ofNat).length = n := by
  have := List.idxOf_lt_length_of_mem hqa
  simp; omega
 obtain ⟨sa, sc, rfl⟩ : ∃ sa sc, v5 = .slice sa n sc := by
  obtain ⟨sa, sc, h⟩ := hi57.slice
  exact ⟨sa, sc, by rw [h, l1]⟩
 obtain ⟨sb, sd, rfl⟩ : ∃ sb sd, v7 = .slice sb n sd := by
  obtain ⟨sb, sd, h⟩ := hi7.slice
  exact ⟨sb, sd, by rw [h, l2]⟩
 have tn : ((n : Int) != (n : Int)) = false := by simp
 have hkn : a'.idxOf q < n := by rw [← hal]; exact List.idxOf_lt_length_of_mem hqa
 repeat' (first|(with_reducible first|refine jA ?_|(refine hK _ _ ?_;clear hK K)|refine jJ fun K hK=>?_|refine jK ?_|refine jL ?_|refine jM ?_|refine jN ?_|refine jO ?_|refine jP ?_|refine jQ ?_|(refine jB ?_;clear hK K)|(refine jC ?_;clear hK K)|refine jD ?_|refine jE ?_|refine jG ?_|refine jH ?_|refine jI ?_)|((with_reducible refine jR ?hq ?_);case hq=>rfl)|((first|(with_reducible first|refine jS fun K hK=>?_|refine jT ?_|refine jU ?_)|((with_reducible refine jV ?hy fun K hK=>?_);case hy=>rfl));simp only [go_sem, Nat.reduceEqDiff, Nat.reduceAdd, Nat.reduceMul, Nat.reduceLeDiff, Nat.reduceLT, Int.reduceLT, Int.reduceLE, Int.reduceEq, Int.reduceNeg, Int.reduceToNat, Nat.reducePow, reduceIte, reduceCtorEq, z0, tn, i8, i2])|((with_reducible first|refine jW ?hy ?_|refine jY ?hy ?_);case hy=>rfl)|((with_reducible first|refine jX ?hy ?_|refine jZ ?hy ?_);case hy=>rfl)|((with_reducible refine jF ?hy ?_);case hy=>decide))
 refine tuB hi57 hal hn64 han hqa rfl rfl i8 rfl rfl fun e2 j1 j8 j14 j17 j19 => ?_
 have j14 : e2 14 = .slice sa n sc := j14.trans rfl
 have j17 : e2 17 = .slice sb n sd := j17.trans rfl
 have j8 : e2 8 = .int .i64 (n : Nat) := j8.trans i8
 have j1 : e2 1 = .int .i64 (p : Nat) := j1.trans rfl
 repeat' (first|(with_reducible first|refine jA ?_|(refine hK _ _ ?_;clear hK K)|refine jJ fun K hK=>?_|refine jK ?_|refine jL ?_|refine jM ?_|refine jN ?_|refine jO ?_|refine jP ?_|refine jQ ?_|(refine jB ?_;clear hK K)|(refine jC ?_;clear hK K)|refine jD ?_|refine jE ?_|refine jG ?_|refine jH ?_|refine jI ?_)|((with_reducible refine jR ?hq ?_);case hq=>rfl)|((first|(with_reducible first|refine jS fun K hK=>?_|refine jT ?_|refine jU ?_)|((with_reducible refine jV ?hy fun K hK=>?_);case hy=>rfl));simp only [go_sem, Nat.reduceEqDiff, Nat.reduceAdd, Nat.reduceMul, Nat.reduceLeDiff, Nat.reduceLT, Int.reduceLT, Int.reduceLE, Int.reduceEq, Int.reduceNeg, Int.reduceToNat, Nat.reducePow, reduceIte, reduceCtorEq])|((with_reducible first|refine jW ?hy ?_|refine jY ?hy ?_);case hy=>rfl)|((with_reducible first|refine jX ?hy ?_|refine jZ ?hy ?_);case hy=>rfl)|((with_reducible refine jF ?hy ?_);case hy=>decide))
 refine tuC hi57 hi7 hal hn64 hkn j14 j17 j8 j19 rfl fun e3 k1 k14 => ?_
 have k14 : e3 14 = .slice sa n sc := k14.trans j14
 have k1 : e3 1 = .int .i64 (p : Nat) := k1.trans j1
 have hp0 : a'[0]? = some p := by
  rw [ha', turnedL_eq hAn (split_idx ((hAm p).2 hp)).1, List.cons_append, wl_stop]
  rfl
 obtain ⟨g, c, rfl, hv, cx⟩ := hi57.read (i := 0) (x := (p : Int)) (by rw [List.getElem?_map, hp0]; rfl)
 simp only [Value.slice.injEq] at hv
 obtain ⟨rfl, _, rfl⟩ := hv
 have t0 : ((0 : Int) < (n : Int)) = True := by simp; omega
 have t0' : (0 < n) = True := by simp; omega
 have tp : ((p : Int) == (p : Int)) = true := by simp
 repeat' (first|(with_reducible first|refine jA ?_|(refine hK _ _ ?_;clear hK K)|refine jJ fun K hK=>?_|refine jK ?_|refine jL ?_|refine jM ?_|refine jN ?_|refine jO ?_|refine jP ?_|refine jQ ?_|(refine jB ?_;clear hK K)|(refine jC ?_;clear hK K)|refine jD ?_|refine jE ?_|refine jG ?_|refine jH ?_|refine jI ?_)|((with_reducible refine jR ?hq ?_);case hq=>rfl)|((first|(with_reducible first|refine jS fun K hK=>?_|refine jT ?_|refine jU ?_)|((with_reducible refine jV ?hy fun K hK=>?_);case hy=>rfl));simp only [go_sem, Nat.reduceEqDiff, Nat.reduceAdd, Nat.reduceMul, Nat.reduceLeDiff, Nat.reduceLT, Int.reduceLT, Int.reduceLE, Int.reduceEq, Int.reduceNeg, Int.reduceToNat, Nat.reducePow, reduceIte, reduceCtorEq, k14, k1, t0, t0', cx, tp])|((with_reducible first|refine jW ?hy ?_|refine jY ?hy ?_);case hy=>rfl)|((with_reducible first|refine jX ?hy ?_|refine jZ ?hy ?_);case hy=>rfl)|((with_reducible refine jF ?hy ?_);case hy=>decide))
 exact fin _ hS7.fr
end Go.Proofs.Ytnlafhnbakipmaa
namespace Go.Hp
open Go Go.ChangeShapes Go.WideShapes Go.RowKit
set_option linter.unusedVariables false
section
variable {E : Type} {enc : TypeId × Value → E} {P : Program} {w : World} {base : Nat} {spare : Nat → Bool} {held : Bool}
theorem cells_in {t e : TypeId} {a : Option Addr} {len cap : Nat} {d : DataW E} {p : List MemPlace} (ht : P.underlying t = some (.slice e)) (h : DataW.Trod enc P w base spare held t (.slice a len cap) d p) :
  len ≤ 9223372036854775807 ∧ ∀ i, i < len → ∃ (q : Addr) (cs : List Value) (m : Nat) (y : DataW E × List MemPlace), a = some q ∧ w.cells? base (q.add (i * P.cellsOf e)) (P.cellsOf e) = some cs ∧ DataW.trod enc P w base spare held m e cs = some y := by
 obtain ⟨fuel, hf⟩ := h
 rcases DataW.trod_slice ht hf with ⟨h0, _⟩ | ⟨a', len', cap', elems, rest, n, _, h0, _, hb, hl, hm, hlen, hel, hsp, hns⟩
 ·simp [Value.cells] at h0
  obtain ⟨rfl, rfl, rfl⟩ := h0
  exact ⟨by omega, fun i hi => absurd hi (by omega)⟩
 ·simp [Value.cells] at h0
  obtain ⟨rfl, rfl, rfl⟩ := h0
  refine ⟨by unfold maxLen at hm; omega, fun i hi => ?_⟩
  have h1 := hel i hi
  rw [List.getElem?_eq_getElem (by omega)] at h1
  obtain ⟨cs, hcs, hy⟩ := Option.bind_eq_some_iff.1 h1
  exact ⟨a', cs, n, _, rfl, hcs, hy⟩
theorem fit_of_wf {n : Int} (h : (Lit.int .i64 n).wf = true) : -9223372036854775808 ≤ n ∧ n ≤ 9223372036854775807 := by
 have hb := bounds_i64 h
 omega
theorem ints_in {t e : TypeId} {a : Option Addr} {len cap : Nat} {d : DataW E} {p : List MemPlace} (ht : P.underlying t = some (.slice e)) (he : P.underlying e = some (.int .i64)) (hc : P.cellsOf e = 1) (h : DataW.Trod enc P w base spare held t (.slice a len cap) d p) :
  len ≤ 9223372036854775807 ∧ ∃ zs, InInts w.heap a len zs := by
 obtain ⟨hl, hi⟩ := cells_in ht h
 refine ⟨hl, ?_⟩
 have each : ∀ i, i < len → ∃ (q : Addr) (n : Int), a = some q ∧ w.cell? (q.add i) = some (.int .i64 n) ∧ (Lit.int .i64 n).wf = true := fun i hlt => by
  obtain ⟨q, cs, m, y, h1, h2, h3⟩ := hi i hlt
  obtain ⟨n, rfl, _, hw⟩ := DataW.trod_int he h3
  rw [hc, Nat.mul_one] at h2
  obtain ⟨_, _, h4⟩ := World.cells?_some h2
  refine ⟨q, n, h1, ?_, hw⟩
  have := h4 0 (by omega)
  simpa [Addr.add] using this
 refine ⟨fun i => if h : i < len then (each i h).choose_spec.choose else 0, fun i hlt => ?_⟩
 have e := (each i hlt).choose_spec.choose_spec
 refine ⟨_, e.1, ?_, ?_⟩
 ·simp only [hlt, dif_pos]
  exact e.2.1
 ·simp only [hlt, dif_pos]
  exact fit_of_wf e.2.2
theorem field_in {e : TypeId} {fs : Array Field} {q : Addr} {n : Nat} {cs : List Value} {m : Nat} {y : DataW E × List MemPlace} (he : P.underlying e = some (.struct fs)) (h2 : w.cells? base q n = some cs) (h3 : DataW.trod enc P w base spare held m e cs = some y)
  (i : Nat) {f : Field} (hf : fs[i]? = some f) (hc : P.cellsOf f.type = 1) (ho : f.offset < n) :
  ∃ (v : Value) (z : DataW E × List MemPlace) (m' : Nat), w.cell? (q.add f.offset) = some v ∧ DataW.trod enc P w base spare held m' f.type [v] = some z := by
 obtain ⟨xs, n', _, _, hlen, hxl, hfs⟩ := DataW.trod_struct he h3
 obtain ⟨_, hcl, hcell⟩ := World.cells?_some h2
 have h4 := hfs i f hf
 have hlt : i < fs.size := (Array.getElem?_eq_some_iff.1 hf).1
 rw [hc, List.getElem?_eq_getElem (by omega)] at h4
 have hd : (cs.drop f.offset).take 1 = [cs[f.offset]'(by omega)] := by
  rw [List.drop_eq_getElem_cons (by omega)]; rfl
 rw [hd] at h4
 refine ⟨_, _, n', ?_, h4⟩
 rw [hcell f.offset ho, List.getElem?_eq_getElem (by omega)]
end
theorem add_zero_addr (q : Addr) : q.add 0 = q := rfl
theorem add_succ_addr (q : Addr) (n : Nat) : q.add (n + 1) = ⟨q.block, q.off + (n + 1), none⟩ := by
 unfold Addr.add; rw [if_neg (by omega)]
end Go.Hp
