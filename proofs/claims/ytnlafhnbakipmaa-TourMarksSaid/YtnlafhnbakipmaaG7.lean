/-
  TourTurns returns true, whatever it is given, and writes nothing that was there.
  TourBack returns true, whatever it is given, and writes nothing that was there.
  Lists of edges: who is joined with whom; the place of an edge; a list without one.
  Lists of edges against tours (plain).
  TourMarks: its state in memory; its script.
  Link, Cut and MarkEdge beside lists of edges.
-/
import Derived.Test.YtnlafhnbakipmaaG6
import Derived.Test.YtnlafhnbakipmaaHpCR
import Derived.Test.YtnlafhnbakipmaaHpW
namespace Go.Proofs.Ytnlafhnbakipmaa
open Go Go.Hp Go.Sp Go.To
set_option linter.all false
set_option maxRecDepth 100000
set_option maxHeartbeats 1600000
section
variable {H0 H : Heap} {e : Env} {Z : HX → Env → Heap → Prop} {t : Nat} {T : Nat → Prop} {Q : Tq}
theorem tdiv2 (z : Int) (h1 : -9223372036854775808 ≤ z) (h2 : z ≤ 9223372036854775807) : -9223372036854775808 ≤ z.tdiv 2 ∧ z.tdiv 2 ≤ 9223372036854775807 := by
 rcases Int.lt_or_le z 0 with h | h
 ·have : z.tdiv 2 = -((-z) / 2) := by rw [← Int.tdiv_eq_ediv_of_nonneg (by omega), Int.neg_tdiv, Int.neg_neg]
  omega
 ·rw [Int.tdiv_eq_ediv_of_nonneg h]; omega
theorem linkQ_new {Q : Tq} {u v : Nat} (hu : u < Q.n) (hv : v < Q.n) (hne : (v, v) ∉ Q.row u) : Q.linkQ (u : Int) (v : Int) = (0, Q.lay (Q.linkRow u v)) := by
 unfold Tq.linkQ
 rw [inB_of hu, inB_of hv]
 simp only [Bool.and_self, if_true, Int.toNat_natCast]
 rw [if_neg hne]
theorem tuA {a : Option Addr} {len cap n : Nat} {zs : Nat → Int} (hin : InInts H0 a len zs) (hn : n = 1 + min len 63) (hS : TS H0 H t T (Tq.new n))
  (e0 : e 0 = .slice a len cap) (e8 : e 8 = .int .i64 (n : Nat)) (e9 : e 9 = .pointer (some ⟨t, 0, none⟩)) (e11 : e 11 = .int .i64 1)
  (hQ : ∀ e' H' T' Q', e' 1 = e 1 → e' 2 = e 2 → e' 8 = .int .i64 (n : Nat) → e' 9 = .pointer (some ⟨t, 0, none⟩) → TS H0 H' t T' Q' → Grown Q' n → Q'.n = n → Z .normal e' H') :
  codeX Try.prog [33] (loopAt Try.f3.body 0) (blockQ 0 Z) e H := by
 refine x_loop (fun m e' H' => ∃ (i : Nat) (T' : Nat → Prop) (Q' : Tq), e' 11 = .int .i64 (i : Nat) ∧ 1 ≤ i ∧ i ≤ n ∧ TS H0 H' t T' Q' ∧ Grown Q' i ∧ Q'.n = n ∧ m = n - i) (n - 1) ⟨1, T, Tq.new n, e11, Nat.le_refl _, by omega, hS, Grown.start, rfl, rfl⟩ ?_
 rintro m e1 H1 ⟨i, T1, Q1, i11, hi1, hi, hS1, hG, hQn, rfl⟩ hoff
 have i0 := (hoff 0 rfl).trans e0
 have i8 := (hoff 8 rfl).trans e8
 have i9 := (hoff 9 rfl).trans e9
 have keep : e1 1 = e 1 ∧ e1 2 = e 2 := ⟨hoff 1 rfl, hoff 2 rfl⟩
 clear hoff e0 e8 e9 e11
 by_cases hlt : i < n
 ·obtain ⟨p, rfl, cz, hz1, hz2⟩ := (hin.frame hS1.fr) (i - 1) (by omega)
  have ew : IntKind.i64.wrap ((i : Int) - 1) = ((i - 1 : Nat) : Int) := by rw [wrap_i64] <;> omega
  have ew2 : IntKind.i64.wrap ((i : Int) + 1) = ((i + 1 : Nat) : Int) := by rw [wrap_i64] <;> omega
  have hl1 : i - 1 < len := by omega
  obtain ⟨d1, d2⟩ := tdiv2 (zs (i - 1)) hz1 hz2
  have ewd : IntKind.i64.wrap ((zs (i - 1)).tdiv 2) = (zs (i - 1)).tdiv 2 := by rw [wrap_i64] <;> omega
  have z2 : ((2 : Int) = 0) = False := by simp
  repeat' (first|(with_reducible first|refine jA ?_|(refine hK _ _ ?_;clear hK K)|refine jJ fun K hK=>?_|refine jK ?_|refine jL ?_|refine jM ?_|refine jN ?_|refine jO ?_|refine jP ?_|refine jQ ?_|(refine jB ?_;clear hK K)|(refine jC ?_;clear hK K)|refine jD ?_|refine jE ?_|refine jG ?_|refine jH ?_|refine jI ?_)|((with_reducible refine jR ?hq ?_);case hq=>rfl)|((first|(with_reducible first|refine jS fun K hK=>?_|refine jT ?_|refine jU ?_)|((with_reducible refine jV ?hy fun K hK=>?_);case hy=>rfl));simp only [go_sem, Nat.reduceEqDiff, Nat.reduceAdd, Nat.reduceMul, Nat.reduceLeDiff, Nat.reduceLT, Int.reduceLT, Int.reduceLE, Int.reduceEq, Int.reduceNeg, Int.reduceToNat, Nat.reducePow, reduceIte, reduceCtorEq, i0, i8, i9, i11, hlt, ew, hl1, cz, ewd, z2])|((with_reducible first|refine jW ?hy ?_|refine jY ?hy ?_);case hy=>rfl)|((with_reducible first|refine jX ?hy ?_|refine jZ ?hy ?_);case hy=>rfl)|((with_reducible refine jF ?hy ?_);case hy=>decide))
  refine Pkisthmuslaw04.pick_ok d1 d2 (by omega) ?_
  obtain ⟨k0, k1⟩ := pickN_range ((zs (i - 1)).tdiv 2) (n := (i : Int)) (by omega)
  obtain ⟨k, ek⟩ := Int.eq_ofNat_of_zero_le k0
  rw [ek] at k1 ⊢
  have hki : k < i := by omega
  repeat' (first|(with_reducible first|refine jA ?_|(refine hK _ _ ?_;clear hK K)|refine jJ fun K hK=>?_|refine jK ?_|refine jL ?_|refine jM ?_|refine jN ?_|refine jO ?_|refine jP ?_|refine jQ ?_|(refine jB ?_;clear hK K)|(refine jC ?_;clear hK K)|refine jD ?_|refine jE ?_|refine jG ?_|refine jH ?_|refine jI ?_)|((with_reducible refine jR ?hq ?_);case hq=>rfl)|((first|(with_reducible first|refine jS fun K hK=>?_|refine jT ?_|refine jU ?_)|((with_reducible refine jV ?hy fun K hK=>?_);case hy=>rfl));simp only [go_sem, Nat.reduceEqDiff, Nat.reduceAdd, Nat.reduceMul, Nat.reduceLeDiff, Nat.reduceLT, Int.reduceLT, Int.reduceLE, Int.reduceEq, Int.reduceNeg, Int.reduceToNat, Nat.reducePow, reduceIte, reduceCtorEq, i0, i8, i9, i11, ew, hl1, cz])|((with_reducible first|refine jW ?hy ?_|refine jY ?hy ?_);case hy=>rfl)|((with_reducible first|refine jX ?hy ?_|refine jZ ?hy ?_);case hy=>rfl)|((with_reducible refine jF ?hy ?_);case hy=>decide))
  refine Pkisthmuslaw04.pick_ok hz1 hz2 (by omega) ?_
  have z0 : ((0 : Int) != 0) = false := rfl
  by_cases hp : pickN (zs (i - 1)) 2 = 0
  ·have t1 : (pickN (zs (i - 1)) 2 == 0) = true := by simp [hp]
   repeat' (first|(with_reducible first|refine jA ?_|(refine hK _ _ ?_;clear hK K)|refine jJ fun K hK=>?_|refine jK ?_|refine jL ?_|refine jM ?_|refine jN ?_|refine jO ?_|refine jP ?_|refine jQ ?_|(refine jB ?_;clear hK K)|(refine jC ?_;clear hK K)|refine jD ?_|refine jE ?_|refine jG ?_|refine jH ?_|refine jI ?_)|((with_reducible refine jR ?hq ?_);case hq=>rfl)|((first|(with_reducible first|refine jS fun K hK=>?_|refine jT ?_|refine jU ?_)|((with_reducible refine jV ?hy fun K hK=>?_);case hy=>rfl));simp only [go_sem, Nat.reduceEqDiff, Nat.reduceAdd, Nat.reduceMul, Nat.reduceLeDiff, Nat.reduceLT, Int.reduceLT, Int.reduceLE, Int.reduceEq, Int.reduceNeg, Int.reduceToNat, Nat.reducePow, reduceIte, reduceCtorEq, i9, i11, t1])|((with_reducible first|refine jW ?hy ?_|refine jY ?hy ?_);case hy=>rfl)|((with_reducible first|refine jX ?hy ?_|refine jZ ?hy ?_);case hy=>rfl)|((with_reducible refine jF ?hy ?_);case hy=>decide))
   obtain ⟨hne, hG'⟩ := hG.link hS1.to.ok (u := k) (v := i) (by omega) (.inl ⟨hki, rfl⟩)
   have hq := linkQ_new (by omega) (by omega) hne
   refine tq_link hS1.to fun H2 T2 hM2 hf2 hT2 => ?_
   have hS2 := hS1.op hM2 hf2 hT2
   rw [hq] at hS2 ⊢
   repeat' (first|(with_reducible first|refine jA ?_|(refine hK _ _ ?_;clear hK K)|refine jJ fun K hK=>?_|refine jK ?_|refine jL ?_|refine jM ?_|refine jN ?_|refine jO ?_|refine jP ?_|refine jQ ?_|(refine jB ?_;clear hK K)|(refine jC ?_;clear hK K)|refine jD ?_|refine jE ?_|refine jG ?_|refine jH ?_|refine jI ?_)|((with_reducible refine jR ?hq ?_);case hq=>rfl)|((first|(with_reducible first|refine jS fun K hK=>?_|refine jT ?_|refine jU ?_)|((with_reducible refine jV ?hy fun K hK=>?_);case hy=>rfl));simp only [go_sem, Nat.reduceEqDiff, Nat.reduceAdd, Nat.reduceMul, Nat.reduceLeDiff, Nat.reduceLT, Int.reduceLT, Int.reduceLE, Int.reduceEq, Int.reduceNeg, Int.reduceToNat, Nat.reducePow, reduceIte, reduceCtorEq, z0, i11, ew2])|((with_reducible first|refine jW ?hy ?_|refine jY ?hy ?_);case hy=>rfl)|((with_reducible first|refine jX ?hy ?_|refine jZ ?hy ?_);case hy=>rfl)|((with_reducible refine jF ?hy ?_);case hy=>decide))
   exact loop_normal (m' := n - (i + 1)) (by omega) ⟨i + 1, T2, _, rfl, by omega, hlt, hS2, hG', hQn, rfl⟩
  ·have t1 : (pickN (zs (i - 1)) 2 == 0) = false := by simp [hp]
   repeat' (first|(with_reducible first|refine jA ?_|(refine hK _ _ ?_;clear hK K)|refine jJ fun K hK=>?_|refine jK ?_|refine jL ?_|refine jM ?_|refine jN ?_|refine jO ?_|refine jP ?_|refine jQ ?_|(refine jB ?_;clear hK K)|(refine jC ?_;clear hK K)|refine jD ?_|refine jE ?_|refine jG ?_|refine jH ?_|refine jI ?_)|((with_reducible refine jR ?hq ?_);case hq=>rfl)|((first|(with_reducible first|refine jS fun K hK=>?_|refine jT ?_|refine jU ?_)|((with_reducible refine jV ?hy fun K hK=>?_);case hy=>rfl));simp only [go_sem, Nat.reduceEqDiff, Nat.reduceAdd, Nat.reduceMul, Nat.reduceLeDiff, Nat.reduceLT, Int.reduceLT, Int.reduceLE, Int.reduceEq, Int.reduceNeg, Int.reduceToNat, Nat.reducePow, reduceIte, reduceCtorEq, i9, i11, t1])|((with_reducible first|refine jW ?hy ?_|refine jY ?hy ?_);case hy=>rfl)|((with_reducible first|refine jX ?hy ?_|refine jZ ?hy ?_);case hy=>rfl)|((with_reducible refine jF ?hy ?_);case hy=>decide))
   obtain ⟨hne, hG'⟩ := hG.link hS1.to.ok (u := i) (v := k) (by omega) (.inr ⟨rfl, hki⟩)
   have hq := linkQ_new (by omega) (by omega) hne
   refine tq_link hS1.to fun H2 T2 hM2 hf2 hT2 => ?_
   have hS2 := hS1.op hM2 hf2 hT2
   rw [hq] at hS2 ⊢
   repeat' (first|(with_reducible first|refine jA ?_|(refine hK _ _ ?_;clear hK K)|refine jJ fun K hK=>?_|refine jK ?_|refine jL ?_|refine jM ?_|refine jN ?_|refine jO ?_|refine jP ?_|refine jQ ?_|(refine jB ?_;clear hK K)|(refine jC ?_;clear hK K)|refine jD ?_|refine jE ?_|refine jG ?_|refine jH ?_|refine jI ?_)|((with_reducible refine jR ?hq ?_);case hq=>rfl)|((first|(with_reducible first|refine jS fun K hK=>?_|refine jT ?_|refine jU ?_)|((with_reducible refine jV ?hy fun K hK=>?_);case hy=>rfl));simp only [go_sem, Nat.reduceEqDiff, Nat.reduceAdd, Nat.reduceMul, Nat.reduceLeDiff, Nat.reduceLT, Int.reduceLT, Int.reduceLE, Int.reduceEq, Int.reduceNeg, Int.reduceToNat, Nat.reducePow, reduceIte, reduceCtorEq, z0, i11, ew2])|((with_reducible first|refine jW ?hy ?_|refine jY ?hy ?_);case hy=>rfl)|((with_reducible first|refine jX ?hy ?_|refine jZ ?hy ?_);case hy=>rfl)|((with_reducible refine jF ?hy ?_);case hy=>decide))
   exact loop_normal (m' := n - (i + 1)) (by omega) ⟨i + 1, T2, _, rfl, by omega, hlt, hS2, hG', hQn, rfl⟩
 ·obtain rfl : i = n := by omega
  have t1 : (i < i) = False := by simp
  repeat' (first|(with_reducible first|refine jA ?_|(refine hK _ _ ?_;clear hK K)|refine jJ fun K hK=>?_|refine jK ?_|refine jL ?_|refine jM ?_|refine jN ?_|refine jO ?_|refine jP ?_|refine jQ ?_|(refine jB ?_;clear hK K)|(refine jC ?_;clear hK K)|refine jD ?_|refine jE ?_|refine jG ?_|refine jH ?_|refine jI ?_)|((with_reducible refine jR ?hq ?_);case hq=>rfl)|((first|(with_reducible first|refine jS fun K hK=>?_|refine jT ?_|refine jU ?_)|((with_reducible refine jV ?hy fun K hK=>?_);case hy=>rfl));simp only [go_sem, Nat.reduceEqDiff, Nat.reduceAdd, Nat.reduceMul, Nat.reduceLeDiff, Nat.reduceLT, Int.reduceLT, Int.reduceLE, Int.reduceEq, Int.reduceNeg, Int.reduceToNat, Nat.reducePow, reduceIte, reduceCtorEq, i8, i11, t1])|((with_reducible first|refine jW ?hy ?_|refine jY ?hy ?_);case hy=>rfl)|((with_reducible first|refine jX ?hy ?_|refine jZ ?hy ?_);case hy=>rfl)|((with_reducible refine jF ?hy ?_);case hy=>decide))
  exact hQ _ _ _ _ keep.1 keep.2 i8 i9 hS1 hG hQn
theorem tuB {B : Option Nat} {va : Value} {xs : List Nat} {v n : Nat} (hx : IR H B va (xs.map Int.ofNat)) (hl : xs.length = n) (hn : n ≤ 64) (hnd : xs.Nodup) (hv : v ∈ xs) (e14 : e 14 = va) (e2 : e 2 = .int .i64 (v : Nat)) (e8 : e 8 = .int .i64 (n : Nat)) (e19 : e 19 = .int .i64 (-1)) (e20 : e 20 = .int .i64 0)
  (hQ : ∀ e', e' 1 = e 1 → e' 8 = e 8 → e' 14 = e 14 → e' 17 = e 17 → e' 19 = .int .i64 (xs.idxOf v : Nat) → Z .normal e' H) :
  codeX Try.prog [33] (loopAt Try.f3.body 1) (blockQ 2 Z) e H := by
 have hk := List.idxOf_lt_length_of_mem hv
 refine x_loop (fun m e' H' => ∃ i : Nat, H' = H ∧ e' 20 = .int .i64 (i : Nat) ∧ i ≤ n ∧ e' 19 = .int .i64 (if xs.idxOf v < i then (xs.idxOf v : Int) else -1) ∧ m = n - i) n ⟨0, rfl, e20, Nat.zero_le _, by rw [e19]; simp, rfl⟩ ?_
 rintro m e1 H1 ⟨i, rfl, i20, hi, i19, rfl⟩ hoff
 have i14 := (hoff 14 rfl).trans e14
 have i2 := (hoff 2 rfl).trans e2
 have i8 := (hoff 8 rfl).trans e8
 have keep : e1 1 = e 1 ∧ e1 8 = e 8 ∧ e1 14 = e 14 ∧ e1 17 = e 17 := ⟨hoff 1 rfl, hoff 8 rfl, hoff 14 rfl, hoff 17 rfl⟩
 by_cases hlt : i < n
 ·obtain ⟨y, hy⟩ : ∃ y, xs[i]? = some y := ⟨_, List.getElem?_eq_getElem (by omega)⟩
  have hy' : (xs.map Int.ofNat)[i]? = some (y : Int) := by rw [List.getElem?_map, hy]; rfl
  obtain ⟨g, c, rfl, rfl, cy⟩ := hx.read hy'
  have hlx : i < (xs.map Int.ofNat).length := by simp; omega
  have hlx' : i < xs.length := by omega
  have ew2 : IntKind.i64.wrap ((i : Int) + 1) = ((i + 1 : Nat) : Int) := by rw [wrap_i64] <;> omega
  clear hoff
  have hlen : (xs.map Int.ofNat).length = xs.length := by simp
  rw [hlen] at i14
  by_cases hyv : y = v
  ·have t1 : ((y : Int) == (v : Int)) = true := by simp [hyv]
   have hidx : xs.idxOf v = i := by
    have e1 := List.getElem_idxOf hk
    have e2 : xs[i] = v := by rw [← hyv]; exact (List.getElem?_eq_some_iff.1 hy).2
    exact (List.getElem_inj hnd).1 (e1.trans e2.symm)
   repeat' (first|(with_reducible first|refine jA ?_|(refine hK _ _ ?_;clear hK K)|refine jJ fun K hK=>?_|refine jK ?_|refine jL ?_|refine jM ?_|refine jN ?_|refine jO ?_|refine jP ?_|refine jQ ?_|(refine jB ?_;clear hK K)|(refine jC ?_;clear hK K)|refine jD ?_|refine jE ?_|refine jG ?_|refine jH ?_|refine jI ?_)|((with_reducible refine jR ?hq ?_);case hq=>rfl)|((first|(with_reducible first|refine jS fun K hK=>?_|refine jT ?_|refine jU ?_)|((with_reducible refine jV ?hy fun K hK=>?_);case hy=>rfl));simp only [go_sem, Nat.reduceEqDiff, Nat.reduceAdd, Nat.reduceMul, Nat.reduceLeDiff, Nat.reduceLT, Int.reduceLT, Int.reduceLE, Int.reduceEq, Int.reduceNeg, Int.reduceToNat, Nat.reducePow, reduceIte, reduceCtorEq, i14, i2, i8, i20, hlt, hlx', cy, t1, ew2])|((with_reducible first|refine jW ?hy ?_|refine jY ?hy ?_);case hy=>rfl)|((with_reducible first|refine jX ?hy ?_|refine jZ ?hy ?_);case hy=>rfl)|((with_reducible refine jF ?hy ?_);case hy=>decide))
   exact loop_normal (m' := n - (i + 1)) (by omega) ⟨i + 1, rfl, rfl, hlt, by rw [if_pos (by omega), hidx]; rfl, rfl⟩
  ·have t1 : ((y : Int) == (v : Int)) = false := by simp; omega
   have hidx : xs.idxOf v ≠ i := fun e => by
    have e1 := List.getElem_idxOf hk
    have e2 : xs[xs.idxOf v]? = some y := by rw [e]; exact hy
    rw [List.getElem?_eq_getElem hk, e1] at e2
    exact hyv (Option.some.inj e2).symm
   repeat' (first|(with_reducible first|refine jA ?_|(refine hK _ _ ?_;clear hK K)|refine jJ fun K hK=>?_|refine jK ?_|refine jL ?_|refine jM ?_|refine jN ?_|refine jO ?_|refine jP ?_|refine jQ ?_|(refine jB ?_;clear hK K)|(refine jC ?_;clear hK K)|refine jD ?_|refine jE ?_|refine jG ?_|refine jH ?_|refine jI ?_)|((with_reducible refine jR ?hq ?_);case hq=>rfl)|((first|(with_reducible first|refine jS fun K hK=>?_|refine jT ?_|refine jU ?_)|((with_reducible refine jV ?hy fun K hK=>?_);case hy=>rfl));simp only [go_sem, Nat.reduceEqDiff, Nat.reduceAdd, Nat.reduceMul, Nat.reduceLeDiff, Nat.reduceLT, Int.reduceLT, Int.reduceLE, Int.reduceEq, Int.reduceNeg, Int.reduceToNat, Nat.reducePow, reduceIte, reduceCtorEq, i14, i2, i8, i20, hlt, hlx', cy, t1, ew2])|((with_reducible first|refine jW ?hy ?_|refine jY ?hy ?_);case hy=>rfl)|((with_reducible first|refine jX ?hy ?_|refine jZ ?hy ?_);case hy=>rfl)|((with_reducible refine jF ?hy ?_);case hy=>decide))
   refine loop_normal (m' := n - (i + 1)) (by omega) ⟨i + 1, rfl, rfl, hlt, i19.trans ?_, rfl⟩
   by_cases h : xs.idxOf v < i
   ·rw [if_pos h, if_pos (by omega)]
   ·rw [if_neg h, if_neg (by omega)]
 ·obtain rfl : i = n := by omega
  have t1 : (i < i) = False := by simp
  repeat' (first|(with_reducible first|refine jA ?_|(refine hK _ _ ?_;clear hK K)|refine jJ fun K hK=>?_|refine jK ?_|refine jL ?_|refine jM ?_|refine jN ?_|refine jO ?_|refine jP ?_|refine jQ ?_|(refine jB ?_;clear hK K)|(refine jC ?_;clear hK K)|refine jD ?_|refine jE ?_|refine jG ?_|refine jH ?_|refine jI ?_)|((with_reducible refine jR ?hq ?_);case hq=>rfl)|((first|(with_reducible first|refine jS fun K hK=>?_|refine jT ?_|refine jU ?_)|((with_reducible refine jV ?hy fun K hK=>?_);case hy=>rfl));simp only [go_sem, Nat.reduceEqDiff, Nat.reduceAdd, Nat.reduceMul, Nat.reduceLeDiff, Nat.reduceLT, Int.reduceLT, Int.reduceLE, Int.reduceEq, Int.reduceNeg, Int.reduceToNat, Nat.reducePow, reduceIte, reduceCtorEq, i8, i20, t1])|((with_reducible first|refine jW ?hy ?_|refine jY ?hy ?_);case hy=>rfl)|((with_reducible first|refine jX ?hy ?_|refine jZ ?hy ?_);case hy=>rfl)|((with_reducible refine jF ?hy ?_);case hy=>decide))
  exact hQ _ keep.1 keep.2.1 keep.2.2.1 keep.2.2.2 (i19.trans (by rw [if_pos (by omega)]))
theorem tuC {B C : Option Nat} {va vb : Value} {xs : List Nat} {k n : Nat} (hx : IR H B va (xs.map Int.ofNat)) (hy : IR H C vb ((xs.drop k ++ xs.take k).map Int.ofNat)) (hl : xs.length = n) (hn : n ≤ 64) (hk : k < n) (e14 : e 14 = va) (e17 : e 17 = vb) (e8 : e 8 = .int .i64 (n : Nat)) (e19 : e 19 = .int .i64 (k : Nat)) (e21 : e 21 = .int .i64 0)
  (hQ : ∀ e', e' 1 = e 1 → e' 14 = e 14 → Z .normal e' H) :
  codeX Try.prog [33] (loopAt Try.f3.body 2) (blockQ 4 Z) e H := by
 refine x_loop (fun m e' H' => ∃ i : Nat, H' = H ∧ e' 21 = .int .i64 (i : Nat) ∧ i ≤ n ∧ m = n - i) n ⟨0, rfl, e21, Nat.zero_le _, rfl⟩ ?_
 rintro m e1 H1 ⟨i, rfl, i21, hi, rfl⟩ hoff
 have i14 := (hoff 14 rfl).trans e14
 have i17 := (hoff 17 rfl).trans e17
 have i8 := (hoff 8 rfl).trans e8
 have i19 := (hoff 19 rfl).trans e19
 have keep : e1 1 = e 1 ∧ e1 14 = e 14 := ⟨hoff 1 rfl, hoff 14 rfl⟩
 clear hoff
 by_cases hlt : i < n
 ·have hj : (k + i) % n < n := Nat.mod_lt _ (by omega)
  obtain ⟨y, hyg⟩ : ∃ y, xs[(k + i) % n]? = some y := ⟨_, List.getElem?_eq_getElem (by omega)⟩
  have hrot := rot_get xs k i (by omega) (by omega)
  rw [hl, hyg] at hrot
  have h1 : (xs.map Int.ofNat)[(k + i) % n]? = some (y : Int) := by rw [List.getElem?_map, hyg]; rfl
  have h2 : ((xs.drop k ++ xs.take k).map Int.ofNat)[i]? = some (y : Int) := by rw [List.getElem?_map, hrot]; rfl
  obtain ⟨g, c, rfl, rfl, cx⟩ := hx.read h1
  obtain ⟨g', c', rfl, rfl, cy⟩ := hy.read h2
  have l1 : (xs.map Int.ofNat).length = n := by simp [hl]
  have l2 : ((xs.drop k ++ xs.take k).map Int.ofNat).length = n := by simp; omega
  rw [l1] at i14
  rw [l2] at i17
  have t0 : ((k : Int) < 0) = False := by simp
  have ew : IntKind.i64.wrap ((k : Int) + (i : Int)) = ((k + i : Nat) : Int) := by rw [wrap_i64] <;> omega
  have em : ((k + i : Nat) : Int).tmod (n : Int) = (((k + i) % n : Nat) : Int) := by rw [Int.tmod_eq_emod_of_nonneg (by omega)]; rfl
  have ez : ((n : Int) = 0) = False := by simp; omega
  have ez' : (n = 0) = False := by simp; omega
  have t1 : ((y : Int) != (y : Int)) = false := by simp
  have ew2 : IntKind.i64.wrap ((i : Int) + 1) = ((i + 1 : Nat) : Int) := by rw [wrap_i64] <;> omega
  repeat' (first|(with_reducible first|refine jA ?_|(refine hK _ _ ?_;clear hK K)|refine jJ fun K hK=>?_|refine jK ?_|refine jL ?_|refine jM ?_|refine jN ?_|refine jO ?_|refine jP ?_|refine jQ ?_|(refine jB ?_;clear hK K)|(refine jC ?_;clear hK K)|refine jD ?_|refine jE ?_|refine jG ?_|refine jH ?_|refine jI ?_)|((with_reducible refine jR ?hq ?_);case hq=>rfl)|((first|(with_reducible first|refine jS fun K hK=>?_|refine jT ?_|refine jU ?_)|((with_reducible refine jV ?hy fun K hK=>?_);case hy=>rfl));simp only [go_sem, Nat.reduceEqDiff, Nat.reduceAdd, Nat.reduceMul, Nat.reduceLeDiff, Nat.reduceLT, Int.reduceLT, Int.reduceLE, Int.reduceEq, Int.reduceNeg, Int.reduceToNat, Nat.reducePow, reduceIte, reduceCtorEq, i14, i17, i8, i19, i21, hlt, t0, ew, em, ez, ez', hj, cx, cy, t1, ew2])|((with_reducible first|refine jW ?hy ?_|refine jY ?hy ?_);case hy=>rfl)|((with_reducible first|refine jX ?hy ?_|refine jZ ?hy ?_);case hy=>rfl)|((with_reducible refine jF ?hy ?_);case hy=>decide))
  exact loop_normal (m' := n - (i + 1)) (by omega) ⟨i + 1, rfl, rfl, hlt, rfl⟩
 ·obtain rfl : i = n := by omega
  have t1 : (i < i) = False := by simp
  repeat' (first|(with_reducible first|refine jA ?_|(refine hK _ _ ?_;clear hK K)|refine jJ fun K hK=>?_|refine jK ?_|refine jL ?_|refine jM ?_|refine jN ?_|refine jO ?_|refine jP ?_|refine jQ ?_|(refine jB ?_;clear hK K)|(refine jC ?_;clear hK K)|refine jD ?_|refine jE ?_|refine jG ?_|refine jH ?_|refine jI ?_)|((with_reducible refine jR ?hq ?_);case hq=>rfl)|((first|(with_reducible first|refine jS fun K hK=>?_|refine jT ?_|refine jU ?_)|((with_reducible refine jV ?hy fun K hK=>?_);case hy=>rfl));simp only [go_sem, Nat.reduceEqDiff, Nat.reduceAdd, Nat.reduceMul, Nat.reduceLeDiff, Nat.reduceLT, Int.reduceLT, Int.reduceLE, Int.reduceEq, Int.reduceNeg, Int.reduceToNat, Nat.reducePow, reduceIte, reduceCtorEq, i8, i21, t1])|((with_reducible first|refine jW ?hy ?_|refine jY ?hy ?_);case hy=>rfl)|((with_reducible first|refine jX ?hy ?_|refine jZ ?hy ?_);case hy=>rfl)|((with_reducible refine jF ?hy ?_);case hy=>decide))
  exact hQ _ keep.1 keep.2
end
theorem tourTurns {H : Heap} {a : Option Addr} {len cap : Nat} {zs : Nat → Int} {u v : Int} {L : Value → Heap → Prop} (hin : InInts H a len zs) (hl : len ≤ 9223372036854775807) (u0 : -9223372036854775808 ≤ u) (u1 : u ≤ 9223372036854775807) (v0 : -9223372036854775808 ≤ v) (v1 : v ≤ 9223372036854775807)
  (fin : ∀ H', Fr (fun _ => False) H H' → L (.bool true) H') : CallsH Try.prog 3 #[.slice a len cap, .int .i64 u, .int .i64 v] H L := by
 obtain ⟨n, hn⟩ : ∃ n, n = 1 + min len 63 := ⟨_, rfl⟩
 have hn64 : n ≤ 64 := by omega
 have hn1 : 1 ≤ n := by omega
 have emin : (if (63 : Int) < (len : Int) then (63 : Int) else (len : Int)) = ((min len 63 : Nat) : Int) := by
  split <;> omega
 have ew : IntKind.i64.wrap (1 + ((min len 63 : Nat) : Int)) = (n : Int) := by rw [wrap_i64] <;> omega
 have z0 : ((0 : Int) != 0) = false := rfl
 refine call3 (by simp) ?_
 simp only [Try.f3, Option.getD_some]
 repeat' (first|(with_reducible first|refine jA ?_|(refine hK _ _ ?_;clear hK K)|refine jJ fun K hK=>?_|refine jK ?_|refine jL ?_|refine jM ?_|refine jN ?_|refine jO ?_|refine jP ?_|refine jQ ?_|(refine jB ?_;clear hK K)|(refine jC ?_;clear hK K)|refine jD ?_|refine jE ?_|refine jG ?_|refine jH ?_|refine jI ?_)|((with_reducible refine jR ?hq ?_);case hq=>rfl)|((first|(with_reducible first|refine jS fun K hK=>?_|refine jT ?_|refine jU ?_)|((with_reducible refine jV ?hy fun K hK=>?_);case hy=>rfl));simp only [go_sem, Nat.reduceEqDiff, Nat.reduceAdd, Nat.reduceMul, Nat.reduceLeDiff, Nat.reduceLT, Int.reduceLT, Int.reduceLE, Int.reduceEq, Int.reduceNeg, Int.reduceToNat, Nat.reducePow, reduceIte, reduceCtorEq])|((with_reducible first|refine jW ?hy ?_|refine jY ?hy ?_);case hy=>rfl)|((with_reducible first|refine jX ?hy ?_|refine jZ ?hy ?_);case hy=>rfl)|((with_reducible refine jF ?hy ?_);case hy=>decide))
 refine awake_ok fun H1 hf1 => ?_
 repeat' (first|(with_reducible first|refine jA ?_|(refine hK _ _ ?_;clear hK K)|refine jJ fun K hK=>?_|refine jK ?_|refine jL ?_|refine jM ?_|refine jN ?_|refine jO ?_|refine jP ?_|refine jQ ?_|(refine jB ?_;clear hK K)|(refine jC ?_;clear hK K)|refine jD ?_|refine jE ?_|refine jG ?_|refine jH ?_|refine jI ?_)|((with_reducible refine jR ?hq ?_);case hq=>rfl)|((first|(with_reducible first|refine jS fun K hK=>?_|refine jT ?_|refine jU ?_)|((with_reducible refine jV ?hy fun K hK=>?_);case hy=>rfl));simp only [go_sem, Nat.reduceEqDiff, Nat.reduceAdd, Nat.reduceMul, Nat.reduceLeDiff, Nat.reduceLT, Int.reduceLT, Int.reduceLE, Int.reduceEq, Int.reduceNeg, Int.reduceToNat, Nat.reducePow, reduceIte, reduceCtorEq, emin, ew])|((with_reducible first|refine jW ?hy ?_|refine jY ?hy ?_);case hy=>rfl)|((with_reducible first|refine jX ?hy ?_|refine jZ ?hy ?_);case hy=>rfl)|((with_reducible refine jF ?hy ?_);case hy=>decide))
 refine tnew_ok hn1 hn64 fun H2 t T2 hM2 hf2 hT2 => ?_
 have hS2 := (TS.start hM2 hf2 hT2).base hf1
 repeat' (first|(with_reducible first|refine jA ?_|(refine hK _ _ ?_;clear hK K)|refine jJ fun K hK=>?_|refine jK ?_|refine jL ?_|refine jM ?_|refine jN ?_|refine jO ?_|refine jP ?_|refine jQ ?_|(refine jB ?_;clear hK K)|(refine jC ?_;clear hK K)|refine jD ?_|refine jE ?_|refine jG ?_|refine jH ?_|refine jI ?_)|((with_reducible refine jR ?hq ?_);case hq=>rfl)|((first|(with_reducible first|refine jS fun K hK=>?_|refine jT ?_|refine jU ?_)|((with_reducible refine jV ?hy fun K hK=>?_);case hy=>rfl));simp only [go_sem, Nat.reduceEqDiff, Nat.reduceAdd, Nat.reduceMul, Nat.reduceLeDiff, Nat.reduceLT, Int.reduceLT, Int.reduceLE, Int.reduceEq, Int.reduceNeg, Int.reduceToNat, Nat.reducePow, reduceIte, reduceCtorEq, z0])|((with_reducible first|refine jW ?hy ?_|refine jY ?hy ?_);case hy=>rfl)|((with_reducible first|refine jX ?hy ?_|refine jZ ?hy ?_);case hy=>rfl)|((with_reducible refine jF ?hy ?_);case hy=>decide))
 refine tuA (hin) hn hS2 rfl rfl rfl rfl ?_
 intro e' H3 T3 Q3 i1 i2 i8 i9 hS3 hG hQn
 have i1 : e' 1 = .int .i64 u := i1.trans rfl
 have i2 : e' 2 = .int .i64 v := i2.trans rfl
 repeat' (first|(with_reducible first|refine jA ?_|(refine hK _ _ ?_;clear hK K)|refine jJ fun K hK=>?_|refine jK ?_|refine jL ?_|refine jM ?_|refine jN ?_|refine jO ?_|refine jP ?_|refine jQ ?_|(refine jB ?_;clear hK K)|(refine jC ?_;clear hK K)|refine jD ?_|refine jE ?_|refine jG ?_|refine jH ?_|refine jI ?_)|((with_reducible refine jR ?hq ?_);case hq=>rfl)|((first|(with_reducible first|refine jS fun K hK=>?_|refine jT ?_|refine jU ?_)|((with_reducible refine jV ?hy fun K hK=>?_);case hy=>rfl));simp only [go_sem, Nat.reduceEqDiff, Nat.reduceAdd, Nat.reduceMul, Nat.reduceLeDiff, Nat.reduceLT, Int.reduceLT, Int.reduceLE, Int.reduceEq, Int.reduceNeg, Int.reduceToNat, Nat.reducePow, reduceIte, reduceCtorEq, i1, i2, i8])|((with_reducible first|refine jW ?hy ?_|refine jY ?hy ?_);case hy=>rfl)|((with_reducible first|refine jX ?hy ?_|refine jZ ?hy ?_);case hy=>rfl)|((with_reducible refine jF ?hy ?_);case hy=>decide))
 refine Pkisthmuslaw04.pick_ok u0 u1 (by omega) ?_
 obtain ⟨a0, a1⟩ := pickN_range u (n := (n : Int)) (by omega)
 obtain ⟨p, ep⟩ := Int.eq_ofNat_of_zero_le a0
 rw [ep] at a1 ⊢
 have hp : p < Q3.n := by omega
 repeat' (first|(with_reducible first|refine jA ?_|(refine hK _ _ ?_;clear hK K)|refine jJ fun K hK=>?_|refine jK ?_|refine jL ?_|refine jM ?_|refine jN ?_|refine jO ?_|refine jP ?_|refine jQ ?_|(refine jB ?_;clear hK K)|(refine jC ?_;clear hK K)|refine jD ?_|refine jE ?_|refine jG ?_|refine jH ?_|refine jI ?_)|((with_reducible refine jR ?hq ?_);case hq=>rfl)|((first|(with_reducible first|refine jS fun K hK=>?_|refine jT ?_|refine jU ?_)|((with_reducible refine jV ?hy fun K hK=>?_);case hy=>rfl));simp only [go_sem, Nat.reduceEqDiff, Nat.reduceAdd, Nat.reduceMul, Nat.reduceLeDiff, Nat.reduceLT, Int.reduceLT, Int.reduceLE, Int.reduceEq, Int.reduceNeg, Int.reduceToNat, Nat.reducePow, reduceIte, reduceCtorEq, i2, i8])|((with_reducible first|refine jW ?hy ?_|refine jY ?hy ?_);case hy=>rfl)|((with_reducible first|refine jX ?hy ?_|refine jZ ?hy ?_);case hy=>rfl)|((with_reducible refine jF ?hy ?_);case hy=>decide))
 refine Pkisthmuslaw04.pick_ok v0 v1 (by omega) ?_
 obtain ⟨b0, b1⟩ := pickN_range v (n := (n : Int)) (by omega)
 obtain ⟨q, eq⟩ := Int.eq_ofNat_of_zero_le b0
 rw [eq] at b1 ⊢
 have hq : q < Q3.n := by omega
 have hG' : Grown Q3 Q3.n := by rw [hQn]; exact hG
 have hok3 := hS3.to.ok
 obtain ⟨A, eA⟩ : ∃ A, A = Q3.row p := ⟨_, rfl⟩
 have hrow : ∀ w, w < Q3.n → Q3.row w = A := fun w hw => by rw [eA]; exact hG'.whole hok3 hw hp
 have hAn : A.Nodup := by rw [eA]; exact hok3.nd p hp
 have hAm : ∀ x, (x, x) ∈ A ↔ x < Q3.n := fun x => by rw [eA]; exact hG'.one p hp x
 repeat' (first|(with_reducible first|refine jA ?_|(refine hK _ _ ?_;clear hK K)|refine jJ fun K hK=>?_|refine jK ?_|refine jL ?_|refine jM ?_|refine jN ?_|refine jO ?_|refine jP ?_|refine jQ ?_|(refine jB ?_;clear hK K)|(refine jC ?_;clear hK K)|refine jD ?_|refine jE ?_|refine jG ?_|refine jH ?_|refine jI ?_)|((with_reducible refine jR ?hq ?_);case hq=>rfl)|((first|(with_reducible first|refine jS fun K hK=>?_|refine jT ?_|refine jU ?_)|((with_reducible refine jV ?hy fun K hK=>?_);case hy=>rfl));simp only [go_sem, Nat.reduceEqDiff, Nat.reduceAdd, Nat.reduceMul, Nat.reduceLeDiff, Nat.reduceLT, Int.reduceLT, Int.reduceLE, Int.reduceEq, Int.reduceNeg, Int.reduceToNat, Nat.reducePow, reduceIte, reduceCtorEq, i9])|((with_reducible first|refine jW ?hy ?_|refine jY ?hy ?_);case hy=>rfl)|((with_reducible first|refine jX ?hy ?_|refine jZ ?hy ?_);case hy=>rfl)|((with_reducible refine jF ?hy ?_);case hy=>decide))
 have r1 : Q3.rerootQ (p : Int) = (0, Q3.lay (turnedL A p)) := by
  unfold Tq.rerootQ
  rw [inB_of hp, if_pos rfl, Int.toNat_natCast, eA]
 refine tq_reroot hS3.to fun H4 T4 hM4 hf4 hT4 => ?_
 have hS4 := hS3.op hM4 hf4 hT4
 rw [r1] at hS4 ⊢
 have hrow4 : ∀ w, w < Q3.n → (Q3.lay (turnedL A p)).row w = turnedL A p := fun w hw => if_pos (mem_turnedL.2 ((hAm w).2 hw))
 have hA4 : (turnedL A p).Nodup := (turned_perm A p).nodup_iff.2 hAn
 have w1 : (Q3.lay (turnedL A p)).walkQ 0 = ((wl (turnedL A p)).map Int.ofNat, 0) := by
  unfold Tq.walkQ
  rw [show inB (Q3.lay (turnedL A p)).n (0 : Int) = true from inB_of (v := 0) (by show 0 < Q3.n; omega), if_pos rfl]
  show ((Q3.lay (turnedL A p)).walkL 0, (0 : Int)) = _
  rw [walkL_eq, hrow4 0 (by omega)]
 repeat' (first|(with_reducible first|refine jA ?_|(refine hK _ _ ?_;clear hK K)|refine jJ fun K hK=>?_|refine jK ?_|refine jL ?_|refine jM ?_|refine jN ?_|refine jO ?_|refine jP ?_|refine jQ ?_|(refine jB ?_;clear hK K)|(refine jC ?_;clear hK K)|refine jD ?_|refine jE ?_|refine jG ?_|refine jH ?_|refine jI ?_)|((with_reducible refine jR ?hq ?_);case hq=>rfl)|((first|(with_reducible first|refine jS fun K hK=>?_|refine jT ?_|refine jU ?_)|((with_reducible refine jV ?hy fun K hK=>?_);case hy=>rfl));simp only [go_sem, Nat.reduceEqDiff, Nat.reduceAdd, Nat.reduceMul, Nat.reduceLeDiff, Nat.reduceLT, Int.reduceLT, Int.reduceLE, Int.reduceEq, Int.reduceNeg, Int.reduceToNat, Nat.reducePow, reduceIte, reduceCtorEq, i9])|((with_reducible first|refine jW ?hy ?_|refine jY ?hy ?_);case hy=>rfl)|((with_reducible first|refine jX ?hy ?_|refine jZ ?hy ?_);case hy=>rfl)|((with_reducible refine jF ?hy ?_);case hy=>decide))
 refine tq_walk hS4.to fun H5 T5 B5 v5 hM5 hi5 hB5 hf5 hT5 => ?_
 rw [w1] at hi5 ⊢
 have hS5 := hS4.op hM5 hf5 hT5
 have r2 : (Q3.lay (turnedL A p)).rerootQ (q : Int) = (0, (Q3.lay (turnedL A p)).lay (turnedL (turnedL A p) q)) := by
  unfold Tq.rerootQ
  rw [show inB (Q3.lay (turnedL A p)).n (q : Int) = true from inB_of hq, if_pos rfl, Int.toNat_natCast, hrow4 q hq]
 repeat' (first|(with_reducible first|refine jA ?_|(refine hK _ _ ?_;clear hK K)|refine jJ fun K hK=>?_|refine jK ?_|refine jL ?_|refine jM ?_|refine jN ?_|refine jO ?_|refine jP ?_|refine jQ ?_|(refine jB ?_;clear hK K)|(refine jC ?_;clear hK K)|refine jD ?_|refine jE ?_|refine jG ?_|refine jH ?_|refine jI ?_)|((with_reducible refine jR ?hq ?_);case hq=>rfl)|((first|(with_reducible first|refine jS fun K hK=>?_|refine jT ?_|refine jU ?_)|((with_reducible refine jV ?hy fun K hK=>?_);case hy=>rfl));simp only [go_sem, Nat.reduceEqDiff, Nat.reduceAdd, Nat.reduceMul, Nat.reduceLeDiff, Nat.reduceLT, Int.reduceLT, Int.reduceLE, Int.reduceEq, Int.reduceNeg, Int.reduceToNat, Nat.reducePow, reduceIte, reduceCtorEq, i9])|((with_reducible first|refine jW ?hy ?_|refine jY ?hy ?_);case hy=>rfl)|((with_reducible first|refine jX ?hy ?_|refine jZ ?hy ?_);case hy=>rfl)|((with_reducible refine jF ?hy ?_);case hy=>decide))
 refine tq_reroot hS5.to fun H6 T6 hM6 hf6 hT6 => ?_
 have hS6 := hS5.op hM6 hf6 hT6
 rw [r2] at hS6 ⊢
 have hi6 := hi5.frame hf6 fun g hg => (hB5 g hg).2
 have hB6 : ∀ b, B5 = some b → ¬ T6 b ∧ b < H6.size := fun b hb => by
  refine ⟨fun hx => ?_, hi6.lt hb⟩
  rcases hT6 b hx with h | h
  ·exact (hB5 b hb).2 h
  ·have := hi5.lt hb; omega
 obtain ⟨a', ha'⟩ : ∃ a', a' = wl (turnedL A p) := ⟨_, rfl⟩
 have hal : a'.length = n := by rw [ha', ← hQn]; exact hG'.wl_len hok3 hp ((turned_perm A p).trans (by rw [eA]))
 have han : a'.Nodup := by rw [ha']; exact wl_nodup hA4
 have hqa : q ∈ a' := by rw [ha', mem_wl]; exact mem_turnedL.2 ((hAm q).2 hq)
 have w2 : ((Q3.lay (turnedL A p)).lay (turnedL (turnedL A p) q)).walkQ ((n - 1 : Nat) : Int) = ((a'.drop (a'.idxOf q) ++ a'.take (a'.idxOf q)).map Int.ofNat, 0) := by
  unfold Tq.walkQ
  have hn1' : n - 1 < Q3.n := by omega
  rw [show inB ((Q3.lay (turnedL A p)).lay (turnedL (turnedL A p) q)).n ((n - 1 : Nat) : Int) = true from inB_of hn1', if_pos rfl, Int.toNat_natCast, walkL_eq]
  show ((wl (if (n - 1, n - 1) ∈ turnedL (turnedL A p) q then turnedL (turnedL A p) q else _)).map Int.ofNat, (0 : Int)) = _
  rw [if_pos (mem_turnedL.2 (mem_turnedL.2 ((hAm _).2 hn1'))), wl_turned hA4 (mem_turnedL.2 ((hAm q).2 hq)), ← ha']
 have ew3 : IntKind.i64.wrap ((n : Int) - 1) = ((n - 1 : Nat) : Int) := by rw [wrap_i64] <;> omega
 repeat' (first|(with_reducible first|refine jA ?_|(refine hK _ _ ?_;clear hK K)|refine jJ fun K hK=>?_|refine jK ?_|refine jL ?_|refine jM ?_|refine jN ?_|refine jO ?_|refine jP ?_|refine jQ ?_|(refine jB ?_;clear hK K)|(refine jC ?_;clear hK K)|refine jD ?_|refine jE ?_|refine jG ?_|refine jH ?_|refine jI ?_)|((with_reducible refine jR ?hq ?_);case hq=>rfl)|((first|(with_reducible first|refine jS fun K hK=>?_|refine jT ?_|refine jU ?_)|((with_reducible refine jV ?hy fun K hK=>?_);case hy=>rfl));simp only [go_sem, Nat.reduceEqDiff, Nat.reduceAdd, Nat.reduceMul, Nat.reduceLeDiff, Nat.reduceLT, Int.reduceLT, Int.reduceLE, Int.reduceEq, Int.reduceNeg, Int.reduceToNat, Nat.reducePow, reduceIte, reduceCtorEq, i9, i8, ew3])|((with_reducible first|refine jW ?hy ?_|refine jY ?hy ?_);case hy=>rfl)|((with_reducible first|refine jX ?hy ?_|refine jZ ?hy ?_);case hy=>rfl)|((with_reducible refine jF ?hy ?_);case hy=>decide))
 refine tq_walk hS6.to fun H7 T7 B7 v7 hM7 hi7 hB7 hf7 hT7 => ?_
 rw [w2] at hi7 ⊢
 have hS7 := hS6.op hM7 hf7 hT7
 have hi57 := hi6.frame hf7 fun g hg => (hB6 g hg).1
 rw [← ha'] at hi57
 have l1 : (a'.map Int.ofNat).length = n := by simp [hal]
 have l2 : ((a'.drop (a'.idxOf q) ++ a'.take (a'.idxOf q)).map Int.ofNat).length = n := by
  have := List.idxOf_lt_length_of_mem hqa
  simp; omega
 obtain ⟨sa, sc, rfl⟩ : ∃ sa sc, v5 = .slice sa n sc := by
  obtain ⟨sa, sc, h⟩ := hi57.slice
  exact ⟨sa, sc, by rw [h, l1]⟩
 obtain ⟨sb, sd, rfl⟩ : ∃ sb sd, v7 = .slice sb n sd := by
  obtain ⟨sb, sd, h⟩ := hi7.slice
  exact ⟨sb, sd, by rw [h, l2]⟩
 have tn : ((n : Int) != (n : Int)) = false := by simp
 have hkn : a'.idxOf q < n := by rw [← hal]; exact List.idxOf_lt_length_of_mem hqa
 repeat' (first|(with_reducible first|refine jA ?_|(refine hK _ _ ?_;clear hK K)|refine jJ fun K hK=>?_|refine jK ?_|refine jL ?_|refine jM ?_|refine jN ?_|refine jO ?_|refine jP ?_|refine jQ ?_|(refine jB ?_;clear hK K)|(refine jC ?_;clear hK K)|refine jD ?_|refine jE ?_|refine jG ?_|refine jH ?_|refine jI ?_)|((with_reducible refine jR ?hq ?_);case hq=>rfl)|((first|(with_reducible first|refine jS fun K hK=>?_|refine jT ?_|refine jU ?_)|((with_reducible refine jV ?hy fun K hK=>?_);case hy=>rfl));simp only [go_sem, Nat.reduceEqDiff, Nat.reduceAdd, Nat.reduceMul, Nat.reduceLeDiff, Nat.reduceLT, Int.reduceLT, Int.reduceLE, Int.reduceEq, Int.reduceNeg, Int.reduceToNat, Nat.reducePow, reduceIte, reduceCtorEq, z0, tn, i8, i2])|((with_reducible first|refine jW ?hy ?_|refine jY ?hy ?_);case hy=>rfl)|((with_reducible first|refine jX ?hy ?_|refine jZ ?hy ?_);case hy=>rfl)|((with_reducible refine jF ?hy ?_);case hy=>decide))
 refine tuB hi57 hal hn64 han hqa rfl rfl i8 rfl rfl fun e2 j1 j8 j14 j17 j19 => ?_
 have j14 : e2 14 = .slice sa n sc := j14.trans rfl
 have j17 : e2 17 = .slice sb n sd := j17.trans rfl
 have j8 : e2 8 = .int .i64 (n : Nat) := j8.trans i8
 have j1 : e2 1 = .int .i64 (p : Nat) := j1.trans rfl
 repeat' (first|(with_reducible first|refine jA ?_|(refine hK _ _ ?_;clear hK K)|refine jJ fun K hK=>?_|refine jK ?_|refine jL ?_|refine jM ?_|refine jN ?_|refine jO ?_|refine jP ?_|refine jQ ?_|(refine jB ?_;clear hK K)|(refine jC ?_;clear hK K)|refine jD ?_|refine jE ?_|refine jG ?_|refine jH ?_|refine jI ?_)|((with_reducible refine jR ?hq ?_);case hq=>rfl)|((first|(with_reducible first|refine jS fun K hK=>?_|refine jT ?_|refine jU ?_)|((with_reducible refine jV ?hy fun K hK=>?_);case hy=>rfl));simp only [go_sem, Nat.reduceEqDiff, Nat.reduceAdd, Nat.reduceMul, Nat.reduceLeDiff, Nat.reduceLT, Int.reduceLT, Int.reduceLE, Int.reduceEq, Int.reduceNeg, Int.reduceToNat, Nat.reducePow, reduceIte, reduceCtorEq])|((with_reducible first|refine jW ?hy ?_|refine jY ?hy ?_);case hy=>rfl)|((with_reducible first|refine jX ?hy ?_|refine jZ ?hy ?_);case hy=>rfl)|((with_reducible refine jF ?hy ?_);case hy=>decide))
 refine tuC hi57 hi7 hal hn64 hkn j14 j17 j8 j19 rfl fun e3 k1 k14 => ?_
 have k14 : e3 14 = .slice sa n sc := k14.trans j14
 have k1 : e3 1 = .int .i64 (p : Nat) := k1.trans j1
 have hp0 : a'[0]? = some p := by
  rw [ha', turnedL_eq hAn (split_idx ((hAm p).2 hp)).1, List.cons_append, wl_stop]
  rfl
 obtain ⟨g, c, rfl, hv, cx⟩ := hi57.read (i := 0) (x := (p : Int)) (by rw [List.getElem?_map, hp0]; rfl)
 simp only [Value.slice.injEq] at hv
 obtain ⟨rfl, _, rfl⟩ := hv
 have t0 : ((0 : Int) < (n : Int)) = True := by simp; omega
 have t0' : (0 < n) = True := by simp; omega
 have tp : ((p : Int) == (p : Int)) = true := by simp
 repeat' (first|(with_reducible first|refine jA ?_|(refine hK _ _ ?_;clear hK K)|refine jJ fun K hK=>?_|refine jK ?_|refine jL ?_|refine jM ?_|refine jN ?_|refine jO ?_|refine jP ?_|refine jQ ?_|(refine jB ?_;clear hK K)|(refine jC ?_;clear hK K)|refine jD ?_|refine jE ?_|refine jG ?_|refine jH ?_|refine jI ?_)|((with_reducible refine jR ?hq ?_);case hq=>rfl)|((first|(with_reducible first|refine jS fun K hK=>?_|refine jT ?_|refine jU ?_)|((with_reducible refine jV ?hy fun K hK=>?_);case hy=>rfl));simp only [go_sem, Nat.reduceEqDiff, Nat.reduceAdd, Nat.reduceMul, Nat.reduceLeDiff, Nat.reduceLT, Int.reduceLT, Int.reduceLE, Int.reduceEq, Int.reduceNeg, Int.reduceToNat, Nat.reducePow, reduceIte, reduceCtorEq, k14, k1, t0, t0', cx, tp])|((with_reducible first|refine jW ?hy ?_|refine jY ?hy ?_);case hy=>rfl)|((with_reducible first|refine jX ?hy ?_|refine jZ ?hy ?_);case hy=>rfl)|((with_reducible refine jF ?hy ?_);case hy=>decide))
 exact fin _ hS7.fr
end Go.Proofs.Ytnlafhnbakipmaa
namespace Go.To
open Go Go.Hp Go.Sp Go.Proofs.Ytnlafhnbakipmaa
theorem turned_idem {l : List St} {v : Nat} (hn : l.Nodup) (hv : (v, v) ∈ l) : turnedL (turnedL l v) v = turnedL l v := by
 have h1 := turnedL_eq hn (split_idx hv).1
 have hn2 : (turnedL l v).Nodup := (turned_perm l v).nodup_iff.2 hn
 rw [turnedL_eq (a := []) hn2 h1, List.append_nil, h1]
 rfl
theorem split_one {α : Type} : ∀ {a b c d : List α} {x : α}, x ∉ a → x ∉ c → a ++ x :: b = c ++ x :: d → a = c ∧ b = d
 | [], b, [], d, x, _, _, e => ⟨rfl, (List.cons.inj e).2⟩
 | [], b, y :: c, d, x, _, hc, e => absurd (by rw [(List.cons.inj e).1]; exact .head _) hc
 | y :: a, b, [], d, x, ha, _, e => absurd (by rw [← (List.cons.inj e).1]; exact .head _) ha
 | y :: a, b, z :: c, d, x, ha, hc, e => by
  obtain ⟨e1, e2⟩ := List.cons.inj e
  obtain ⟨e3, e4⟩ := split_one (fun h => ha (.tail _ h)) (fun h => hc (.tail _ h)) e2
  exact ⟨by rw [e1, e3], e4⟩
theorem cut_one {l1 m l2 k1 n k2 : List St} {x y p q : St} (hn : (k1 ++ p :: (n ++ q :: k2)).Nodup) (hxy : (x = p ∧ y = q) ∨ (x = q ∧ y = p)) (e : k1 ++ p :: (n ++ q :: k2) = l1 ++ x :: (m ++ y :: l2)) : l1 = k1 ∧ m = n ∧ l2 = k2 := by
 have hn2 := hn
 rw [e] at hn2
 rw [List.nodup_append, List.nodup_cons, List.nodup_append, List.nodup_cons] at hn hn2
 have nx : x ∉ l1 := fun h => hn2.2.2 _ h _ (.head _) rfl
 have ny : y ∉ m := fun h => hn2.2.1.2.2.2 _ h _ (.head _) rfl
 have np : p ∉ k1 := fun h => hn.2.2 _ h _ (.head _) rfl
 have nq : q ∉ n := fun h => hn.2.1.2.2.2 _ h _ (.head _) rfl
 rcases hxy with ⟨rfl, rfl⟩ | ⟨rfl, rfl⟩
 ·obtain ⟨e1, e2⟩ := split_one np nx e
  obtain ⟨e3, e4⟩ := split_one nq ny e2
  exact ⟨e1.symm, e3.symm, e4.symm⟩
 ·exfalso
  have np2 : y ∉ l1 ∧ y ≠ x := ⟨fun h => hn2.2.2 _ h _ (.tail _ (List.mem_append_right _ (.head _))) rfl, fun h => hn2.2.1.1 (by rw [← h]; exact List.mem_append_right _ (.head _))⟩
  have hnp : y ∉ l1 ++ x :: m := fun h => by
   rcases List.mem_append.1 h with h | h
   ·exact np2.1 h
   ·rcases List.mem_cons.1 h with h | h
    ·exact np2.2 h
    ·exact ny h
  have e2 : k1 ++ y :: (n ++ x :: k2) = (l1 ++ x :: m) ++ y :: l2 := by rw [e]; simp
  obtain ⟨e3, _⟩ := split_one np hnp e2
  exact hn.2.2 x (by rw [e3]; simp) x (.tail _ (List.mem_append_right _ (.head _))) rfl
theorem idx_min {v : Nat} : ∀ {xs : List Nat} {i : Nat}, xs[i]? = some v → xs.idxOf v ≤ i
 | [], i, h => by cases h
 | x :: xs, 0, h => by
  simp at h
  simp [h]
 | x :: xs, i + 1, h => by
  have := idx_min (xs := xs) (i := i) (by simpa using h)
  rw [List.idxOf_cons]
  cases x == v <;> simp <;> omega
def RestV (Q : Tq) (i : Nat) : Prop := ∀ w, i ≤ w → w < Q.n → Q.row w = [(w, w)]
theorem RestV.link {Q : Tq} {i k : Nat} (h : RestV Q i) (hok : Q.Ok) (hi : i < Q.n) (hk : k < i) : (i, i) ∉ Q.row k ∧ RestV (Q.lay (Q.linkRow k i)) (i + 1) := by
 have hkn : k < Q.n := by omega
 have hne : (i, i) ∉ Q.row k := fun hm => by
  have h1 := (hok.same k hkn i hm).2
  have h2 := hok.self k hkn
  rw [← h1, h i (Nat.le_refl _) hi] at h2
  simp only [List.mem_singleton, Prod.mk.injEq] at h2
  omega
 refine ⟨hne, fun w hw hwn => ?_⟩
 have hwn : w < Q.n := hwn
 show (if (w, w) ∈ Q.linkRow k i then Q.linkRow k i else Q.row w) = _
 rw [if_neg]
 ·exact h w (by omega) hwn
 ·rw [Tq.mem_linkRow (hok.self k hkn), h i (Nat.le_refl _) hi]
  simp only [List.mem_singleton, Prod.mk.injEq]
  rintro (g | g | g | g)
  ·have h1 := (hok.same k hkn w g).2
   have h2 := hok.self k hkn
   rw [← h1, h w (by omega) hwn] at h2
   simp only [List.mem_singleton, Prod.mk.injEq] at h2
   omega
  ·omega
  ·omega
  ·omega
end Go.To
namespace Go.Proofs.Ytnlafhnbakipmaa
open Go Go.Hp Go.Sp Go.To
set_option linter.all false
set_option maxRecDepth 100000
set_option maxHeartbeats 1600000
def KR (H : Heap) (T : Nat → Prop) (B : Option Nat) (v : Value) (xs : List Int) : Prop := IR H B v xs ∧ ∀ b, B = some b → b < H.size ∧ ¬ T b
section
variable {H0 H H' : Heap} {e : Env} {Z : HX → Env → Heap → Prop} {t : Nat} {T T' : Nat → Prop} {Q : Tq} {B : Option Nat} {v : Value} {xs : List Int}
theorem KR.op (h : KR H T B v xs) (hf : Fr T H H') (hT : ∀ b, T' b → T b ∨ H.size ≤ b) : KR H' T' B v xs :=
 ⟨h.1.frame hf fun g hg => (h.2 g hg).2, fun b hb => ⟨Nat.lt_of_lt_of_le (h.2 b hb).1 hf.size, fun hx => by
  rcases hT b hx with h' | h'
  ·exact (h.2 b hb).2 h'
  ·have := (h.2 b hb).1; omega⟩⟩
theorem KR.grow (h : KR H T B v xs) (hf : Fr (fun _ => False) H H') : KR H' T B v xs := ⟨h.1.frame hf fun _ _ h => h, fun b hb => ⟨Nat.lt_of_lt_of_le (h.2 b hb).1 hf.size, (h.2 b hb).2⟩⟩
theorem KR.new (hi : IR H' B v xs) (hB : ∀ b, B = some b → H.size ≤ b ∧ ¬ T b) : KR H' T B v xs := ⟨hi, fun b hb => ⟨hi.lt hb, (hB b hb).2⟩⟩
theorem KR.sl (h : KR H T B v xs) {n : Nat} (hn : xs.length = n) : ∃ a c, v = .slice a n c := by
 obtain ⟨a, c, hv⟩ := h.1.slice
 exact ⟨a, c, by rw [hv, hn]⟩
theorem tdiv3 (z : Int) (h1 : -9223372036854775808 ≤ z) (h2 : z ≤ 9223372036854775807) : -9223372036854775808 ≤ z.tdiv 3 ∧ z.tdiv 3 ≤ 9223372036854775807 := by
 rcases Int.lt_or_le z 0 with h | h
 ·have : z.tdiv 3 = -((-z) / 3) := by rw [← Int.tdiv_eq_ediv_of_nonneg (by omega), Int.neg_tdiv, Int.neg_neg]
  omega
 ·rw [Int.tdiv_eq_ediv_of_nonneg h]; omega
theorem baA {a : Option Addr} {len cap n : Nat} {zs : Nat → Int} (hin : InInts H0 a len zs) (hn : n = 2 + min len 62) (hS : TS H0 H t T (Tq.new n))
  (e0 : e 0 = .slice a len cap) (e8 : e 8 = .int .i64 (n : Nat)) (e9 : e 9 = .pointer (some ⟨t, 0, none⟩)) (e11 : e 11 = .int .i64 1)
  (hQ : ∀ e' H' T' Q', e' 1 = e 1 → e' 2 = e 2 → e' 8 = .int .i64 (n : Nat) → e' 9 = .pointer (some ⟨t, 0, none⟩) → TS H0 H' t T' Q' → Q'.n = n → Z .normal e' H') :
  codeX Try.prog [] (loopAt Try.f4.body 0) (blockQ 0 Z) e H := by
 refine x_loop (fun m e' H' => ∃ (i : Nat) (T' : Nat → Prop) (Q' : Tq), e' 11 = .int .i64 (i : Nat) ∧ 1 ≤ i ∧ i ≤ n ∧ TS H0 H' t T' Q' ∧ RestV Q' i ∧ Q'.n = n ∧ m = n - i) (n - 1) ⟨1, T, Tq.new n, e11, Nat.le_refl _, by omega, hS, fun w _ _ => rfl, rfl, rfl⟩ ?_
 rintro m e1 H1 ⟨i, T1, Q1, i11, hi1, hi, hS1, hG, hQn, rfl⟩ hoff
 have i0 := (hoff 0 rfl).trans e0
 have i8 := (hoff 8 rfl).trans e8
 have i9 := (hoff 9 rfl).trans e9
 have keep : e1 1 = e 1 ∧ e1 2 = e 2 := ⟨hoff 1 rfl, hoff 2 rfl⟩
 clear hoff e0 e8 e9 e11
 have ew : IntKind.i64.wrap ((i : Int) - 1) = ((i - 1 : Nat) : Int) := by rw [wrap_i64] <;> omega
 by_cases hlt : i < n
 ·by_cases hl1 : i - 1 < len
  ·obtain ⟨p, rfl, cz, hz1, hz2⟩ := (hin.frame hS1.fr) (i - 1) hl1
   have ew2 : IntKind.i64.wrap ((i : Int) + 1) = ((i + 1 : Nat) : Int) := by rw [wrap_i64] <;> omega
   obtain ⟨d1, d2⟩ := tdiv3 (zs (i - 1)) hz1 hz2
   have ewd : IntKind.i64.wrap ((zs (i - 1)).tdiv 3) = (zs (i - 1)).tdiv 3 := by rw [wrap_i64] <;> omega
   have z2 : ((3 : Int) = 0) = False := by simp
   repeat' (first|(with_reducible first|refine jA ?_|(refine hK _ _ ?_;clear hK K)|refine jJ fun K hK=>?_|refine jK ?_|refine jL ?_|refine jM ?_|refine jN ?_|refine jO ?_|refine jP ?_|refine jQ ?_|(refine jB ?_;clear hK K)|(refine jC ?_;clear hK K)|refine jD ?_|refine jE ?_|refine jG ?_|refine jH ?_|refine jI ?_)|((with_reducible refine jR ?hq ?_);case hq=>rfl)|((first|(with_reducible first|refine jS fun K hK=>?_|refine jT ?_|refine jU ?_)|((with_reducible refine jV ?hy fun K hK=>?_);case hy=>rfl));simp only [go_sem, Nat.reduceEqDiff, Nat.reduceAdd, Nat.reduceMul, Nat.reduceLeDiff, Nat.reduceLT, Int.reduceLT, Int.reduceLE, Int.reduceEq, Int.reduceNeg, Int.reduceToNat, Nat.reducePow, reduceIte, reduceCtorEq, i0, i8, i9, i11, hlt, ew, hl1, cz, ewd, z2])|((with_reducible first|refine jW ?hy ?_|refine jY ?hy ?_);case hy=>rfl)|((with_reducible first|refine jX ?hy ?_|refine jZ ?hy ?_);case hy=>rfl)|((with_reducible refine jF ?hy ?_);case hy=>decide))
   refine Pkisthmuslaw04.pick_ok d1 d2 (by omega) ?_
   obtain ⟨k0, k1⟩ := pickN_range ((zs (i - 1)).tdiv 3) (n := (i : Int)) (by omega)
   obtain ⟨k, ek⟩ := Int.eq_ofNat_of_zero_le k0
   rw [ek] at k1 ⊢
   have hki : k < i := by omega
   repeat' (first|(with_reducible first|refine jA ?_|(refine hK _ _ ?_;clear hK K)|refine jJ fun K hK=>?_|refine jK ?_|refine jL ?_|refine jM ?_|refine jN ?_|refine jO ?_|refine jP ?_|refine jQ ?_|(refine jB ?_;clear hK K)|(refine jC ?_;clear hK K)|refine jD ?_|refine jE ?_|refine jG ?_|refine jH ?_|refine jI ?_)|((with_reducible refine jR ?hq ?_);case hq=>rfl)|((first|(with_reducible first|refine jS fun K hK=>?_|refine jT ?_|refine jU ?_)|((with_reducible refine jV ?hy fun K hK=>?_);case hy=>rfl));simp only [go_sem, Nat.reduceEqDiff, Nat.reduceAdd, Nat.reduceMul, Nat.reduceLeDiff, Nat.reduceLT, Int.reduceLT, Int.reduceLE, Int.reduceEq, Int.reduceNeg, Int.reduceToNat, Nat.reducePow, reduceIte, reduceCtorEq, i0, i8, i9, i11, ew, hl1, cz])|((with_reducible first|refine jW ?hy ?_|refine jY ?hy ?_);case hy=>rfl)|((with_reducible first|refine jX ?hy ?_|refine jZ ?hy ?_);case hy=>rfl)|((with_reducible refine jF ?hy ?_);case hy=>decide))
   refine Pkisthmuslaw04.pick_ok hz1 hz2 (by omega) ?_
   have z0 : ((0 : Int) != 0) = false := rfl
   by_cases hp : pickN (zs (i - 1)) 3 = 0
   ·have t1 : (pickN (zs (i - 1)) 3 == 0) = true := by simp [hp]
    repeat' (first|(with_reducible first|refine jA ?_|(refine hK _ _ ?_;clear hK K)|refine jJ fun K hK=>?_|refine jK ?_|refine jL ?_|refine jM ?_|refine jN ?_|refine jO ?_|refine jP ?_|refine jQ ?_|(refine jB ?_;clear hK K)|(refine jC ?_;clear hK K)|refine jD ?_|refine jE ?_|refine jG ?_|refine jH ?_|refine jI ?_)|((with_reducible refine jR ?hq ?_);case hq=>rfl)|((first|(with_reducible first|refine jS fun K hK=>?_|refine jT ?_|refine jU ?_)|((with_reducible refine jV ?hy fun K hK=>?_);case hy=>rfl));simp only [go_sem, Nat.reduceEqDiff, Nat.reduceAdd, Nat.reduceMul, Nat.reduceLeDiff, Nat.reduceLT, Int.reduceLT, Int.reduceLE, Int.reduceEq, Int.reduceNeg, Int.reduceToNat, Nat.reducePow, reduceIte, reduceCtorEq, i9, i11, t1, ew2])|((with_reducible first|refine jW ?hy ?_|refine jY ?hy ?_);case hy=>rfl)|((with_reducible first|refine jX ?hy ?_|refine jZ ?hy ?_);case hy=>rfl)|((with_reducible refine jF ?hy ?_);case hy=>decide))
    exact loop_normal (m' := n - (i + 1)) (by omega) ⟨i + 1, T1, Q1, rfl, by omega, hlt, hS1, fun w h1 h2 => hG w (by omega) h2, hQn, rfl⟩
   ·have t1 : (pickN (zs (i - 1)) 3 == 0) = false := by simp [hp]
    repeat' (first|(with_reducible first|refine jA ?_|(refine hK _ _ ?_;clear hK K)|refine jJ fun K hK=>?_|refine jK ?_|refine jL ?_|refine jM ?_|refine jN ?_|refine jO ?_|refine jP ?_|refine jQ ?_|(refine jB ?_;clear hK K)|(refine jC ?_;clear hK K)|refine jD ?_|refine jE ?_|refine jG ?_|refine jH ?_|refine jI ?_)|((with_reducible refine jR ?hq ?_);case hq=>rfl)|((first|(with_reducible first|refine jS fun K hK=>?_|refine jT ?_|refine jU ?_)|((with_reducible refine jV ?hy fun K hK=>?_);case hy=>rfl));simp only [go_sem, Nat.reduceEqDiff, Nat.reduceAdd, Nat.reduceMul, Nat.reduceLeDiff, Nat.reduceLT, Int.reduceLT, Int.reduceLE, Int.reduceEq, Int.reduceNeg, Int.reduceToNat, Nat.reducePow, reduceIte, reduceCtorEq, i9, i11, t1])|((with_reducible first|refine jW ?hy ?_|refine jY ?hy ?_);case hy=>rfl)|((with_reducible first|refine jX ?hy ?_|refine jZ ?hy ?_);case hy=>rfl)|((with_reducible refine jF ?hy ?_);case hy=>decide))
    obtain ⟨hne, hG'⟩ := RestV.link hG hS1.to.ok (by omega) hki
    have hq := linkQ_new (by omega) (by omega) hne
    refine tq_link hS1.to fun H2 T2 hM2 hf2 hT2 => ?_
    have hS2 := hS1.op hM2 hf2 hT2
    rw [hq] at hS2 ⊢
    repeat' (first|(with_reducible first|refine jA ?_|(refine hK _ _ ?_;clear hK K)|refine jJ fun K hK=>?_|refine jK ?_|refine jL ?_|refine jM ?_|refine jN ?_|refine jO ?_|refine jP ?_|refine jQ ?_|(refine jB ?_;clear hK K)|(refine jC ?_;clear hK K)|refine jD ?_|refine jE ?_|refine jG ?_|refine jH ?_|refine jI ?_)|((with_reducible refine jR ?hq ?_);case hq=>rfl)|((first|(with_reducible first|refine jS fun K hK=>?_|refine jT ?_|refine jU ?_)|((with_reducible refine jV ?hy fun K hK=>?_);case hy=>rfl));simp only [go_sem, Nat.reduceEqDiff, Nat.reduceAdd, Nat.reduceMul, Nat.reduceLeDiff, Nat.reduceLT, Int.reduceLT, Int.reduceLE, Int.reduceEq, Int.reduceNeg, Int.reduceToNat, Nat.reducePow, reduceIte, reduceCtorEq, z0, i11, ew2])|((with_reducible first|refine jW ?hy ?_|refine jY ?hy ?_);case hy=>rfl)|((with_reducible first|refine jX ?hy ?_|refine jZ ?hy ?_);case hy=>rfl)|((with_reducible refine jF ?hy ?_);case hy=>decide))
    exact loop_normal (m' := n - (i + 1)) (by omega) ⟨i + 1, T2, _, rfl, by omega, hlt, hS2, hG', hQn, rfl⟩
  ·have t1 : (i - 1 < len) = False := by simp; omega
   repeat' (first|(with_reducible first|refine jA ?_|(refine hK _ _ ?_;clear hK K)|refine jJ fun K hK=>?_|refine jK ?_|refine jL ?_|refine jM ?_|refine jN ?_|refine jO ?_|refine jP ?_|refine jQ ?_|(refine jB ?_;clear hK K)|(refine jC ?_;clear hK K)|refine jD ?_|refine jE ?_|refine jG ?_|refine jH ?_|refine jI ?_)|((with_reducible refine jR ?hq ?_);case hq=>rfl)|((first|(with_reducible first|refine jS fun K hK=>?_|refine jT ?_|refine jU ?_)|((with_reducible refine jV ?hy fun K hK=>?_);case hy=>rfl));simp only [go_sem, Nat.reduceEqDiff, Nat.reduceAdd, Nat.reduceMul, Nat.reduceLeDiff, Nat.reduceLT, Int.reduceLT, Int.reduceLE, Int.reduceEq, Int.reduceNeg, Int.reduceToNat, Nat.reducePow, reduceIte, reduceCtorEq, i0, i8, i11, hlt, ew, t1])|((with_reducible first|refine jW ?hy ?_|refine jY ?hy ?_);case hy=>rfl)|((with_reducible first|refine jX ?hy ?_|refine jZ ?hy ?_);case hy=>rfl)|((with_reducible refine jF ?hy ?_);case hy=>decide))
   exact hQ _ _ _ _ keep.1 keep.2 i8 i9 hS1 hQn
 ·have t1 : (i < n) = False := by simp; omega
  repeat' (first|(with_reducible first|refine jA ?_|(refine hK _ _ ?_;clear hK K)|refine jJ fun K hK=>?_|refine jK ?_|refine jL ?_|refine jM ?_|refine jN ?_|refine jO ?_|refine jP ?_|refine jQ ?_|(refine jB ?_;clear hK K)|(refine jC ?_;clear hK K)|refine jD ?_|refine jE ?_|refine jG ?_|refine jH ?_|refine jI ?_)|((with_reducible refine jR ?hq ?_);case hq=>rfl)|((first|(with_reducible first|refine jS fun K hK=>?_|refine jT ?_|refine jU ?_)|((with_reducible refine jV ?hy fun K hK=>?_);case hy=>rfl));simp only [go_sem, Nat.reduceEqDiff, Nat.reduceAdd, Nat.reduceMul, Nat.reduceLeDiff, Nat.reduceLT, Int.reduceLT, Int.reduceLE, Int.reduceEq, Int.reduceNeg, Int.reduceToNat, Nat.reducePow, reduceIte, reduceCtorEq, i0, i8, i11, t1])|((with_reducible first|refine jW ?hy ?_|refine jY ?hy ?_);case hy=>rfl)|((with_reducible first|refine jX ?hy ?_|refine jZ ?hy ?_);case hy=>rfl)|((with_reducible refine jF ?hy ?_);case hy=>decide))
  exact hQ _ _ _ _ keep.1 keep.2 i8 i9 hS1 hQn
theorem baB {B : Option Nat} {va : Value} {xs : List Nat} {v : Nat} (hx : IR H B va (xs.map Int.ofNat)) (hl : xs.length ≤ 64) (hv : v ∈ xs) (e15 : e 15 = va) (e2 : e 2 = .int .i64 (v : Nat)) (e26 : e 26 = .int .i64 0)
  (hQ : ∀ e', e' 2 = e 2 → e' 9 = e 9 → e' 13 = e 13 → e' 15 = e 15 → e' 22 = e 22 → e' 23 = e 23 → e' 24 = e 24 → e' 25 = e 25 → e' 26 = .int .i64 (xs.idxOf v : Nat) → Z .normal e' H) :
  codeX Try.prog [] (loopAt Try.f4.body 1) (blockQ 2 Z) e H := by
 have hk := List.idxOf_lt_length_of_mem hv
 have hlen : (xs.map Int.ofNat).length = xs.length := by simp
 refine x_loop (fun m e' H' => ∃ i : Nat, H' = H ∧ e' 26 = .int .i64 (i : Nat) ∧ i ≤ xs.idxOf v ∧ m = xs.length - i) xs.length ⟨0, rfl, e26, Nat.zero_le _, rfl⟩ ?_
 rintro m e1 H1 ⟨i, rfl, i26, hi, rfl⟩ hoff
 have i15 := (hoff 15 rfl).trans e15
 have i2 := (hoff 2 rfl).trans e2
 have keep : e1 2 = e 2 ∧ e1 9 = e 9 ∧ e1 13 = e 13 ∧ e1 15 = e 15 ∧ e1 22 = e 22 ∧ e1 23 = e 23 ∧ e1 24 = e 24 ∧ e1 25 = e 25 := ⟨hoff 2 rfl, hoff 9 rfl, hoff 13 rfl, hoff 15 rfl, hoff 22 rfl, hoff 23 rfl, hoff 24 rfl, hoff 25 rfl⟩
 clear hoff
 have hlt : i < xs.length := by omega
 obtain ⟨y, hy⟩ : ∃ y, xs[i]? = some y := ⟨_, List.getElem?_eq_getElem hlt⟩
 have hy' : (xs.map Int.ofNat)[i]? = some (y : Int) := by rw [List.getElem?_map, hy]; rfl
 obtain ⟨g, c, rfl, rfl, cy⟩ := hx.read hy'
 rw [hlen] at i15
 have ew2 : IntKind.i64.wrap ((i : Int) + 1) = ((i + 1 : Nat) : Int) := by rw [wrap_i64] <;> omega
 by_cases hyv : y = v
 ·have t1 : ((y : Int) != (v : Int)) = false := by simp [hyv]
  have hidx : xs.idxOf v = i := by
   exact Nat.le_antisymm (idx_min (by rw [hy, hyv])) hi
  repeat' (first|(with_reducible first|refine jA ?_|(refine hK _ _ ?_;clear hK K)|refine jJ fun K hK=>?_|refine jK ?_|refine jL ?_|refine jM ?_|refine jN ?_|refine jO ?_|refine jP ?_|refine jQ ?_|(refine jB ?_;clear hK K)|(refine jC ?_;clear hK K)|refine jD ?_|refine jE ?_|refine jG ?_|refine jH ?_|refine jI ?_)|((with_reducible refine jR ?hq ?_);case hq=>rfl)|((first|(with_reducible first|refine jS fun K hK=>?_|refine jT ?_|refine jU ?_)|((with_reducible refine jV ?hy fun K hK=>?_);case hy=>rfl));simp only [go_sem, Nat.reduceEqDiff, Nat.reduceAdd, Nat.reduceMul, Nat.reduceLeDiff, Nat.reduceLT, Int.reduceLT, Int.reduceLE, Int.reduceEq, Int.reduceNeg, Int.reduceToNat, Nat.reducePow, reduceIte, reduceCtorEq, i15, i2, i26, hlt, cy, t1])|((with_reducible first|refine jW ?hy ?_|refine jY ?hy ?_);case hy=>rfl)|((with_reducible first|refine jX ?hy ?_|refine jZ ?hy ?_);case hy=>rfl)|((with_reducible refine jF ?hy ?_);case hy=>decide))
  obtain ⟨k1, k2, k3, k4, k5, k6, k7, k8⟩ := keep
  exact hQ _ k1 k2 k3 k4 k5 k6 k7 k8 (i26.trans (by rw [hidx]))
 ·have t1 : ((y : Int) != (v : Int)) = true := by simp; omega
  have hidx : xs.idxOf v ≠ i := fun e => by
   have e1 := List.getElem_idxOf hk
   have e2 : xs[xs.idxOf v]? = some y := by rw [e]; exact hy
   rw [List.getElem?_eq_getElem hk, e1] at e2
   exact hyv (Option.some.inj e2).symm
  repeat' (first|(with_reducible first|refine jA ?_|(refine hK _ _ ?_;clear hK K)|refine jJ fun K hK=>?_|refine jK ?_|refine jL ?_|refine jM ?_|refine jN ?_|refine jO ?_|refine jP ?_|refine jQ ?_|(refine jB ?_;clear hK K)|(refine jC ?_;clear hK K)|refine jD ?_|refine jE ?_|refine jG ?_|refine jH ?_|refine jI ?_)|((with_reducible refine jR ?hq ?_);case hq=>rfl)|((first|(with_reducible first|refine jS fun K hK=>?_|refine jT ?_|refine jU ?_)|((with_reducible refine jV ?hy fun K hK=>?_);case hy=>rfl));simp only [go_sem, Nat.reduceEqDiff, Nat.reduceAdd, Nat.reduceMul, Nat.reduceLeDiff, Nat.reduceLT, Int.reduceLT, Int.reduceLE, Int.reduceEq, Int.reduceNeg, Int.reduceToNat, Nat.reducePow, reduceIte, reduceCtorEq, i15, i2, i26, hlt, cy, t1, ew2])|((with_reducible first|refine jW ?hy ?_|refine jY ?hy ?_);case hy=>rfl)|((with_reducible first|refine jX ?hy ?_|refine jZ ?hy ?_);case hy=>rfl)|((with_reducible refine jF ?hy ?_);case hy=>decide))
  exact loop_normal (m' := xs.length - (i + 1)) (by omega) ⟨i + 1, rfl, rfl, by omega, rfl⟩
end
end Go.Proofs.Ytnlafhnbakipmaa
namespace Go.To
open Go Go.Hp Go.Sp Go.Proofs.Ytnlafhnbakipmaa
def EdgeL (l : List St) (a b : Nat) : Prop := (a, b) ∈ l ∨ (b, a) ∈ l
def RchL (l : List St) (a b : Nat) : Prop := Way (EdgeL l) a b
def falses (bs : List Bool) : Nat := bs.countP (! ·)
theorem falses_set : ∀ (bs : List Bool) (i : Nat), falses (bs.set i true) ≤ falses bs ∧ (bs[i]? = some false → falses (bs.set i true) + 1 = falses bs)
 | [], i => ⟨Nat.le_refl _, fun h => by cases h⟩
 | b :: bs, 0 => by
  cases b <;> simp [falses]
 | b :: bs, i + 1 => by
  obtain ⟨h1, h2⟩ := falses_set bs i
  unfold falses at h1 h2 ⊢
  simp only [List.set_cons_succ, List.countP_cons, List.getElem?_cons_succ]
  exact ⟨by omega, fun h => by have := h2 h; omega⟩
theorem RchL.step_or {l : List St} {a x y : Nat} (h : RchL l a x) (e : (x, y) ∈ l ∨ (y, x) ∈ l) : RchL l a y := Way.step h e
theorem reach_closed {l : List St} {a : Nat} {P : Nat → Prop} (h0 : P a) (hc : ∀ p ∈ l, P p.1 ↔ P p.2) {x : Nat} (h : RchL l a x) : P x := by
 induction h with
 | refl => exact h0
 | step _ e ih =>
  rcases e with e | e
  ·exact (hc _ e).1 ih
  ·exact (hc _ e).2 ih
def placeL (l : List St) (u v : Nat) : Option Nat := l.findIdx? fun p => decide (p = (u, v) ∨ p = (v, u))
def withoutL (l : List St) : Option Nat → List St
 | none => l
 | some k => l.take k ++ l.drop (k + 1)
theorem placeL_some {l : List St} {u v k : Nat} (h : placeL l u v = some k) : ∃ p, l[k]? = some p ∧ (p = (u, v) ∨ p = (v, u)) ∧ k < l.length := by
 unfold placeL at h
 rw [List.findIdx?_eq_some_iff_getElem] at h
 obtain ⟨hk, h1, _⟩ := h
 exact ⟨l[k], List.getElem?_eq_getElem hk, by simpa using h1, hk⟩
theorem placeL_none {l : List St} {u v : Nat} : placeL l u v = none ↔ (u, v) ∉ l ∧ (v, u) ∉ l := by
 unfold placeL
 rw [List.findIdx?_eq_none_iff]
 constructor
 ·intro h
  exact ⟨fun hm => by have := h _ hm; simp at this, fun hm => by have := h _ hm; simp at this⟩
 ·rintro ⟨h1, h2⟩ p hp
  simp only [decide_eq_false_iff_not, not_or]
  exact ⟨fun e => h1 (by rw [← e]; exact hp), fun e => h2 (by rw [← e]; exact hp)⟩
end Go.To
namespace Go.Proofs.Ytnlafhnbakipmaa
open Go Go.Hp Go.Sp Go.To
set_option linter.all false
set_option maxRecDepth 100000
set_option maxHeartbeats 1600000
def pairC (p : St) : List Value := [.int .i64 p.1, .int .i64 p.2]
theorem pairC_len (p : St) : (pairC p).length = 2 := rfl
theorem pairC_plain (p : St) : ∀ u ∈ pairC p, plainVal u = true := by
 intro u hu
 simp only [pairC, List.mem_cons, List.not_mem_nil, or_false] at hu
 rcases hu with rfl | rfl <;> rfl
section
variable {H0 H H' : Heap} {e : Env} {Z : HX → Env → Heap → Prop} {K L : Value → Heap → Prop}
theorem repL_bool (n : Nat) : repL n [Value.bool false] = (List.replicate n false).map Value.bool := by
 induction n with
 | zero => rfl
 | succ n ih => rw [List.replicate_succ, List.map_cons, ← ih]; rfl
theorem br_new (H : Heap) (n : Nat) (T : TypeId) (hn : 0 < n) : BR (H.push (.cells (repL n [Value.bool false]).toArray T)) (some H.size) (.slice (some ⟨H.size, 0, none⟩) n n) (List.replicate n false) := by
 refine ⟨by simp, .inr ⟨H.size, n, [], rfl, by simp, ?_, by simp, by simp⟩⟩
 rw [List.append_nil, repL_bool]
 exact Blk.new H _ T
theorem passL {g n : Nat} {B : Option Nat} {vl : Value} {l : List St} {bs0 : List Bool} {fr : Nat} (hl : SR pairC 2 H B vl l) (hB : B ≠ some g) (hll : l.length ≤ 9223372036854775806) (hends : ∀ p ∈ l, p.1 < n ∧ p.2 < n)
  (hb : BR H (some g) (.slice (some ⟨g, 0, none⟩) n n) bs0) (hlen : bs0.length = n) (hs : ∀ x, bs0[x]? = some true → RchL l fr x) (hf : bs0[fr]? = some true)
  (e1 : e 1 = vl) (e7 : e 7 = .slice (some ⟨g, 0, none⟩) n n) (e8 : e 8 = .bool false) (e9 : e 9 = .int .i64 0)
  (hQ : ∀ e' H' bs more, e' 1 = vl → e' 7 = .slice (some ⟨g, 0, none⟩) n n → e' 8 = .bool more → BR H' (some g) (.slice (some ⟨g, 0, none⟩) n n) bs → bs.length = n → (∀ x, bs[x]? = some true → RchL l fr x) → bs[fr]? = some true → Fr (· = g) H H' →
   falses bs ≤ falses bs0 → (more = true → falses bs < falses bs0) → (more = false → ∀ p ∈ l, bs[p.1]? = bs[p.2]?) → Z .normal e' H') :
  codeX Try.prog [9] (loopAt Try.f17.body 1) (blockQ 2 Z) e H := by
 refine x_loop (fun m e' H' => ∃ (i : Nat) (bs : List Bool) (more : Bool), e' 9 = .int .i64 (i : Nat) ∧ e' 8 = .bool more ∧ i ≤ l.length ∧ BR H' (some g) (.slice (some ⟨g, 0, none⟩) n n) bs ∧ bs.length = n ∧ (∀ x, bs[x]? = some true → RchL l fr x) ∧ bs[fr]? = some true ∧ Fr (· = g) H H' ∧
   falses bs ≤ falses bs0 ∧ (more = true → falses bs < falses bs0) ∧ (more = false → ∀ j p, j < i → l[j]? = some p → bs[p.1]? = bs[p.2]?) ∧ m = l.length - i) l.length
  ⟨0, bs0, false, e9, e8, Nat.zero_le _, hb, hlen, hs, hf, Fr.refl _ _, Nat.le_refl _, fun h => (by cases h), fun _ j p h => (by omega), rfl⟩ ?_
 rintro m e1' H1 ⟨i, bs, more, i9, i8, hi, hb1, hlen1, hs1, hf1, hfr, hle, hm1, hm2, rfl⟩ hoff
 have i1 := (hoff 1 rfl).trans e1
 have i7 := (hoff 7 rfl).trans e7
 clear hoff
 obtain ⟨al, cl, rfl⟩ := hl.slice
 by_cases hlt : i < l.length
 ·obtain ⟨⟨p, q⟩, hp⟩ : ∃ p, l[i]? = some p := ⟨_, List.getElem?_eq_getElem hlt⟩
  have hpm := List.mem_of_getElem? hp
  obtain ⟨hpn, hqn⟩ := hends _ hpm
  simp only at hpn hqn
  have hl1 := hl.frame hfr fun b hb' e' => hB (by rw [hb', e'])
  obtain ⟨gl, cl', rfl, hv, _, hc⟩ := hl1.at pairC_len hp
  simp only [Value.slice.injEq] at hv
  obtain ⟨rfl, _, rfl⟩ := hv
  have c0 := hc 0 (.int .i64 p) rfl
  have c1 := hc 1 (.int .i64 q) rfl
  rw [Nat.add_zero] at c0
  obtain ⟨b1, hb1'⟩ : ∃ b, bs[p]? = some b := ⟨_, List.getElem?_eq_getElem (by omega)⟩
  obtain ⟨b2, hb2'⟩ : ∃ b, bs[q]? = some b := ⟨_, List.getElem?_eq_getElem (by omega)⟩
  have d1 := hb1.cell hb1'
  have d2 := hb1.cell hb2'
  have ew : IntKind.i64.wrap ((i : Int) + 1) = ((i + 1 : Nat) : Int) := by rw [wrap_i64] <;> omega
  by_cases hbb : b1 = b2
  ·subst hbb
   have t1 : (b1 != b1) = false := by simp
   repeat' (first|(with_reducible first|refine jA ?_|(refine hK _ _ ?_;clear hK K)|refine jJ fun K hK=>?_|refine jK ?_|refine jL ?_|refine jM ?_|refine jN ?_|refine jO ?_|refine jP ?_|refine jQ ?_|(refine jB ?_;clear hK K)|(refine jC ?_;clear hK K)|refine jD ?_|refine jE ?_|refine jG ?_|refine jH ?_|refine jI ?_)|((with_reducible refine jR ?hq ?_);case hq=>rfl)|((first|(with_reducible first|refine jS fun K hK=>?_|refine jT ?_|refine jU ?_)|((with_reducible refine jV ?hy fun K hK=>?_);case hy=>rfl));simp only [go_sem, Nat.reduceEqDiff, Nat.reduceAdd, Nat.reduceMul, Nat.reduceLeDiff, Nat.reduceLT, Int.reduceLT, Int.reduceLE, Int.reduceEq, Int.reduceNeg, Int.reduceToNat, Nat.reducePow, reduceIte, reduceCtorEq, i1, i7, i9, hlt, hpn, hqn, c0, c1, d1, d2, t1, ew])|((with_reducible first|refine jW ?hy ?_|refine jY ?hy ?_);case hy=>rfl)|((with_reducible first|refine jX ?hy ?_|refine jZ ?hy ?_);case hy=>rfl)|((with_reducible refine jF ?hy ?_);case hy=>decide))
   refine loop_normal (m' := l.length - (i + 1)) (by omega) ⟨i + 1, bs, more, rfl, i8, hlt, hb1, hlen1, hs1, hf1, hfr, hle, hm1, fun hm j p' hj hp' => ?_, rfl⟩
   rcases Nat.lt_succ_iff_lt_or_eq.1 hj with h | rfl
   ·exact hm2 hm j p' h hp'
   ·rw [hp] at hp'
    obtain rfl := Option.some.inj hp'
    rw [hb1', hb2']
  ·have t1 : (b1 == b2) = false := by simp [hbb]
   obtain ⟨w1, hb3⟩ := hb1.write (i := p) (by omega) true
   obtain ⟨w2, hb4⟩ := hb3.write (i := q) (by simp; omega) true
   have hfr2 : Fr (· = g) H1 (hset (hset H1 ⟨g, p, none⟩ (.bool true)) ⟨g, q, none⟩ (.bool true)) := Fr.set (S := (· = g)) (a := ⟨g, q, none⟩) (Fr.set (S := (· = g)) (a := ⟨g, p, none⟩) (Fr.refl _ H1) (.inl rfl) _) (.inl rfl) _
   have hgg : gl ≠ g := fun e' => hB (by rw [e'])
   have hl2 := hl1.frame (Fr.set (S := (· = g)) (a := ⟨g, p, none⟩) (Fr.refl _ H1) (.inl rfl) (.bool true)) fun b hb' e' => hgg (by rw [Option.some.inj hb', e'])
   have c1' := hl2.cell pairC_len hp (j := 1) (u := .int .i64 q) rfl
   repeat' (first|(with_reducible first|refine jA ?_|(refine hK _ _ ?_;clear hK K)|refine jJ fun K hK=>?_|refine jK ?_|refine jL ?_|refine jM ?_|refine jN ?_|refine jO ?_|refine jP ?_|refine jQ ?_|(refine jB ?_;clear hK K)|(refine jC ?_;clear hK K)|refine jD ?_|refine jE ?_|refine jG ?_|refine jH ?_|refine jI ?_)|((with_reducible refine jR ?hq ?_);case hq=>rfl)|((first|(with_reducible first|refine jS fun K hK=>?_|refine jT ?_|refine jU ?_)|((with_reducible refine jV ?hy fun K hK=>?_);case hy=>rfl));simp only [go_sem, Nat.reduceEqDiff, Nat.reduceAdd, Nat.reduceMul, Nat.reduceLeDiff, Nat.reduceLT, Int.reduceLT, Int.reduceLE, Int.reduceEq, Int.reduceNeg, Int.reduceToNat, Nat.reducePow, reduceIte, reduceCtorEq, i1, i7, i9, hlt, hpn, hqn, c0, c1, d1, d2, t1, w1, w2, c1', ew])|((with_reducible first|refine jW ?hy ?_|refine jY ?hy ?_);case hy=>rfl)|((with_reducible first|refine jX ?hy ?_|refine jZ ?hy ?_);case hy=>rfl)|((with_reducible refine jF ?hy ?_);case hy=>decide))
   obtain ⟨f1, f2⟩ := falses_set bs p
   obtain ⟨f3, f4⟩ := falses_set (bs.set p true) q
   have hdec : falses ((bs.set p true).set q true) < falses bs := by
    cases b1 with
    | false => have := f2 hb1'; omega
    | true =>
     cases b2 with
     | true => exact absurd rfl hbb
     | false =>
      have hpq : p ≠ q := by rintro rfl; rw [hb1'] at hb2'; cases hb2'
      have := f4 (by rw [List.getElem?_set_ne hpq]; exact hb2')
      omega
   have hsound : ∀ x, ((bs.set p true).set q true)[x]? = some true → RchL l fr x := by
    have hor : RchL l fr p ∧ RchL l fr q := by
     cases b1 with
     | true => exact ⟨hs1 p hb1', (hs1 p hb1').step_or (.inl hpm)⟩
     | false =>
      cases b2 with
      | false => exact absurd rfl hbb
      | true => exact ⟨(hs1 q hb2').step_or (.inr hpm), hs1 q hb2'⟩
    intro x hx
    rw [List.getElem?_set] at hx
    by_cases hxq : q = x
    ·rw [← hxq]; exact hor.2
    ·rw [if_neg hxq, List.getElem?_set] at hx
     by_cases hxp : p = x
     ·rw [← hxp]; exact hor.1
     ·rw [if_neg hxp] at hx; exact hs1 x hx
   have hf3 : ((bs.set p true).set q true)[fr]? = some true := by
    rw [List.getElem?_set]
    by_cases h1 : q = fr
    ·rw [if_pos h1, if_pos (by simp; omega)]
    ·rw [if_neg h1, List.getElem?_set]
     by_cases h2 : p = fr
     ·rw [if_pos h2, if_pos (by omega)]
     ·rw [if_neg h2]; exact hf1
   exact loop_normal (m' := l.length - (i + 1)) (by omega) ⟨i + 1, _, true, rfl, rfl, hlt, hb4, by simp [hlen1], hsound, hf3, hfr.trans hfr2, by omega, fun _ => by omega, fun h => (by cases h), rfl⟩
 ·have t1 : (i < l.length) = False := by simp [hlt]
  repeat' (first|(with_reducible first|refine jA ?_|(refine hK _ _ ?_;clear hK K)|refine jJ fun K hK=>?_|refine jK ?_|refine jL ?_|refine jM ?_|refine jN ?_|refine jO ?_|refine jP ?_|refine jQ ?_|(refine jB ?_;clear hK K)|(refine jC ?_;clear hK K)|refine jD ?_|refine jE ?_|refine jG ?_|refine jH ?_|refine jI ?_)|((with_reducible refine jR ?hq ?_);case hq=>rfl)|((first|(with_reducible first|refine jS fun K hK=>?_|refine jT ?_|refine jU ?_)|((with_reducible refine jV ?hy fun K hK=>?_);case hy=>rfl));simp only [go_sem, Nat.reduceEqDiff, Nat.reduceAdd, Nat.reduceMul, Nat.reduceLeDiff, Nat.reduceLT, Int.reduceLT, Int.reduceLE, Int.reduceEq, Int.reduceNeg, Int.reduceToNat, Nat.reducePow, reduceIte, reduceCtorEq, i1, i9, t1])|((with_reducible first|refine jW ?hy ?_|refine jY ?hy ?_);case hy=>rfl)|((with_reducible first|refine jX ?hy ?_|refine jZ ?hy ?_);case hy=>rfl)|((with_reducible refine jF ?hy ?_);case hy=>decide))
  refine hQ _ _ bs more i1 i7 i8 hb1 hlen1 hs1 hf1 hfr hle hm1 fun hm p hp => ?_
  obtain ⟨j, hj, rfl⟩ := List.mem_iff_getElem.1 hp
  exact hm2 hm j _ (by omega) (List.getElem?_eq_getElem hj)
theorem joined_ok {n fr : Nat} {B : Option Nat} {vl : Value} {l : List St} (hl : SR pairC 2 H B vl l) (hll : l.length ≤ 9223372036854775806) (hends : ∀ p ∈ l, p.1 < n ∧ p.2 < n) (hfr : fr < n) (hn : n ≤ 1000)
  (fin : ∀ H' g bs, BR H' (some g) (.slice (some ⟨g, 0, none⟩) n n) bs → bs.length = n → (∀ x, bs[x]? = some true ↔ x < n ∧ RchL l fr x) → H.size ≤ g → Fr (fun _ => False) H H' → L (.slice (some ⟨g, 0, none⟩) n n) H') :
  CallsH Try.prog 17 #[.int .i64 (n : Nat), vl, .int .i64 (fr : Nat)] H L := by
 refine call17 (by simp) ?_
 simp only [Try.f17, Option.getD_some]
 repeat' (first|(with_reducible first|refine jA ?_|(refine hK _ _ ?_;clear hK K)|refine jJ fun K hK=>?_|refine jK ?_|refine jL ?_|refine jM ?_|refine jN ?_|refine jO ?_|refine jP ?_|refine jQ ?_|(refine jB ?_;clear hK K)|(refine jC ?_;clear hK K)|refine jD ?_|refine jE ?_|refine jG ?_|refine jH ?_|refine jI ?_)|((with_reducible refine jR ?hq ?_);case hq=>rfl)|((first|(with_reducible first|refine jS fun K hK=>?_|refine jT ?_|refine jU ?_)|((with_reducible refine jV ?hy fun K hK=>?_);case hy=>rfl));simp only [go_sem, Nat.reduceEqDiff, Nat.reduceAdd, Nat.reduceMul, Nat.reduceLeDiff, Nat.reduceLT, Int.reduceLT, Int.reduceLE, Int.reduceEq, Int.reduceNeg, Int.reduceToNat, Nat.reducePow, reduceIte, reduceCtorEq])|((with_reducible first|refine jW ?hy ?_|refine jY ?hy ?_);case hy=>rfl)|((with_reducible first|refine jX ?hy ?_|refine jZ ?hy ?_);case hy=>rfl)|((with_reducible refine jF ?hy ?_);case hy=>decide))
 refine ⟨Nat.le_refl _, by omega, ?_⟩
 have hb0 := br_new H n 4 (by omega)
 have hf0 : Fr (fun _ => False) H (H.push (.cells (repL n [Value.bool false]).toArray 4)) := (Fr.refl _ _).push _
 have hl0 := hl.frame hf0 fun _ _ h => h
 have hBg : B ≠ some H.size := fun e => by have := hl.lt e; omega
 generalize H.push _ = H1 at hb0 hf0 hl0 ⊢
 obtain ⟨w1, hb1⟩ := hb0.write (i := fr) (by simpa using hfr) true
 have hf1 : Fr (· = H.size) H1 (hset H1 ⟨H.size, fr, none⟩ (.bool true)) := Fr.set (S := (· = H.size)) (a := ⟨H.size, fr, none⟩) (Fr.refl _ H1) (.inl rfl) _
 repeat' (first|(with_reducible first|refine jA ?_|(refine hK _ _ ?_;clear hK K)|refine jJ fun K hK=>?_|refine jK ?_|refine jL ?_|refine jM ?_|refine jN ?_|refine jO ?_|refine jP ?_|refine jQ ?_|(refine jB ?_;clear hK K)|(refine jC ?_;clear hK K)|refine jD ?_|refine jE ?_|refine jG ?_|refine jH ?_|refine jI ?_)|((with_reducible refine jR ?hq ?_);case hq=>rfl)|((first|(with_reducible first|refine jS fun K hK=>?_|refine jT ?_|refine jU ?_)|((with_reducible refine jV ?hy fun K hK=>?_);case hy=>rfl));simp only [go_sem, Nat.reduceEqDiff, Nat.reduceAdd, Nat.reduceMul, Nat.reduceLeDiff, Nat.reduceLT, Int.reduceLT, Int.reduceLE, Int.reduceEq, Int.reduceNeg, Int.reduceToNat, Nat.reducePow, reduceIte, reduceCtorEq, hfr, w1])|((with_reducible first|refine jW ?hy ?_|refine jY ?hy ?_);case hy=>rfl)|((with_reducible first|refine jX ?hy ?_|refine jZ ?hy ?_);case hy=>rfl)|((with_reducible refine jF ?hy ?_);case hy=>decide))
 generalize hset H1 ⟨H.size, fr, none⟩ (.bool true) = H2 at hb1 hf1 ⊢
 have hl2 := hl0.frame hf1 fun b hb e => hBg (by rw [hb, e])
 have hf02 : Fr (fun _ => False) H H2 := hf0.trans' hf1 fun b hb (e : b = H.size) => by omega
 refine x_loop (fun m e' H' => ∃ (bs : List Bool) (more : Bool), e' 8 = .bool more ∧ BR H' (some H.size) (.slice (some ⟨H.size, 0, none⟩) n n) bs ∧ bs.length = n ∧ (∀ x, bs[x]? = some true → RchL l fr x) ∧ bs[fr]? = some true ∧ Fr (fun _ => False) H H' ∧ (more = false → ∀ p ∈ l, bs[p.1]? = bs[p.2]?) ∧ m = 2 * falses bs + (if more then 1 else 0)) _
  ⟨(List.replicate n false).set fr true, true, rfl, hb1, by simp, fun x hx => ?_, ?_, hf02, fun h => (by cases h), rfl⟩ ?_
 ·rw [List.getElem?_set] at hx
  by_cases h1 : fr = x
  ·rw [← h1]; exact Way.refl _
  ·rw [if_neg h1, List.getElem?_replicate] at hx
   split at hx <;> cases hx
 ·rw [List.getElem?_set, if_pos rfl, if_pos (by simpa using hfr)]
 rintro m e1 H3 ⟨bs, more, i8, hb3, hlen3, hs3, hfr3, hf3, hcl, rfl⟩ hoff
 have i1 : e1 1 = vl := (hoff 1 rfl).trans rfl
 have i7 : e1 7 = .slice (some ⟨H.size, 0, none⟩) n n := (hoff 7 rfl).trans rfl
 clear hoff
 cases more with
 | true =>
  repeat' (first|(with_reducible first|refine jA ?_|(refine hK _ _ ?_;clear hK K)|refine jJ fun K hK=>?_|refine jK ?_|refine jL ?_|refine jM ?_|refine jN ?_|refine jO ?_|refine jP ?_|refine jQ ?_|(refine jB ?_;clear hK K)|(refine jC ?_;clear hK K)|refine jD ?_|refine jE ?_|refine jG ?_|refine jH ?_|refine jI ?_)|((with_reducible refine jR ?hq ?_);case hq=>rfl)|((first|(with_reducible first|refine jS fun K hK=>?_|refine jT ?_|refine jU ?_)|((with_reducible refine jV ?hy fun K hK=>?_);case hy=>rfl));simp only [go_sem, Nat.reduceEqDiff, Nat.reduceAdd, Nat.reduceMul, Nat.reduceLeDiff, Nat.reduceLT, Int.reduceLT, Int.reduceLE, Int.reduceEq, Int.reduceNeg, Int.reduceToNat, Nat.reducePow, reduceIte, reduceCtorEq, i8])|((with_reducible first|refine jW ?hy ?_|refine jY ?hy ?_);case hy=>rfl)|((with_reducible first|refine jX ?hy ?_|refine jZ ?hy ?_);case hy=>rfl)|((with_reducible refine jF ?hy ?_);case hy=>decide))
  refine passL (hl.frame hf3 fun _ _ h => h) hBg hll hends hb3 hlen3 hs3 hfr3 i1 i7 rfl rfl ?_
  intro e4 H4 bs4 more4 j1 j7 j8 hb4 hlen4 hs4 hfr4 hf4 hle hm1 hm2
  repeat' (first|(with_reducible first|refine jA ?_|(refine hK _ _ ?_;clear hK K)|refine jJ fun K hK=>?_|refine jK ?_|refine jL ?_|refine jM ?_|refine jN ?_|refine jO ?_|refine jP ?_|refine jQ ?_|(refine jB ?_;clear hK K)|(refine jC ?_;clear hK K)|refine jD ?_|refine jE ?_|refine jG ?_|refine jH ?_|refine jI ?_)|((with_reducible refine jR ?hq ?_);case hq=>rfl)|((first|(with_reducible first|refine jS fun K hK=>?_|refine jT ?_|refine jU ?_)|((with_reducible refine jV ?hy fun K hK=>?_);case hy=>rfl));simp only [go_sem, Nat.reduceEqDiff, Nat.reduceAdd, Nat.reduceMul, Nat.reduceLeDiff, Nat.reduceLT, Int.reduceLT, Int.reduceLE, Int.reduceEq, Int.reduceNeg, Int.reduceToNat, Nat.reducePow, reduceIte, reduceCtorEq])|((with_reducible first|refine jW ?hy ?_|refine jY ?hy ?_);case hy=>rfl)|((with_reducible first|refine jX ?hy ?_|refine jZ ?hy ?_);case hy=>rfl)|((with_reducible refine jF ?hy ?_);case hy=>decide))
  refine loop_normal (m' := 2 * falses bs4 + (if more4 then 1 else 0)) ?_ ⟨bs4, more4, j8, hb4, hlen4, hs4, hfr4, hf3.trans' hf4 fun b hb (e : b = H.size) => (by omega), hm2, rfl⟩
  cases more4 with
  | true => have := hm1 rfl; simp; omega
  | false => simp; omega
 | false =>
  repeat' (first|(with_reducible first|refine jA ?_|(refine hK _ _ ?_;clear hK K)|refine jJ fun K hK=>?_|refine jK ?_|refine jL ?_|refine jM ?_|refine jN ?_|refine jO ?_|refine jP ?_|refine jQ ?_|(refine jB ?_;clear hK K)|(refine jC ?_;clear hK K)|refine jD ?_|refine jE ?_|refine jG ?_|refine jH ?_|refine jI ?_)|((with_reducible refine jR ?hq ?_);case hq=>rfl)|((first|(with_reducible first|refine jS fun K hK=>?_|refine jT ?_|refine jU ?_)|((with_reducible refine jV ?hy fun K hK=>?_);case hy=>rfl));simp only [go_sem, Nat.reduceEqDiff, Nat.reduceAdd, Nat.reduceMul, Nat.reduceLeDiff, Nat.reduceLT, Int.reduceLT, Int.reduceLE, Int.reduceEq, Int.reduceNeg, Int.reduceToNat, Nat.reducePow, reduceIte, reduceCtorEq, i8, i7])|((with_reducible first|refine jW ?hy ?_|refine jY ?hy ?_);case hy=>rfl)|((with_reducible first|refine jX ?hy ?_|refine jZ ?hy ?_);case hy=>rfl)|((with_reducible refine jF ?hy ?_);case hy=>decide))
  refine fin _ H.size bs hb3 hlen3 (fun x => ⟨fun hx => ⟨?_, hs3 x hx⟩, fun ⟨hx, hr⟩ => ?_⟩) (Nat.le_refl _) hf3
  ·have := (List.getElem?_eq_some_iff.1 hx).1
   omega
  ·exact reach_closed (P := fun y => bs[y]? = some true) hfr3 (fun p hp => by
    have := hcl rfl p hp
    rw [this]) hr
theorem pairFlat : flatS Try.prog 47 = some [(.int .i64, 0), (.int .i64, 1)] := by kernel_rfl
theorem pair_eq {op : BinOp} {ox oy : Operand} {a b c d : Int} {H : Heap} {K : Value → Prop} (hK : match op with | .eql => K (.bool (decide (a = c ∧ b = d))) | .neq => K (.bool (!decide (a = c ∧ b = d))) | _ => False) :
  binX Try.prog op 47 ox oy (.agg #[.int .i64 a, .int .i64 b]) (.agg #[.int .i64 c, .int .i64 d]) H K := by
 refine binX_flat pairFlat (b := decide (a = c ∧ b = d)) ?_ hK
 simp only [allEq, sEq, List.getElem?_toArray, List.getElem?_cons_zero, List.getElem?_cons_succ, if_true]
 have key : ∀ x y : Int, (x == y) = decide (x = y) := fun x y => by by_cases h : x = y <;> simp [h]
 simp only [key]
 by_cases h1 : a = c <;> by_cases h2 : b = d <;> simp [h1, h2]
theorem place_ok {u v : Nat} {B : Option Nat} {vl : Value} {l : List St} (hl : SR pairC 2 H B vl l) (hll : l.length ≤ 9223372036854775806) (fin : L (.int .i64 (match placeL l u v with | some k => (k : Int) | none => -1)) H) :
  CallsH Try.prog 18 #[vl, .int .i64 (u : Nat), .int .i64 (v : Nat)] H L := by
 obtain ⟨al, cl, rfl⟩ := hl.slice
 refine call18 (by simp) ?_
 simp only [Try.f18, Option.getD_some]
 repeat' (first|(with_reducible first|refine jA ?_|(refine hK _ _ ?_;clear hK K)|refine jJ fun K hK=>?_|refine jK ?_|refine jL ?_|refine jM ?_|refine jN ?_|refine jO ?_|refine jP ?_|refine jQ ?_|(refine jB ?_;clear hK K)|(refine jC ?_;clear hK K)|refine jD ?_|refine jE ?_|refine jG ?_|refine jH ?_|refine jI ?_)|((with_reducible refine jR ?hq ?_);case hq=>rfl)|((first|(with_reducible first|refine jS fun K hK=>?_|refine jT ?_|refine jU ?_)|((with_reducible refine jV ?hy fun K hK=>?_);case hy=>rfl));simp only [go_sem, Nat.reduceEqDiff, Nat.reduceAdd, Nat.reduceMul, Nat.reduceLeDiff, Nat.reduceLT, Int.reduceLT, Int.reduceLE, Int.reduceEq, Int.reduceNeg, Int.reduceToNat, Nat.reducePow, reduceIte, reduceCtorEq])|((with_reducible first|refine jW ?hy ?_|refine jY ?hy ?_);case hy=>rfl)|((with_reducible first|refine jX ?hy ?_|refine jZ ?hy ?_);case hy=>rfl)|((with_reducible refine jF ?hy ?_);case hy=>decide))
 refine x_loop (fun m e' H' => ∃ i : Nat, H' = H ∧ e' 7 = .int .i64 (i : Nat) ∧ i ≤ l.length ∧ (∀ j p, j < i → l[j]? = some p → ¬ (p = (u, v) ∨ p = (v, u))) ∧ m = l.length - i) l.length ⟨0, rfl, rfl, Nat.zero_le _, fun j p h => (by omega), rfl⟩ ?_
 rintro m e1 H1 ⟨i, rfl, i7, hi, hall, rfl⟩ hoff
 have i0 : e1 0 = .slice al l.length cl := (hoff 0 rfl).trans rfl
 have i1 : e1 1 = .int .i64 (u : Nat) := (hoff 1 rfl).trans rfl
 have i2 : e1 2 = .int .i64 (v : Nat) := (hoff 2 rfl).trans rfl
 clear hoff
 by_cases hlt : i < l.length
 ·obtain ⟨⟨p, q⟩, hp⟩ : ∃ p, l[i]? = some p := ⟨_, List.getElem?_eq_getElem hlt⟩
  obtain ⟨gl, cl', rfl, hv, _, hc⟩ := hl.at pairC_len hp
  simp only [Value.slice.injEq] at hv
  obtain ⟨rfl, _, rfl⟩ := hv
  have c0 := hc 0 (.int .i64 p) rfl
  have c1 := hc 1 (.int .i64 q) rfl
  rw [Nat.add_zero] at c0
  have ew : IntKind.i64.wrap ((i : Int) + 1) = ((i + 1 : Nat) : Int) := by rw [wrap_i64] <;> omega
  repeat' (first|(with_reducible first|refine jA ?_|(refine hK _ _ ?_;clear hK K)|refine jJ fun K hK=>?_|refine jK ?_|refine jL ?_|refine jM ?_|refine jN ?_|refine jO ?_|refine jP ?_|refine jQ ?_|(refine jB ?_;clear hK K)|(refine jC ?_;clear hK K)|refine jD ?_|refine jE ?_|refine jG ?_|refine jH ?_|refine jI ?_)|((with_reducible refine jR ?hq ?_);case hq=>rfl)|((first|(with_reducible first|refine jS fun K hK=>?_|refine jT ?_|refine jU ?_)|((with_reducible refine jV ?hy fun K hK=>?_);case hy=>rfl));simp only [go_sem, Nat.reduceEqDiff, Nat.reduceAdd, Nat.reduceMul, Nat.reduceLeDiff, Nat.reduceLT, Int.reduceLT, Int.reduceLE, Int.reduceEq, Int.reduceNeg, Int.reduceToNat, Nat.reducePow, reduceIte, reduceCtorEq, i0, i1, i2, i7, hlt, c0, c1])|((with_reducible first|refine jW ?hy ?_|refine jY ?hy ?_);case hy=>rfl)|((with_reducible first|refine jX ?hy ?_|refine jZ ?hy ?_);case hy=>rfl)|((with_reducible refine jF ?hy ?_);case hy=>decide))
  refine pair_eq ?_
  by_cases h1 : p = u ∧ q = v
  ·have t1 : ((p : Int) = (u : Int) ∧ (q : Int) = (v : Int)) = True := by simp; omega
   simp only [t1, decide_true]
   repeat' (first|(with_reducible first|refine jA ?_|(refine hK _ _ ?_;clear hK K)|refine jJ fun K hK=>?_|refine jK ?_|refine jL ?_|refine jM ?_|refine jN ?_|refine jO ?_|refine jP ?_|refine jQ ?_|(refine jB ?_;clear hK K)|(refine jC ?_;clear hK K)|refine jD ?_|refine jE ?_|refine jG ?_|refine jH ?_|refine jI ?_)|((with_reducible refine jR ?hq ?_);case hq=>rfl)|((first|(with_reducible first|refine jS fun K hK=>?_|refine jT ?_|refine jU ?_)|((with_reducible refine jV ?hy fun K hK=>?_);case hy=>rfl));simp only [go_sem, Nat.reduceEqDiff, Nat.reduceAdd, Nat.reduceMul, Nat.reduceLeDiff, Nat.reduceLT, Int.reduceLT, Int.reduceLE, Int.reduceEq, Int.reduceNeg, Int.reduceToNat, Nat.reducePow, reduceIte, reduceCtorEq, i7])|((with_reducible first|refine jW ?hy ?_|refine jY ?hy ?_);case hy=>rfl)|((with_reducible first|refine jX ?hy ?_|refine jZ ?hy ?_);case hy=>rfl)|((with_reducible refine jF ?hy ?_);case hy=>decide))
   have : placeL l u v = some i := by
    unfold placeL
    rw [List.findIdx?_eq_some_iff_getElem]
    refine ⟨hlt, ?_, fun j hj => ?_⟩
    ·rw [(List.getElem?_eq_some_iff.1 hp).2]
     simp [h1.1, h1.2]
    ·have := hall j _ hj (List.getElem?_eq_getElem (by omega))
     simpa using this
   rw [this] at fin
   exact fin
  ·have t1 : ((p : Int) = (u : Int) ∧ (q : Int) = (v : Int)) = False := by simp; omega
   simp only [t1, decide_false]
   repeat' (first|(with_reducible first|refine jA ?_|(refine hK _ _ ?_;clear hK K)|refine jJ fun K hK=>?_|refine jK ?_|refine jL ?_|refine jM ?_|refine jN ?_|refine jO ?_|refine jP ?_|refine jQ ?_|(refine jB ?_;clear hK K)|(refine jC ?_;clear hK K)|refine jD ?_|refine jE ?_|refine jG ?_|refine jH ?_|refine jI ?_)|((with_reducible refine jR ?hq ?_);case hq=>rfl)|((first|(with_reducible first|refine jS fun K hK=>?_|refine jT ?_|refine jU ?_)|((with_reducible refine jV ?hy fun K hK=>?_);case hy=>rfl));simp only [go_sem, Nat.reduceEqDiff, Nat.reduceAdd, Nat.reduceMul, Nat.reduceLeDiff, Nat.reduceLT, Int.reduceLT, Int.reduceLE, Int.reduceEq, Int.reduceNeg, Int.reduceToNat, Nat.reducePow, reduceIte, reduceCtorEq, i0, i1, i2, i7, hlt, c0, c1])|((with_reducible first|refine jW ?hy ?_|refine jY ?hy ?_);case hy=>rfl)|((with_reducible first|refine jX ?hy ?_|refine jZ ?hy ?_);case hy=>rfl)|((with_reducible refine jF ?hy ?_);case hy=>decide))
   refine pair_eq ?_
   by_cases h2 : p = v ∧ q = u
   ·have t2 : ((p : Int) = (v : Int) ∧ (q : Int) = (u : Int)) = True := by simp; omega
    simp only [t2, decide_true]
    repeat' (first|(with_reducible first|refine jA ?_|(refine hK _ _ ?_;clear hK K)|refine jJ fun K hK=>?_|refine jK ?_|refine jL ?_|refine jM ?_|refine jN ?_|refine jO ?_|refine jP ?_|refine jQ ?_|(refine jB ?_;clear hK K)|(refine jC ?_;clear hK K)|refine jD ?_|refine jE ?_|refine jG ?_|refine jH ?_|refine jI ?_)|((with_reducible refine jR ?hq ?_);case hq=>rfl)|((first|(with_reducible first|refine jS fun K hK=>?_|refine jT ?_|refine jU ?_)|((with_reducible refine jV ?hy fun K hK=>?_);case hy=>rfl));simp only [go_sem, Nat.reduceEqDiff, Nat.reduceAdd, Nat.reduceMul, Nat.reduceLeDiff, Nat.reduceLT, Int.reduceLT, Int.reduceLE, Int.reduceEq, Int.reduceNeg, Int.reduceToNat, Nat.reducePow, reduceIte, reduceCtorEq, i7])|((with_reducible first|refine jW ?hy ?_|refine jY ?hy ?_);case hy=>rfl)|((with_reducible first|refine jX ?hy ?_|refine jZ ?hy ?_);case hy=>rfl)|((with_reducible refine jF ?hy ?_);case hy=>decide))
    have : placeL l u v = some i := by
     unfold placeL
     rw [List.findIdx?_eq_some_iff_getElem]
     refine ⟨hlt, ?_, fun j hj => ?_⟩
     ·rw [(List.getElem?_eq_some_iff.1 hp).2]
      simp [h2.1, h2.2]
     ·have := hall j _ hj (List.getElem?_eq_getElem (by omega))
      simpa using this
    rw [this] at fin
    exact fin
   ·have t2 : ((p : Int) = (v : Int) ∧ (q : Int) = (u : Int)) = False := by simp; omega
    simp only [t2, decide_false]
    repeat' (first|(with_reducible first|refine jA ?_|(refine hK _ _ ?_;clear hK K)|refine jJ fun K hK=>?_|refine jK ?_|refine jL ?_|refine jM ?_|refine jN ?_|refine jO ?_|refine jP ?_|refine jQ ?_|(refine jB ?_;clear hK K)|(refine jC ?_;clear hK K)|refine jD ?_|refine jE ?_|refine jG ?_|refine jH ?_|refine jI ?_)|((with_reducible refine jR ?hq ?_);case hq=>rfl)|((first|(with_reducible first|refine jS fun K hK=>?_|refine jT ?_|refine jU ?_)|((with_reducible refine jV ?hy fun K hK=>?_);case hy=>rfl));simp only [go_sem, Nat.reduceEqDiff, Nat.reduceAdd, Nat.reduceMul, Nat.reduceLeDiff, Nat.reduceLT, Int.reduceLT, Int.reduceLE, Int.reduceEq, Int.reduceNeg, Int.reduceToNat, Nat.reducePow, reduceIte, reduceCtorEq, i7, ew])|((with_reducible first|refine jW ?hy ?_|refine jY ?hy ?_);case hy=>rfl)|((with_reducible first|refine jX ?hy ?_|refine jZ ?hy ?_);case hy=>rfl)|((with_reducible refine jF ?hy ?_);case hy=>decide))
    refine loop_normal (m' := l.length - (i + 1)) (by omega) ⟨i + 1, rfl, rfl, hlt, fun j p' hj hp' => ?_, rfl⟩
    rcases Nat.lt_succ_iff_lt_or_eq.1 hj with h | rfl
    ·exact hall j p' h hp'
    ·rw [hp] at hp'
     obtain rfl := Option.some.inj hp'
     simp only [Prod.mk.injEq]
     rintro (h | h)
     ·exact h1 h
     ·exact h2 h
 ·have t1 : (i < l.length) = False := by simp [hlt]
  repeat' (first|(with_reducible first|refine jA ?_|(refine hK _ _ ?_;clear hK K)|refine jJ fun K hK=>?_|refine jK ?_|refine jL ?_|refine jM ?_|refine jN ?_|refine jO ?_|refine jP ?_|refine jQ ?_|(refine jB ?_;clear hK K)|(refine jC ?_;clear hK K)|refine jD ?_|refine jE ?_|refine jG ?_|refine jH ?_|refine jI ?_)|((with_reducible refine jR ?hq ?_);case hq=>rfl)|((first|(with_reducible first|refine jS fun K hK=>?_|refine jT ?_|refine jU ?_)|((with_reducible refine jV ?hy fun K hK=>?_);case hy=>rfl));simp only [go_sem, Nat.reduceEqDiff, Nat.reduceAdd, Nat.reduceMul, Nat.reduceLeDiff, Nat.reduceLT, Int.reduceLT, Int.reduceLE, Int.reduceEq, Int.reduceNeg, Int.reduceToNat, Nat.reducePow, reduceIte, reduceCtorEq, i0, i7, t1])|((with_reducible first|refine jW ?hy ?_|refine jY ?hy ?_);case hy=>rfl)|((with_reducible first|refine jX ?hy ?_|refine jZ ?hy ?_);case hy=>rfl)|((with_reducible refine jF ?hy ?_);case hy=>decide))
  have : placeL l u v = none := by
   unfold placeL
   rw [List.findIdx?_eq_none_iff]
   intro p hp
   obtain ⟨j, hj, rfl⟩ := List.mem_iff_getElem.1 hp
   have := hall j _ (by omega) (List.getElem?_eq_getElem hj)
   simpa using this
  rw [this] at fin
  exact fin
theorem without_ok {B : Option Nat} {vl : Value} {l : List St} {k : Option Nat} (hl : SR pairC 2 H B vl l) (hll : l.length ≤ 1000) (hk : ∀ i, k = some i → i < l.length)
  (fin : ∀ H' B' v', SR pairC 2 H' B' v' (withoutL l k) → Fr (fun _ => False) H H' → (B' = B ∨ ∀ b, B' = some b → H.size ≤ b) → L v' H') :
  CallsH Try.prog 22 #[vl, .int .i64 (match k with | some i => (i : Int) | none => -1)] H L := by
 refine call22 (by simp) ?_
 simp only [Try.f22, Option.getD_some]
 cases k with
 | none =>
  have t1 : ((-1 : Int) < 0) = True := by simp
  repeat' (first|(with_reducible first|refine jA ?_|(refine hK _ _ ?_;clear hK K)|refine jJ fun K hK=>?_|refine jK ?_|refine jL ?_|refine jM ?_|refine jN ?_|refine jO ?_|refine jP ?_|refine jQ ?_|(refine jB ?_;clear hK K)|(refine jC ?_;clear hK K)|refine jD ?_|refine jE ?_|refine jG ?_|refine jH ?_|refine jI ?_)|((with_reducible refine jR ?hq ?_);case hq=>rfl)|((first|(with_reducible first|refine jS fun K hK=>?_|refine jT ?_|refine jU ?_)|((with_reducible refine jV ?hy fun K hK=>?_);case hy=>rfl));simp only [go_sem, Nat.reduceEqDiff, Nat.reduceAdd, Nat.reduceMul, Nat.reduceLeDiff, Nat.reduceLT, Int.reduceLT, Int.reduceLE, Int.reduceEq, Int.reduceNeg, Int.reduceToNat, Nat.reducePow, reduceIte, reduceCtorEq, t1])|((with_reducible first|refine jW ?hy ?_|refine jY ?hy ?_);case hy=>rfl)|((with_reducible first|refine jX ?hy ?_|refine jZ ?hy ?_);case hy=>rfl)|((with_reducible refine jF ?hy ?_);case hy=>decide))
  exact fin H B vl hl (Fr.refl _ _) (.inl rfl)
 | some i =>
  have hi := hk i rfl
  obtain ⟨g, c, rfl, rfl, hc⟩ := hl.open (by intro e; rw [e] at hi; cases hi)
  have t1 : ((i : Int) < 0) = False := by simp
  have t2 : (i ≤ c) = True := by simp; omega
  have ew : IntKind.i64.wrap ((i : Int) + 1) = ((i + 1 : Nat) : Int) := by rw [wrap_i64] <;> omega
  have rl1 := hl.readL pairC_len (o := 0) (m := i) (by omega)
  rw [Nat.zero_mul, List.drop_zero] at rl1
  repeat' (first|(with_reducible first|refine jA ?_|(refine hK _ _ ?_;clear hK K)|refine jJ fun K hK=>?_|refine jK ?_|refine jL ?_|refine jM ?_|refine jN ?_|refine jO ?_|refine jP ?_|refine jQ ?_|(refine jB ?_;clear hK K)|(refine jC ?_;clear hK K)|refine jD ?_|refine jE ?_|refine jG ?_|refine jH ?_|refine jI ?_)|((with_reducible refine jR ?hq ?_);case hq=>rfl)|((first|(with_reducible first|refine jS fun K hK=>?_|refine jT ?_|refine jU ?_)|((with_reducible refine jV ?hy fun K hK=>?_);case hy=>rfl));simp only [go_sem, Nat.reduceEqDiff, Nat.reduceAdd, Nat.reduceMul, Nat.reduceLeDiff, Nat.reduceLT, Int.reduceLT, Int.reduceLE, Int.reduceEq, Int.reduceNeg, Int.reduceToNat, Nat.reducePow, reduceIte, reduceCtorEq, t1, t2, ite_self, Nat.sub_zero])|((with_reducible first|refine jW ?hy ?_|refine jY ?hy ?_);case hy=>rfl)|((with_reducible first|refine jX ?hy ?_|refine jZ ?hy ?_);case hy=>rfl)|((with_reducible refine jF ?hy ?_);case hy=>decide))
  refine append_srs pairC_len pairC_plain elems40 tl47 (SR.nil pairC 2 H) (ys := l.take i) rl1 (by simp; omega) (by decide) (by simp; omega) rfl fun v1 H1 B1 h1 hf1 hB1 => ?_
  have hf1' : Fr (fun _ => False) H H1 := hf1.mono fun b _ h => by cases h
  have hl1 := hl.frame hf1' fun _ _ h => h
  have hB1' : ∀ b, B1 = some b → H.size ≤ b := fun b hb => by
   rcases hB1 with e | ⟨g', hg, hge⟩
   ·rw [e] at hb; cases hb
   ·rw [hg] at hb
    obtain rfl := Option.some.inj hb
    exact hge
  have t3 : (i + 1 ≤ l.length) = True := by simp; omega
  have t4 : (l.length ≤ c) = True := by simp [hc]
  have ending : ∀ (v2 : Value) (H2 : Heap) (B2 : Option Nat), SR pairC 2 H2 B2 v2 ([] ++ l.take i ++ l.drop (i + 1)) → Fr (fun b => B1 = some b) H1 H2 → (B2 = B1 ∨ ∃ g, B2 = some g ∧ H1.size ≤ g) → L v2 H2 := fun v2 H2 B2 h2 hf2 hB2 => by
   refine fin H2 B2 v2 (by simpa [withoutL] using h2) (hf1'.trans' hf2 fun b hb e => by have := hB1' b e; omega) (.inr fun b hb => ?_)
   rcases hB2 with e | ⟨g', hg, hge⟩
   ·exact hB1' b (by rw [← e]; exact hb)
   ·rw [hg] at hb
    obtain rfl := Option.some.inj hb
    have := hf1'.size; omega
  by_cases hcap : c = i + 1
  ·have t5 : (c = i + 1) = True := by simp [hcap]
   have hm : l.length - (i + 1) = 0 := by omega
   repeat' (first|(with_reducible first|refine jA ?_|(refine hK _ _ ?_;clear hK K)|refine jJ fun K hK=>?_|refine jK ?_|refine jL ?_|refine jM ?_|refine jN ?_|refine jO ?_|refine jP ?_|refine jQ ?_|(refine jB ?_;clear hK K)|(refine jC ?_;clear hK K)|refine jD ?_|refine jE ?_|refine jG ?_|refine jH ?_|refine jI ?_)|((with_reducible refine jR ?hq ?_);case hq=>rfl)|((first|(with_reducible first|refine jS fun K hK=>?_|refine jT ?_|refine jU ?_)|((with_reducible refine jV ?hy fun K hK=>?_);case hy=>rfl));simp only [go_sem, Nat.reduceEqDiff, Nat.reduceAdd, Nat.reduceMul, Nat.reduceLeDiff, Nat.reduceLT, Int.reduceLT, Int.reduceLE, Int.reduceEq, Int.reduceNeg, Int.reduceToNat, Nat.reducePow, reduceIte, reduceCtorEq, ew, t3, t4, t5])|((with_reducible first|refine jW ?hy ?_|refine jY ?hy ?_);case hy=>rfl)|((with_reducible first|refine jX ?hy ?_|refine jZ ?hy ?_);case hy=>rfl)|((with_reducible refine jF ?hy ?_);case hy=>decide))
   refine append_srs (o := 0) pairC_len pairC_plain elems40 tl47 h1 (ys := l.drop (i + 1)) (by rw [hm, List.drop_of_length_le (by omega), Nat.zero_mul]; rfl) (by simp) (by decide) (by simp; omega) rfl fun v2 H2 B2 h2 hf2 hB2 => ?_
   repeat' (first|(with_reducible first|refine jA ?_|(refine hK _ _ ?_;clear hK K)|refine jJ fun K hK=>?_|refine jK ?_|refine jL ?_|refine jM ?_|refine jN ?_|refine jO ?_|refine jP ?_|refine jQ ?_|(refine jB ?_;clear hK K)|(refine jC ?_;clear hK K)|refine jD ?_|refine jE ?_|refine jG ?_|refine jH ?_|refine jI ?_)|((with_reducible refine jR ?hq ?_);case hq=>rfl)|((first|(with_reducible first|refine jS fun K hK=>?_|refine jT ?_|refine jU ?_)|((with_reducible refine jV ?hy fun K hK=>?_);case hy=>rfl));simp only [go_sem, Nat.reduceEqDiff, Nat.reduceAdd, Nat.reduceMul, Nat.reduceLeDiff, Nat.reduceLT, Int.reduceLT, Int.reduceLE, Int.reduceEq, Int.reduceNeg, Int.reduceToNat, Nat.reducePow, reduceIte, reduceCtorEq])|((with_reducible first|refine jW ?hy ?_|refine jY ?hy ?_);case hy=>rfl)|((with_reducible first|refine jX ?hy ?_|refine jZ ?hy ?_);case hy=>rfl)|((with_reducible refine jF ?hy ?_);case hy=>decide))
   exact ending v2 H2 B2 h2 hf2 hB2
  ·have t5 : (c = i + 1) = False := by simp [hcap]
   have rl2 := hl1.readL pairC_len (o := i + 1) (m := l.length - (i + 1)) (by omega)
   rw [List.take_of_length_le (by simp)] at rl2
   repeat' (first|(with_reducible first|refine jA ?_|(refine hK _ _ ?_;clear hK K)|refine jJ fun K hK=>?_|refine jK ?_|refine jL ?_|refine jM ?_|refine jN ?_|refine jO ?_|refine jP ?_|refine jQ ?_|(refine jB ?_;clear hK K)|(refine jC ?_;clear hK K)|refine jD ?_|refine jE ?_|refine jG ?_|refine jH ?_|refine jI ?_)|((with_reducible refine jR ?hq ?_);case hq=>rfl)|((first|(with_reducible first|refine jS fun K hK=>?_|refine jT ?_|refine jU ?_)|((with_reducible refine jV ?hy fun K hK=>?_);case hy=>rfl));simp only [go_sem, Nat.reduceEqDiff, Nat.reduceAdd, Nat.reduceMul, Nat.reduceLeDiff, Nat.reduceLT, Int.reduceLT, Int.reduceLE, Int.reduceEq, Int.reduceNeg, Int.reduceToNat, Nat.reducePow, reduceIte, reduceCtorEq, ew, t3, t4, t5])|((with_reducible first|refine jW ?hy ?_|refine jY ?hy ?_);case hy=>rfl)|((with_reducible first|refine jX ?hy ?_|refine jZ ?hy ?_);case hy=>rfl)|((with_reducible refine jF ?hy ?_);case hy=>decide))
   refine append_srs pairC_len pairC_plain elems40 tl47 h1 (ys := l.drop (i + 1)) rl2 (by simp) (by decide) (by simp; omega) rfl fun v2 H2 B2 h2 hf2 hB2 => ?_
   repeat' (first|(with_reducible first|refine jA ?_|(refine hK _ _ ?_;clear hK K)|refine jJ fun K hK=>?_|refine jK ?_|refine jL ?_|refine jM ?_|refine jN ?_|refine jO ?_|refine jP ?_|refine jQ ?_|(refine jB ?_;clear hK K)|(refine jC ?_;clear hK K)|refine jD ?_|refine jE ?_|refine jG ?_|refine jH ?_|refine jI ?_)|((with_reducible refine jR ?hq ?_);case hq=>rfl)|((first|(with_reducible first|refine jS fun K hK=>?_|refine jT ?_|refine jU ?_)|((with_reducible refine jV ?hy fun K hK=>?_);case hy=>rfl));simp only [go_sem, Nat.reduceEqDiff, Nat.reduceAdd, Nat.reduceMul, Nat.reduceLeDiff, Nat.reduceLT, Int.reduceLT, Int.reduceLE, Int.reduceEq, Int.reduceNeg, Int.reduceToNat, Nat.reducePow, reduceIte, reduceCtorEq])|((with_reducible first|refine jW ?hy ?_|refine jY ?hy ?_);case hy=>rfl)|((with_reducible first|refine jX ?hy ?_|refine jZ ?hy ?_);case hy=>rfl)|((with_reducible refine jF ?hy ?_);case hy=>decide))
   exact ending v2 H2 B2 h2 hf2 hB2
end
end Go.Proofs.Ytnlafhnbakipmaa
namespace Go.To
open Go Go.Hp Go.Sp Go.Proofs.Ytnlafhnbakipmaa
set_option linter.unusedVariables false
section
variable {Q : Tq}
theorem cut_rows (hok : Q.Ok) {u v : Nat} {x y : St} (hu : u < Q.n) (huv : u ≠ v) (hxy : (x = (u, v) ∧ y = (v, u)) ∨ (x = (v, u) ∧ y = (u, v))) {l1 m l2 : List St} (hl : Q.row u = l1 ++ x :: (m ++ y :: l2)) {a : Nat} (ha : a < Q.n) (b : Nat) :
  (a, b) ∈ (Q.cutTo u v m (l1 ++ l2)).row a ↔ (a, b) ∈ Q.row a ∧ (a, b) ≠ x ∧ (a, b) ≠ y := by
 have hnn := hok.nd u hu
 rw [hl] at hnn
 have hxu : x ∈ Q.row u := by rw [hl]; simp
 have hyu : y ∈ Q.row u := by rw [hl]; simp
 have hxne : x.1 ≠ x.2 := by rcases hxy with ⟨rfl, rfl⟩ | ⟨rfl, rfl⟩ <;> first | exact huv | exact huv.symm
 have hyne : y.1 ≠ y.2 := by rcases hxy with ⟨rfl, rfl⟩ | ⟨rfl, rfl⟩ <;> first | exact huv.symm | exact huv
 have nx : x ∉ l1 ∧ x ∉ m ∧ x ∉ l2 ∧ x ≠ y := by
  simp only [List.nodup_append, List.nodup_cons, List.mem_append, List.mem_cons, not_or] at hnn
  exact ⟨fun hm => hnn.2.2 _ hm _ (.inl rfl) rfl, hnn.2.1.1.1, hnn.2.1.1.2.2, hnn.2.1.1.2.1⟩
 have ny : y ∉ l1 ∧ y ∉ m ∧ y ∉ l2 := by
  simp only [List.nodup_append, List.nodup_cons, List.mem_append, List.mem_cons, not_or] at hnn
  exact ⟨fun hm => hnn.2.2 _ hm _ (.inr (.inr (.inl rfl))) rfl, fun hm => hnn.2.1.2.2.2 _ hm _ (.inl rfl) rfl, hnn.2.1.2.2.1.1⟩
 have htour : Tour m ∧ Tour (l1 ++ l2) := by
  have ht := hok.tour u hu
  rw [hl] at ht
  have hn2 := hok.nd u hu
  rw [hl] at hn2
  rcases hxy with ⟨rfl, rfl⟩ | ⟨rfl, rfl⟩
  ·exact Tour.cut huv (by simpa using hn2) (by simpa using ht)
  ·exact Tour.cut huv.symm (by simpa using hn2) (by simpa using ht)
 have hap : ∀ z, z ∈ m → z ∉ l1 ++ l2 := fun z hz ho => by
  simp only [List.nodup_append, List.nodup_cons, List.mem_append, List.mem_cons, not_or] at hnn
  rcases List.mem_append.1 ho with ho | ho
  ·exact hnn.2.2 _ ho _ (.inr (.inl hz)) rfl
  ·exact hnn.2.1.2.2.2 _ hz _ (.inr ho) rfl
 have memu : ∀ z, z ∈ Q.row u ↔ z ∈ m ∨ z ∈ l1 ++ l2 ∨ z = x ∨ z = y := fun z => by
  rw [hl]
  simp only [List.mem_append, List.mem_cons]
  constructor
  ·rintro (h | h | h | h | h)
   ·exact .inr (.inl (.inl h))
   ·exact .inr (.inr (.inl h))
   ·exact .inl h
   ·exact .inr (.inr (.inr h))
   ·exact .inr (.inl (.inr h))
  ·rintro (h | (h | h) | h | h)
   ·exact .inr (.inr (.inl h))
   ·exact .inl h
   ·exact .inr (.inr (.inr (.inr h)))
   ·exact .inr (.inl h)
   ·exact .inr (.inr (.inr (.inl h)))
 have stopne : ∀ w : Nat, (w, w) ≠ x ∧ (w, w) ≠ y := fun w => ⟨fun e => hxne (by rw [← e]), fun e => hyne (by rw [← e])⟩
 have hrow : (Q.cutTo u v m (l1 ++ l2)).row a = if (a, a) ∈ l1 ++ l2 then l1 ++ l2 else if (a, a) ∈ m then m else Q.row a := rfl
 by_cases hau : (a, a) ∈ Q.row u
 ·have e1 := (hok.same u hu a hau).2
  rw [e1, memu, hrow]
  rcases (memu _).1 hau with h1 | h1 | h1 | h1
  ·rw [if_neg (hap _ h1), if_pos h1]
   constructor
   ·intro hm
    exact ⟨.inl hm, fun e => nx.2.1 (by rw [← e]; exact hm), fun e => ny.2.1 (by rw [← e]; exact hm)⟩
   ·rintro ⟨h | h | h | h, h2, h3⟩
    ·exact h
    ·exact absurd (htour.2.ends h).1 (hap _ h1)
    ·exact absurd h h2
    ·exact absurd h h3
  ·rw [if_pos h1]
   constructor
   ·intro hm
    refine ⟨.inr (.inl hm), fun e => ?_, fun e => ?_⟩
    ·rw [e] at hm
     rcases List.mem_append.1 hm with h | h
     ·exact nx.1 h
     ·exact nx.2.2.1 h
    ·rw [e] at hm
     rcases List.mem_append.1 hm with h | h
     ·exact ny.1 h
     ·exact ny.2.2 h
   ·rintro ⟨h | h | h | h, h2, h3⟩
    ·exact absurd h1 (hap _ (htour.1.ends h).1)
    ·exact h
    ·exact absurd h h2
    ·exact absurd h h3
  ·exact absurd h1 (stopne a).1
  ·exact absurd h1 (stopne a).2
 ·rw [hrow, if_neg (fun h => hau ((memu _).2 (.inr (.inl h)))), if_neg (fun h => hau ((memu _).2 (.inl h)))]
  constructor
  ·intro hm
   refine ⟨hm, fun e => ?_, fun e => ?_⟩
   ·rw [e] at hm
    have e1 := hok.row_eq ha hu hm hxu
    exact hau (by rw [← e1]; exact hok.self a ha)
   ·rw [e] at hm
    have e1 := hok.row_eq ha hu hm hyu
    exact hau (by rw [← e1]; exact hok.self a ha)
  ·exact fun h => h.1
def OneL (l : List St) : Prop := l.Pairwise fun p q => p ≠ q ∧ p ≠ (q.2, q.1)
structure Bk (Q : Tq) (l : List St) : Prop where
 mem : ∀ p ∈ l, p.1 < Q.n ∧ p.1 ≠ p.2 ∧ (p.1, p.2) ∈ Q.row p.1
 all : ∀ a b, a < Q.n → a ≠ b → (a, b) ∈ Q.row a → (a, b) ∈ l ∨ (b, a) ∈ l
 one : OneL l
theorem OneL.erase {l : List St} (h : OneL l) (k : Option Nat) : OneL (withoutL l k) := by
 cases k with
 | none => exact h
 | some k =>
  have hs : (l.take k ++ l.drop (k + 1)).Sublist l := by
   have h1 : (l.take k ++ l.drop k) = l := List.take_append_drop _ _
   conv => rhs; rw [← h1]
   refine List.Sublist.append (List.Sublist.refl _) ?_
   rw [show k + 1 = k + 1 from rfl, ← List.drop_drop]
   exact List.drop_sublist _ _
  exact h.sublist hs
theorem mem_without {l : List St} (h : OneL l) {u v k : Nat} (hk : placeL l u v = some k) (p : St) : p ∈ withoutL l (some k) ↔ p ∈ l ∧ p ≠ (u, v) ∧ p ≠ (v, u) := by
 obtain ⟨q, hq, hq2, hlt⟩ := placeL_some hk
 have hl : l = l.take k ++ q :: l.drop (k + 1) := by
  conv => lhs; rw [← List.take_append_drop k l]
  rw [List.drop_eq_getElem_cons hlt, (List.getElem?_eq_some_iff.1 hq).2]
 have h' := h
 rw [hl] at h'
 unfold OneL at h'
 rw [List.pairwise_append, List.pairwise_cons] at h'
 obtain ⟨_, ⟨h2, _⟩, h3⟩ := h'
 have apart : ∀ z, z ∈ l.take k ∨ z ∈ l.drop (k + 1) → z ≠ (u, v) ∧ z ≠ (v, u) := fun z hz => by
  have hz2 : z ≠ q ∧ z ≠ (q.2, q.1) := by
   rcases hz with hz | hz
   ·exact h3 z hz q (.head _)
   ·have := h2 z hz
    refine ⟨fun e => this.1 e.symm, fun e => this.2 ?_⟩
    rw [e]
  rcases hq2 with rfl | rfl
  ·exact hz2
  ·exact ⟨hz2.2, hz2.1⟩
 have hm : p ∈ l ↔ p ∈ l.take k ∨ p = q ∨ p ∈ l.drop (k + 1) := by
  conv => lhs; rw [hl]
  rw [List.mem_append, List.mem_cons]
 show p ∈ l.take k ++ l.drop (k + 1) ↔ _
 rw [List.mem_append, hm]
 constructor
 ·rintro (hp | hp)
  ·exact ⟨.inl hp, apart p (.inl hp)⟩
  ·exact ⟨.inr (.inr hp), apart p (.inr hp)⟩
 ·rintro ⟨hp | hp | hp, h4, h5⟩
  ·exact .inl hp
  ·exfalso
   rcases hq2 with e | e
   ·exact h4 (by rw [hp, e])
   ·exact h5 (by rw [hp, e])
  ·exact .inr hp
theorem Bk.ends {l : List St} (h : Bk Q l) (hok : Q.Ok) : ∀ p ∈ l, p.1 < Q.n ∧ p.2 < Q.n := fun p hp => by
 obtain ⟨h1, _, h3⟩ := h.mem p hp
 exact ⟨h1, (hok.of_mem h1 h3).2.1⟩
theorem Bk.reach {l : List St} (h : Bk Q l) (hok : Q.Ok) {u v : Nat} (hu : u < Q.n) (hv : v < Q.n) : RchL l u v ↔ (v, v) ∈ Q.row u := by
 constructor
 ·intro hr
  have : v < Q.n ∧ Q.row v = Q.row u := by
   clear hv
   induction hr with
   | refl => exact ⟨hu, rfl⟩
   | step _ e ih =>
    obtain ⟨i1, i2⟩ := ih
    rcases e with e | e
    ·obtain ⟨_, _, g3⟩ := h.mem _ e
     obtain ⟨_, k2, _, k4⟩ := hok.of_mem i1 g3
     exact ⟨k2, by rw [k4]; exact i2⟩
    ·obtain ⟨g1, _, g3⟩ := h.mem _ e
     obtain ⟨_, _, _, k4⟩ := hok.of_mem g1 g3
     exact ⟨g1, by simp only at g1 k4; rw [← k4]; exact i2⟩
  rw [← this.2]
  exact hok.self v hv
 ·intro hm
  refine ((hok.tour u hu).way (hok.self u hu) hm).mono fun a b ⟨hab, hm⟩ => ?_
  obtain ⟨g1, _, g3, _⟩ := hok.of_mem hu hm
  exact h.all a b g1 hab (by rw [g3]; exact hm)
theorem Bk.place {l : List St} (h : Bk Q l) (hok : Q.Ok) {u v : Nat} (hu : u < Q.n) (hv : v < Q.n) : (∃ k, placeL l u v = some k) ↔ u ≠ v ∧ (u, v) ∈ Q.row u := by
 constructor
 ·rintro ⟨k, hk⟩
  obtain ⟨p, hp, hp2, _⟩ := placeL_some hk
  obtain ⟨g1, g2, g3⟩ := h.mem p (List.mem_of_getElem? hp)
  rcases hp2 with rfl | rfl
  ·exact ⟨g2, g3⟩
  ·refine ⟨fun e => g2 e.symm, ?_⟩
   obtain ⟨_, _, _, k4⟩ := hok.of_mem g1 g3
   simp only at g3 k4
   rw [k4]
   exact (hok.tour v hv).pair g3
 ·rintro ⟨h1, h2⟩
  cases hk : placeL l u v with
  | some k => exact ⟨k, rfl⟩
  | none =>
   obtain ⟨n1, n2⟩ := placeL_none.1 hk
   rcases h.all u v hu h1 h2 with h | h
   ·exact absurd h n1
   ·exact absurd h n2
theorem Bk.start (n : Nat) : Bk (Tq.new n) [] where
 mem _ h := by cases h
 all a b _ hab hm := by
  simp only [Tq.new, List.mem_singleton, Prod.mk.injEq] at hm
  exact absurd hm.2.symm hab
 one := List.Pairwise.nil
theorem Bk.link {l : List St} (h : Bk Q l) (hok : Q.Ok) {u v : Nat} (hu : u < Q.n) (hv : v < Q.n) (hne : (v, v) ∉ Q.row u) : Bk (Q.lay (Q.linkRow u v)) (l ++ [(u, v)]) := by
 have huv : u ≠ v := by rintro rfl; exact hne (hok.self u hu)
 have mem := fun x => Tq.mem_linkRow (Q := Q) (v := v) (hok.self u hu) (x := x)
 have hrow : ∀ a, (Q.lay (Q.linkRow u v)).row a = if (a, a) ∈ Q.linkRow u v then Q.linkRow u v else Q.row a := fun _ => rfl
 have huu : (u, u) ∈ Q.linkRow u v := (mem _).2 (.inl (hok.self u hu))
 have hvv : (v, v) ∈ Q.linkRow u v := (mem _).2 (.inr (.inl (hok.self v hv)))
 refine ⟨fun p hp => ?_, fun a b ha hab hm => ?_, ?_⟩
 ·rcases List.mem_append.1 hp with hp | hp
  ·obtain ⟨g1, g2, g3⟩ := h.mem p hp
   refine ⟨g1, g2, ?_⟩
   rw [hrow]
   split
   ·rename_i hm
    rcases (mem _).1 hm with k | k | k | k
    ·exact (mem _).2 (.inl (by rw [← (hok.same u hu _ k).2]; exact g3))
    ·exact (mem _).2 (.inr (.inl (by rw [← (hok.same v hv _ k).2]; exact g3)))
    ·simp only [Prod.mk.injEq] at k; exact absurd (k.1.symm.trans k.2) huv
    ·simp only [Prod.mk.injEq] at k; exact absurd (k.2.symm.trans k.1) huv
   ·exact g3
  ·obtain rfl := List.mem_singleton.1 hp
   refine ⟨hu, huv, ?_⟩
   rw [hrow]
   simp only
   rw [if_pos huu]
   exact (mem _).2 (.inr (.inr (.inl rfl)))
 ·have ha : a < Q.n := ha
  have old : (a, b) ∈ Q.row a → (a, b) ∈ l ++ [(u, v)] ∨ (b, a) ∈ l ++ [(u, v)] := fun hm => (h.all a b ha hab hm).imp (fun h => List.mem_append_left _ h) fun h => List.mem_append_left _ h
  rw [hrow] at hm
  split at hm
  ·rcases (mem _).1 hm with k | k | k | k
   ·exact old (by rw [(hok.of_mem hu k).2.2.1]; exact k)
   ·exact old (by rw [(hok.of_mem hv k).2.2.1]; exact k)
   ·exact .inl (by rw [k]; simp)
   ·obtain ⟨rfl, rfl⟩ := Prod.mk.inj k
    exact .inr (by simp)
  ·exact old hm
 ·unfold OneL
  rw [List.pairwise_append]
  refine ⟨h.one, List.pairwise_singleton _ _, fun p hp q hq => ?_⟩
  obtain rfl := List.mem_singleton.1 hq
  obtain ⟨g1, g2, g3⟩ := h.mem p hp
  refine ⟨?_, ?_⟩
  ·rintro rfl
   exact hne (((hok.tour u hu).ends g3).2)
  ·rintro rfl
   simp only at g3
   obtain ⟨_, _, _, k4⟩ := hok.of_mem hv g3
   exact hne (by rw [k4]; exact hok.self v hv)
theorem Bk.cut {l : List St} (h : Bk Q l) (hok : Q.Ok) {u v k : Nat} {x y : St} (hu : u < Q.n) (huv : u ≠ v) (hk : placeL l u v = some k) (hxy : (x = (u, v) ∧ y = (v, u)) ∨ (x = (v, u) ∧ y = (u, v))) {l1 m l2 : List St} (hl : Q.row u = l1 ++ x :: (m ++ y :: l2)) :
  Bk (Q.cutTo u v m (l1 ++ l2)) (withoutL l (some k)) := by
 have hp : ∀ z : St, (z ≠ x ∧ z ≠ y) ↔ (z ≠ (u, v) ∧ z ≠ (v, u)) := fun z => by
  rcases hxy with ⟨rfl, rfl⟩ | ⟨rfl, rfl⟩
  ·exact Iff.rfl
  ·exact and_comm
 refine ⟨fun p hpm => ?_, fun a b ha hab hm => ?_, h.one.erase _⟩
 ·rw [mem_without h.one hk] at hpm
  obtain ⟨g1, g2, g3⟩ := h.mem p hpm.1
  exact ⟨g1, g2, (cut_rows hok hu huv hxy hl g1 p.2).2 ⟨g3, (hp _).2 hpm.2⟩⟩
 ·obtain ⟨g1, g2⟩ := (cut_rows hok hu huv hxy hl ha b).1 hm
  have g3 := (hp _).1 g2
  simp only [mem_without h.one hk]
  refine (h.all a b ha hab g1).imp (fun h => ⟨h, g3⟩) fun h => ⟨h, fun e => g3.2 ?_, fun e => g3.1 ?_⟩
  ·obtain ⟨rfl, rfl⟩ := Prod.mk.inj e; rfl
  ·obtain ⟨rfl, rfl⟩ := Prod.mk.inj e; rfl
structure Mk (Q : Tq) (on : List St) : Prop where
 sub : ∀ p ∈ on, Q.em p.1 p.2 = true
 all : ∀ a b, Q.em a b = true → (a, b) ∈ on ∨ (b, a) ∈ on
 one : OneL on
theorem Mk.none {on : List St} (h : Mk Q on) (hok : Q.Ok) {u v : Nat} (hno : ¬ (u ≠ v ∧ (u, v) ∈ Q.row u)) : placeL on u v = none := by
 rw [placeL_none]
 have e : Q.em u v = false := by
  cases e : Q.em u v with
  | false => rfl
  | true => exact absurd (hok.em u v e).2 hno
 refine ⟨fun hm => ?_, fun hm => ?_⟩
 ·have := h.sub _ hm
  simp only at this
  rw [e] at this; cases this
 ·have := h.sub _ hm
  simp only at this
  rw [hok.sym, e] at this; cases this
theorem Mk.gone {Q' : Tq} {on : List St} (h : Mk Q on) {u v : Nat} (hem : ∀ a b, Q'.em a b = if (a, b) = (u, v) ∨ (a, b) = (v, u) then false else Q.em a b) : Mk Q' (withoutL on (placeL on u v)) := by
 have hm : ∀ p, p ∈ withoutL on (placeL on u v) ↔ p ∈ on ∧ p ≠ (u, v) ∧ p ≠ (v, u) := fun p => by
  cases hk : placeL on u v with
  | some k => exact mem_without h.one hk p
  | none =>
   obtain ⟨n1, n2⟩ := placeL_none.1 hk
   exact ⟨fun hp => ⟨hp, fun e => n1 (by rw [← e]; exact hp), fun e => n2 (by rw [← e]; exact hp)⟩, fun hp => hp.1⟩
 refine ⟨fun p hp => ?_, fun a b hab => ?_, h.one.erase _⟩
 ·rw [hm] at hp
  rw [hem, if_neg (by rintro (e | e); exact hp.2.1 e; exact hp.2.2 e)]
  exact h.sub p hp.1
 ·rw [hem] at hab
  split at hab
  ·cases hab
  ·rename_i hne
   rw [not_or] at hne
   rw [hm, hm]
   refine (h.all a b hab).imp (fun g => ⟨g, hne⟩) fun g => ⟨g, fun e => hne.2 ?_, fun e => hne.1 ?_⟩
   ·obtain ⟨rfl, rfl⟩ := Prod.mk.inj e; rfl
   ·obtain ⟨rfl, rfl⟩ := Prod.mk.inj e; rfl
theorem Mk.mark {Q' : Tq} {on : List St} (h : Mk Q on) {u v : Nat} (huv : u ≠ v) (hem : ∀ a b, Q'.em a b = if (a, b) = (u, v) ∨ (a, b) = (v, u) then true else Q.em a b) : Mk Q' (withoutL on (placeL on u v) ++ [(u, v)]) := by
 have hg := Mk.gone (Q' := { Q with em := fun a b => if (a, b) = (u, v) ∨ (a, b) = (v, u) then false else Q.em a b }) h fun _ _ => rfl
 have hnot : ∀ p ∈ withoutL on (placeL on u v), p ≠ (u, v) ∧ p ≠ (v, u) := fun p hp => by
  have := hg.sub p hp
  simp only at this
  split at this
  ·cases this
  ·rename_i hne
   rw [not_or] at hne
   exact hne
 refine ⟨fun p hp => ?_, fun a b hab => ?_, ?_⟩
 ·rw [hem]
  rcases List.mem_append.1 hp with hp | hp
  ·have := hg.sub p hp
   simp only at this
   split at this
   ·cases this
   ·rename_i hne; rw [if_neg hne]; exact this
  ·obtain rfl := List.mem_singleton.1 hp
   exact if_pos (.inl rfl)
 ·rw [hem] at hab
  by_cases hp : (a, b) = (u, v) ∨ (a, b) = (v, u)
  ·rcases hp with e | e
   ·exact .inl (by rw [e]; simp)
   ·obtain ⟨rfl, rfl⟩ := Prod.mk.inj e
    exact .inr (by simp)
  ·rw [if_neg hp] at hab
   refine (hg.all a b ?_).imp (fun g => List.mem_append_left _ g) fun g => List.mem_append_left _ g
   simp only
   rw [if_neg hp]; exact hab
 ·unfold OneL
  rw [List.pairwise_append]
  refine ⟨hg.one, List.pairwise_singleton _ _, fun p hp q hq => ?_⟩
  obtain rfl := List.mem_singleton.1 hq
  exact hnot p hp
end
end Go.To
namespace Go.Proofs.Ytnlafhnbakipmaa
open Go Go.Hp Go.Sp Go.To
set_option linter.all false
set_option maxRecDepth 100000
set_option maxHeartbeats 1600000
structure TOp where
 kind : Int
 u : Int
 v : Int
 x : Int
 on : Bool
 other : Bool
structure TOp.Fit (o : TOp) : Prop where
 k : -9223372036854775808 ≤ o.kind ∧ o.kind ≤ 9223372036854775807
 u : -9223372036854775808 ≤ o.u ∧ o.u ≤ 9223372036854775807
 v : -9223372036854775808 ≤ o.v ∧ o.v ≤ 9223372036854775807
 x : -9223372036854775808 ≤ o.x ∧ o.x ≤ 9223372036854775807
def TOp.cells (o : TOp) : List Value := [.int .i64 o.kind, .int .i64 o.u, .int .i64 o.v, .int .i64 o.x, .bool o.on, .bool o.other]
def InTOps (H : Heap) (a : Option Addr) (len : Nat) (zs : Nat → TOp) : Prop :=
 ∀ i, i < len → ∃ p : Addr, a = some p ∧ (hcell H (p.add (i * 6)) = some (.int .i64 (zs i).kind) ∧ hcell H ⟨(p.add (i * 6)).block, (p.add (i * 6)).off + 1, none⟩ = some (.int .i64 (zs i).u) ∧ hcell H ⟨(p.add (i * 6)).block, (p.add (i * 6)).off + 2, none⟩ = some (.int .i64 (zs i).v) ∧
  hcell H ⟨(p.add (i * 6)).block, (p.add (i * 6)).off + 3, none⟩ = some (.int .i64 (zs i).x) ∧ hcell H ⟨(p.add (i * 6)).block, (p.add (i * 6)).off + 4, none⟩ = some (.bool (zs i).on) ∧ hcell H ⟨(p.add (i * 6)).block, (p.add (i * 6)).off + 5, none⟩ = some (.bool (zs i).other)) ∧ (zs i).Fit
theorem InTOps.frame {H H' : Heap} {a : Option Addr} {len : Nat} {zs : Nat → TOp} (h : InTOps H a len zs) (hf : Fr (fun _ => False) H H') : InTOps H' a len zs := fun i hi => by
 obtain ⟨p, h1, ⟨c0, c1, c2, c3, c4, c5⟩, h5⟩ := h i hi
 have mv : ∀ {a : Addr} {v : Value}, hcell H a = some v → hcell H' a = some v := fun h => by rw [hf.cell (hcell_lt h) (fun h => h)]; exact h
 exact ⟨p, h1, ⟨mv c0, mv c1, mv c2, mv c3, mv c4, mv c5⟩, h5⟩
theorem store6 {H : Heap} {b : Nat} {x0 x1 x2 x3 x4 x5 : Value} (hb : Blk H b [x0, x1, x2, x3, x4, x5]) (v0 v1 v2 v3 v4 v5 : Value) :
  Blk (hset (hset (hset (hset (hset (hset H ⟨b, 0, none⟩ v0) ⟨b, 1, none⟩ v1) ⟨b, 2, none⟩ v2) ⟨b, 3, none⟩ v3) ⟨b, 4, none⟩ v4) ⟨b, 5, none⟩ v5) b [v0, v1, v2, v3, v4, v5] ∧
   Fr (· = b) H (hset (hset (hset (hset (hset (hset H ⟨b, 0, none⟩ v0) ⟨b, 1, none⟩ v1) ⟨b, 2, none⟩ v2) ⟨b, 3, none⟩ v3) ⟨b, 4, none⟩ v4) ⟨b, 5, none⟩ v5) :=
 ⟨(((((hb.set_same 0 _).set_same 1 _).set_same 2 _).set_same 3 _).set_same 4 _).set_same 5 _,
  Fr.set (S := (· = b)) (Fr.set (S := (· = b)) (Fr.set (S := (· = b)) (Fr.set (S := (· = b)) (Fr.set (S := (· = b)) (Fr.set (S := (· = b)) (Fr.refl _ H) (.inl rfl) _) (.inl rfl) _) (.inl rfl) _) (.inl rfl) _) (.inl rfl) _) (.inl rfl) _⟩
structure MkS (H0 H : Heap) (t : Nat) (T : Nat → Prop) (Q : Tq) (Bl : Option Nat) (vl : Value) (l : List St) (Bo : Option Nat) (vo : Value) (on : List St) : Prop where
 ts : TS H0 H t T Q
 l : SR pairC 2 H Bl vl l
 o : SR pairC 2 H Bo vo on
 lb : ∀ b, Bl = some b → H0.size ≤ b ∧ ¬ T b
 ob : ∀ b, Bo = some b → H0.size ≤ b ∧ ¬ T b
 ap : ∀ b, Bl = some b → Bo ≠ some b
section
variable {H0 H H' : Heap} {t : Nat} {T T' : Nat → Prop} {Q Q' : Tq} {Bl Bo B' : Option Nat} {vl vo v' : Value} {l on l' : List St}
theorem MkS.op (h : MkS H0 H t T Q Bl vl l Bo vo on) (hM : ToM H' t T' Q') (hf : Fr T H H') (hT : ∀ b, T' b → T b ∨ H.size ≤ b) : MkS H0 H' t T' Q' Bl vl l Bo vo on where
 ts := h.ts.op hM hf hT
 l := h.l.frame hf fun g hg => (h.lb g hg).2
 o := h.o.frame hf fun g hg => (h.ob g hg).2
 lb b hb := ⟨(h.lb b hb).1, fun hx => by
  rcases hT b hx with e | e
  ·exact (h.lb b hb).2 e
  ·have := h.l.lt hb; omega⟩
 ob b hb := ⟨(h.ob b hb).1, fun hx => by
  rcases hT b hx with e | e
  ·exact (h.ob b hb).2 e
  ·have := h.o.lt hb; omega⟩
 ap := h.ap
theorem MkS.grow (h : MkS H0 H t T Q Bl vl l Bo vo on) (hf : Fr (fun _ => False) H H') : MkS H0 H' t T Q Bl vl l Bo vo on :=
 ⟨h.ts.grow hf, h.l.frame hf fun _ _ h => h, h.o.frame hf fun _ _ h => h, h.lb, h.ob, h.ap⟩
theorem MkS.setL (h : MkS H0 H t T Q Bl vl l Bo vo on) (hl : SR pairC 2 H' B' v' l') (hf : Fr (fun b => Bl = some b) H H') (hB : B' = Bl ∨ ∀ b, B' = some b → H.size ≤ b) : MkS H0 H' t T Q B' v' l' Bo vo on where
 ts := h.ts.frame hf (fun b hb => (h.lb b hb).1) fun b hb => (h.lb b hb).2
 l := hl
 o := h.o.frame hf fun g hg e => h.ap g e hg
 lb b hb := by
  rcases hB with rfl | e
  ·exact h.lb b hb
  ·have := e b hb
   exact ⟨Nat.le_trans h.ts.fr.size this, fun hx => by have := h.ts.to.lt hx; omega⟩
 ob := h.ob
 ap b hb := by
  rcases hB with rfl | e
  ·exact h.ap b hb
  ·intro hb'
   have := e b hb
   have := h.o.lt hb'
   omega
theorem MkS.setO (h : MkS H0 H t T Q Bl vl l Bo vo on) (hl : SR pairC 2 H' B' v' l') (hf : Fr (fun b => Bo = some b) H H') (hB : B' = Bo ∨ ∀ b, B' = some b → H.size ≤ b) : MkS H0 H' t T Q Bl vl l B' v' l' where
 ts := h.ts.frame hf (fun b hb => (h.ob b hb).1) fun b hb => (h.ob b hb).2
 l := h.l.frame hf fun g hg e => h.ap g hg e
 o := hl
 lb := h.lb
 ob b hb := by
  rcases hB with rfl | e
  ·exact h.ob b hb
  ·have := e b hb
   exact ⟨Nat.le_trans h.ts.fr.size this, fun hx => by have := h.ts.to.lt hx; omega⟩
 ap b hb := by
  rcases hB with rfl | e
  ·exact h.ap b hb
  ·intro hb'
   have := e b hb'
   have := h.l.lt hb
   omega
end
section
variable {H0 H : Heap} {e : Env} {t : Nat} {T : Nat → Prop} {Q : Tq} {l on : List St}
def plI (k : Option Nat) : Int := match k with | some i => (i : Int) | none => -1
theorem plI_none : plI none = -1 := rfl
theorem plI_some (k : Nat) : plI (some k) = (k : Int) := rfl
theorem plI_neg (k : Option Nat) : (plI k < 0) = (k = none) := by cases k <;> simp [plI]
theorem plI_pos (k : Option Nat) : (0 ≤ plI k) = (k ≠ none) := by cases k <;> simp [plI]
theorem if_or_comm {p q : Prop} [Decidable p] [Decidable q] {α : Type} {x y : α} : (if p ∨ q then x else y) = if q ∨ p then x else y := by
 by_cases h : p ∨ q
 ·rw [if_pos h, if_pos h.symm]
 ·rw [if_neg h, if_neg fun k => h k.symm]
theorem placeL_comm (l : List St) (u v : Nat) : placeL l u v = placeL l v u := by
 unfold placeL
 congr 1
 funext p
 exact decide_eq_decide.2 or_comm
theorem pick_nat {H : Heap} {c : Int} {n : Nat} {L : Value → Heap → Prop} (h : -9223372036854775808 ≤ c ∧ c ≤ 9223372036854775807) (hn : 0 < n) (fin : ∀ k : Nat, pickN c n = k → k < n → L (.int .i64 (k : Nat)) H) : CallsH Try.prog 10 #[.int .i64 c, .int .i64 (n : Nat)] H L := by
 refine Pkisthmuslaw04.pick_ok h.1 h.2 (by omega) ?_
 obtain ⟨u0, u1⟩ := pickN_range c (n := (n : Int)) (by omega)
 obtain ⟨u, eu⟩ := Int.eq_ofNat_of_zero_le u0
 rw [eu] at u1 ⊢
 exact fin u eu (Int.ofNat_lt.1 u1)
theorem pick_is {H : Heap} {c : Int} {n k : Nat} {L : Value → Heap → Prop} (h : -9223372036854775808 ≤ c ∧ c ≤ 9223372036854775807) (hn : 0 < n) (hk : pickN c n = k) (fin : L (.int .i64 (k : Nat)) H) : CallsH Try.prog 10 #[.int .i64 c, .int .i64 (n : Nat)] H L := by
 refine Pkisthmuslaw04.pick_ok h.1 h.2 (by omega) ?_
 rw [hk]
 exact fin
theorem place_at {u v : Nat} {B : Option Nat} {vl : Value} {L : Value → Heap → Prop} (hl : SR pairC 2 H B vl l) (hll : l.length ≤ 9223372036854775806) (fin : ∀ k, placeL l u v = k → L (.int .i64 (plI k)) H) :
  CallsH Try.prog 18 #[vl, .int .i64 (u : Nat), .int .i64 (v : Nat)] H L := by
 refine place_ok hl hll ?_
 have := fin _ rfl
 cases h : placeL l u v with
 | none => rw [h] at this; exact this
 | some k => rw [h] at this; exact this
theorem without_at {B : Option Nat} {vl : Value} {k : Option Nat} {L : Value → Heap → Prop} (hl : SR pairC 2 H B vl l) (hll : l.length ≤ 1000) (hk : ∀ i, k = some i → i < l.length)
  (fin : ∀ H' B' v', SR pairC 2 H' B' v' (withoutL l k) → Fr (fun _ => False) H H' → (B' = B ∨ ∀ b, B' = some b → H.size ≤ b) → L v' H') :
  CallsH Try.prog 22 #[vl, .int .i64 (plI k)] H L := by
 have := without_ok hl hll hk fin
 cases k with
 | none => exact this
 | some k => exact this
theorem placeL_lt {u v : Nat} {k : Option Nat} (h : placeL l u v = k) : ∀ i, k = some i → i < l.length := fun i hi => by
 rw [hi] at h
 obtain ⟨p, _, _, h3⟩ := placeL_some h
 exact h3
theorem withoutL_len (l : List St) (k : Option Nat) : (withoutL l k).length ≤ l.length := by
 cases k with
 | none => exact Nat.le_refl _
 | some k => simp only [withoutL, List.length_append, List.length_take, List.length_drop]; omega
theorem linkB {u v : Nat} {L : Value → Heap → Prop} (hM : ToM H t T Q) (hbk : Bk Q l) (hmk : Mk Q on) (hu : u < Q.n) (hv : v < Q.n)
  (fin : ∀ H' T' Q' (b : Int), ToM H' t T' Q' → Fr T H H' → (∀ b, T' b → T b ∨ H.size ≤ b) → Q'.n = Q.n → Q'.on = Q.on → Mk Q' on → ((b = 0 ∧ Bk Q' (l ++ [(u, v)])) ∨ (b = 41 ∧ Bk Q' l)) → L (.int .i64 b) H') :
  CallsH Try.prog 11 #[.pointer (some ⟨t, 0, none⟩), .int .i64 (u : Nat), .int .i64 (v : Nat)] H L := by
 refine tq_link hM fun H' T' hM' hf hT => ?_
 have ei : (inB Q.n (u : Int) && inB Q.n (v : Int)) = true := by rw [inB_of hu, inB_of hv]; rfl
 have e : Q.linkQ (u : Int) (v : Int) = if (v, v) ∈ Q.row u then (41, Q) else (0, Q.lay (Q.linkRow u v)) := by
  unfold Tq.linkQ
  rw [ei]; rfl
 by_cases hm : (v, v) ∈ Q.row u
 ·rw [if_pos hm] at e
  rw [e] at hM' ⊢
  exact fin _ _ _ _ hM' hf hT rfl rfl hmk (.inr ⟨rfl, hbk⟩)
 ·rw [if_neg hm] at e
  rw [e] at hM' ⊢
  exact fin _ _ _ _ hM' hf hT rfl rfl ⟨hmk.sub, hmk.all, hmk.one⟩ (.inl ⟨rfl, hbk.link hM.ok hu hv hm⟩)
theorem tq_cut_no {u v : Nat} {L : Value → Heap → Prop} (hM : ToM H t T Q) (hu : u < Q.n) (hv : v < Q.n) (hno : ¬ (u ≠ v ∧ (u, v) ∈ Q.row u)) (fin : ∀ H' T', ToM H' t T' Q → Fr T H H' → (∀ b, T' b → T b ∨ H.size ≤ b) → L (.int .i64 42) H') :
  CallsH Try.prog 16 #[.pointer (some ⟨t, 0, none⟩), .int .i64 (u : Nat), .int .i64 (v : Nat)] H L := by
 obtain ⟨f, Tf, S, B, c, r1, r2, st, pr, h, hR, h3, h4⟩ := hM
 have hn : st ((u : Int), (v : Int)) = none := by
  cases hs : st ((u : Int), (v : Int)) with
  | none => rfl
  | some k =>
   obtain ⟨u', v', g1, g2, g3, g4, g5⟩ := hR.sto _ k hs
   obtain ⟨g6, g7⟩ := Prod.mk.inj g1
   obtain rfl := Int.natCast_inj.1 g6
   obtain rfl := Int.natCast_inj.1 g7
   exact absurd ⟨g2, g4⟩ hno
 refine call16 (by simp) ?_
 simp only [Try.f16, Option.getD_some]
 repeat' (first|(with_reducible first|refine jA ?_|(refine hK _ _ ?_;clear hK K)|refine jJ fun K hK=>?_|refine jK ?_|refine jL ?_|refine jM ?_|refine jN ?_|refine jO ?_|refine jP ?_|refine jQ ?_|(refine jB ?_;clear hK K)|(refine jC ?_;clear hK K)|refine jD ?_|refine jE ?_|refine jG ?_|refine jH ?_|refine jI ?_)|((with_reducible refine jR ?hq ?_);case hq=>rfl)|((first|(with_reducible first|refine jS fun K hK=>?_|refine jT ?_|refine jU ?_)|((with_reducible refine jV ?hy fun K hK=>?_);case hy=>rfl));simp only [go_sem, Nat.reduceEqDiff, Nat.reduceAdd, Nat.reduceMul, Nat.reduceLeDiff, Nat.reduceLT, Int.reduceLT, Int.reduceLE, Int.reduceEq, Int.reduceNeg, Int.reduceToNat, Nat.reducePow, reduceIte, reduceCtorEq])|((with_reducible first|refine jW ?hy ?_|refine jY ?hy ?_);case hy=>rfl)|((with_reducible first|refine jX ?hy ?_|refine jZ ?hy ?_);case hy=>rfl)|((with_reducible refine jF ?hy ?_);case hy=>decide))
 refine has2 h fun H1 h1 hf1 => ?_
 rw [inB_of hu, inB_of hv]
 have d2 := h1.hd.cellOf (i := 2) rfl
 repeat' (first|(with_reducible first|refine jA ?_|(refine hK _ _ ?_;clear hK K)|refine jJ fun K hK=>?_|refine jK ?_|refine jL ?_|refine jM ?_|refine jN ?_|refine jO ?_|refine jP ?_|refine jQ ?_|(refine jB ?_;clear hK K)|(refine jC ?_;clear hK K)|refine jD ?_|refine jE ?_|refine jG ?_|refine jH ?_|refine jI ?_)|((with_reducible refine jR ?hq ?_);case hq=>rfl)|((first|(with_reducible first|refine jS fun K hK=>?_|refine jT ?_|refine jU ?_)|((with_reducible refine jV ?hy fun K hK=>?_);case hy=>rfl));simp only [go_sem, Nat.reduceEqDiff, Nat.reduceAdd, Nat.reduceMul, Nat.reduceLeDiff, Nat.reduceLT, Int.reduceLT, Int.reduceLE, Int.reduceEq, Int.reduceNeg, Int.reduceToNat, Nat.reducePow, reduceIte, reduceCtorEq, Bool.and_self, d2])|((with_reducible first|refine jW ?hy ?_|refine jY ?hy ?_);case hy=>rfl)|((with_reducible first|refine jX ?hy ?_|refine jZ ?hy ?_);case hy=>rfl)|((with_reducible refine jF ?hy ?_);case hy=>decide))
 refine rd_lookupQ (vf := natV) mapT_steps kArr h1.m1.choose_spec ((u : Int), (v : Int)) true ?_
 rw [hn]
 simp only [Option.map_none, gotV, if_true]
 repeat' (first|(with_reducible first|refine jA ?_|(refine hK _ _ ?_;clear hK K)|refine jJ fun K hK=>?_|refine jK ?_|refine jL ?_|refine jM ?_|refine jN ?_|refine jO ?_|refine jP ?_|refine jQ ?_|(refine jB ?_;clear hK K)|(refine jC ?_;clear hK K)|refine jD ?_|refine jE ?_|refine jG ?_|refine jH ?_|refine jI ?_)|((with_reducible refine jR ?hq ?_);case hq=>rfl)|((first|(with_reducible first|refine jS fun K hK=>?_|refine jT ?_|refine jU ?_)|((with_reducible refine jV ?hy fun K hK=>?_);case hy=>rfl));simp only [go_sem, Nat.reduceEqDiff, Nat.reduceAdd, Nat.reduceMul, Nat.reduceLeDiff, Nat.reduceLT, Int.reduceLT, Int.reduceLE, Int.reduceEq, Int.reduceNeg, Int.reduceToNat, Nat.reducePow, reduceIte, reduceCtorEq])|((with_reducible first|refine jW ?hy ?_|refine jY ?hy ?_);case hy=>rfl)|((with_reducible first|refine jX ?hy ?_|refine jZ ?hy ?_);case hy=>rfl)|((with_reducible refine jF ?hy ?_);case hy=>decide))
 exact ToM.after h3 h4 h1 hR (hf1.mono fun _ _ h => h.elim) (fun b hb => .inl hb) fun T'' a b c => fin _ T'' a b c
theorem cutB {u v : Nat} {pl po : Option Nat} {L : Value → Heap → Prop} (hM : ToM H t T Q) (hbk : Bk Q l) (hmk : Mk Q on) (hu : u < Q.n) (hv : v < Q.n) (hpl : placeL l u v = pl) (hpo : placeL on u v = po)
  (fin : ∀ H' T' Q' (b : Int), ToM H' t T' Q' → Fr T H H' → (∀ b, T' b → T b ∨ H.size ≤ b) → Q'.n = Q.n → Q'.on = Q.on → Bk Q' (withoutL l pl) → Mk Q' (withoutL on po) → ((b = 0 ∧ pl ≠ none) ∨ (b = 42 ∧ pl = none)) → L (.int .i64 b) H') :
  CallsH Try.prog 16 #[.pointer (some ⟨t, 0, none⟩), .int .i64 (u : Nat), .int .i64 (v : Nat)] H L := by
 have hp := hbk.place hM.ok hu hv
 rw [hpl] at hp
 cases pl with
 | some k =>
  obtain ⟨h1, h2⟩ := hp.1 ⟨k, rfl⟩
  refine t_cut hM hu hv h1 h2 fun H' T' x y l1 m l2 hxy hl hM' hf hT => ?_
  refine fin _ _ _ _ hM' hf hT rfl rfl (hbk.cut hM.ok hu h1 hpl hxy hl) ?_ (.inl ⟨rfl, fun h => by cases h⟩)
  rw [← hpo]
  exact hmk.gone fun a b => rfl
 | none =>
  have hno : ¬ (u ≠ v ∧ (u, v) ∈ Q.row u) := fun h => by obtain ⟨k, hk⟩ := hp.2 h; cases hk
  refine tq_cut_no hM hu hv hno fun H' T' hM' hf hT => ?_
  have := hmk.none hM.ok hno
  rw [hpo] at this
  subst this
  exact fin _ _ _ _ hM' hf hT rfl rfl hbk hmk (.inr ⟨rfl, rfl⟩)
theorem markB {u v : Nat} {z : Bool} {pl po : Option Nat} {L : Value → Heap → Prop} (hM : ToM H t T Q) (hbk : Bk Q l) (hmk : Mk Q on) (hu : u < Q.n) (hv : v < Q.n) (hpl : placeL l u v = pl) (hpo : placeL on u v = po)
  (fin : ∀ H' T' Q' (b : Int), ToM H' t T' Q' → Fr T H H' → (∀ b, T' b → T b ∨ H.size ≤ b) → Q'.n = Q.n → Q'.on = Q.on → Bk Q' l → (z = true ∧ pl ≠ none → Mk Q' (withoutL on po ++ [(u, v)])) → (¬ (z = true ∧ pl ≠ none) → Mk Q' (withoutL on po)) → ((b = 0 ∧ pl ≠ none) ∨ (b = 42 ∧ pl = none)) → L (.int .i64 b) H') :
  CallsH Try.prog 23 #[.pointer (some ⟨t, 0, none⟩), .int .i64 (v : Nat), .int .i64 (u : Nat), .bool z] H L := by
 have hp := hbk.place hM.ok hv hu
 rw [placeL_comm, hpl] at hp
 refine tq_markE hM fun H' T' hM' hf hT => ?_
 have ei : (inB Q.n (v : Int) && inB Q.n (u : Int)) = true := by rw [inB_of hu, inB_of hv]; rfl
 have e : Q.markEQ (v : Int) (u : Int) z = if (v : Int) ≠ (u : Int) ∧ (v, u) ∈ Q.row v then (0, { Q with em := fun a c => if (a, c) = (v, u) ∨ (a, c) = (u, v) then z else Q.em a c }) else (42, Q) := by
  unfold Tq.markEQ
  rw [ei]; rfl
 cases pl with
 | some k =>
  obtain ⟨h1, h2⟩ := hp.1 ⟨k, rfl⟩
  rw [if_pos ⟨by omega, h2⟩] at e
  rw [e] at hM' ⊢
  refine fin _ _ _ _ hM' hf hT rfl rfl ⟨hbk.mem, hbk.all, hbk.one⟩ (fun hz => ?_) (fun hz => ?_) (.inl ⟨rfl, fun h => by cases h⟩)
  ·rw [← hpo]
   refine hmk.mark (fun e => h1 e.symm) fun a b => ?_
   simp only [hz.1]
   exact if_or_comm
  ·have hz' : z = false := by
    cases z with
    | false => rfl
    | true => exact absurd ⟨rfl, fun h => by cases h⟩ hz
   rw [← hpo]
   refine hmk.gone fun a b => ?_
   simp only [hz']
   exact if_or_comm
 | none =>
  have hno : ¬ (v ≠ u ∧ (v, u) ∈ Q.row v) := fun h => by obtain ⟨k, hk⟩ := hp.2 h; cases hk
  rw [if_neg (fun h => hno ⟨fun e => h.1 (by rw [e]), h.2⟩)] at e
  rw [e] at hM' ⊢
  have hno2 : ¬ (u ≠ v ∧ (u, v) ∈ Q.row u) := fun h => by
   have := (hbk.place hM.ok hu hv).2 h
   rw [hpl] at this
   obtain ⟨k, hk⟩ := this
   cases hk
  have := hmk.none hM.ok hno2
  rw [hpo] at this
  subst this
  exact fin _ _ _ _ hM' hf hT rfl rfl hbk (fun h => absurd rfl h.2) (fun _ => hmk) (.inr ⟨rfl, rfl⟩)
end
end Go.Proofs.Ytnlafhnbakipmaa
