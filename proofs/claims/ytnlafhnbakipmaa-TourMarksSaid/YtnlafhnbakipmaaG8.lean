/-
  TourMarks: the script is played.
  TourMarks: what it looks at last.
  TourMarks, whole.
  What a law's walk is told of slices that came in.
  What a law's walk is told of slices of calls that came in.
-/
import Derived.Test.YtnlafhnbakipmaaG7
import Derived.Test.YtnlafhnbakipmaaHpN
import Derived.WalkKit
import Derived.ProofKit
import Derived.OpenShut
import Derived.ShutString
import Derived.ChangeOld
import Derived.Below
import Derived.Deep.Fields
namespace Go.Proofs.Ytnlafhnbakipmaa
open Go Go.Hp Go.Sp Go.To
set_option linter.all false
set_option maxRecDepth 100000
set_option maxHeartbeats 1600000
section
variable {H0 H : Heap} {e : Env} {Z : HX → Env → Heap → Prop} {t : Nat} {T : Nat → Prop} {Q : Tq}
theorem maA {a : Option Addr} {len cap n : Nat} {zs : Nat → TOp} (hin : InTOps H0 a len zs) (hlen : len ≤ 9223372036854775807) (hn1 : 2 ≤ n) (hn : n ≤ 64) (hS : TS H0 H t T (Tq.new n))
  (e0 : e 0 = .int .i64 (n : Nat)) (e1 : e 1 = .slice a len cap) (e6 : e 6 = .pointer (some ⟨t, 0, none⟩)) (e8 : e 8 = .slice none 0 0) (e9 : e 9 = .slice none 0 0) (e10 : e 10 = .int .i64 0)
  (hQ : ∀ e' H' T' Q' Bl vl l Bo vo on, e' 0 = .int .i64 (n : Nat) → e' 6 = .pointer (some ⟨t, 0, none⟩) → e' 8 = vl → e' 9 = vo → MkS H0 H' t T' Q' Bl vl l Bo vo on → Bk Q' l → Mk Q' on → Q'.n = n → (∀ v, Q'.on v = false) → l.length ≤ 120 → on.length ≤ 120 → Z .normal e' H') :
  codeX Try.prog [] (loopAt Try.f6.body 0) (blockQ 0 Z) e H := by
 refine x_loop (fun m e' H' => ∃ (i : Nat) (T' : Nat → Prop) (Q' : Tq) (Bl : Option Nat) (vl : Value) (l : List St) (Bo : Option Nat) (vo : Value) (on : List St), e' 10 = .int .i64 (i : Nat) ∧ e' 8 = vl ∧ e' 9 = vo ∧ i ≤ 120 ∧ MkS H0 H' t T' Q' Bl vl l Bo vo on ∧ Bk Q' l ∧ Mk Q' on ∧ Q'.n = n ∧ (∀ v, Q'.on v = false) ∧ l.length ≤ i ∧ on.length ≤ i ∧ m = 120 - i) 120
  ⟨0, T, Tq.new n, none, _, [], none, _, [], e10, e8, e9, by omega, ⟨hS, SR.nil _ _ _, SR.nil _ _ _, fun b h => (by cases h), fun b h => (by cases h), fun b h => (by cases h)⟩, Bk.start n, ⟨fun _ h => (by cases h), fun _ _ h => (by cases h), List.Pairwise.nil⟩, rfl, fun _ => rfl, Nat.le_refl _, Nat.le_refl _, rfl⟩ ?_
 rintro m e2 H1 ⟨i, T1, Q1, Bl, vl, l, Bo, vo, on, i10, i8, i9, hi, hM1, hbk, hmk, hQn, hoffv, hll, hol, rfl⟩ hoff
 have i0 := (hoff 0 rfl).trans e0
 have i1 := (hoff 1 rfl).trans e1
 have i6 := (hoff 6 rfl).trans e6
 clear hoff e0 e1 e6 e8 e9 e10
 by_cases hgo : i < len ∧ i < 120
 ·have t1 : (i < len) = True := by simp [hgo.1]
  have t2 : ((i : Int) < 120) = True := by simp; omega
  have t2' : (i < 120) = True := by simp; omega
  obtain ⟨p, rfl, ⟨c0, c1, c2, c3, c4, c5⟩, hfit⟩ := (hin.frame hM1.ts.fr) i hgo.1
  have hok1 := hM1.ts.to.ok
  have bn := Blk.new H1 [.int .i64 0, .int .i64 0, .int .i64 0, .int .i64 0, .bool false, .bool false] 44
  have fn : Fr (fun _ => False) H1 (H1.push (.cells #[.int .i64 0, .int .i64 0, .int .i64 0, .int .i64 0, .bool false, .bool false] 44)) := (Fr.refl _ H1).push _
  have w0 := bn.okW (i := 0) (by simp)
  have w1 := bn.okW (i := 1) (by simp)
  have w2 := bn.okW (i := 2) (by simp)
  have w3 := bn.okW (i := 3) (by simp)
  have w4 := bn.okW (i := 4) (by simp)
  have w5 := bn.okW (i := 5) (by simp)
  repeat' (first|(with_reducible first|refine jA ?_|(refine hK _ _ ?_;clear hK K)|refine jJ fun K hK=>?_|refine jK ?_|refine jL ?_|refine jM ?_|refine jN ?_|refine jO ?_|refine jP ?_|refine jQ ?_|(refine jB ?_;clear hK K)|(refine jC ?_;clear hK K)|refine jD ?_|refine jE ?_|refine jG ?_|refine jH ?_|refine jI ?_)|((with_reducible refine jR ?hq ?_);case hq=>rfl)|((first|(with_reducible first|refine jS fun K hK=>?_|refine jT ?_|refine jU ?_)|((with_reducible refine jV ?hy fun K hK=>?_);case hy=>rfl));simp only [go_sem, Nat.reduceEqDiff, Nat.reduceAdd, Nat.reduceMul, Nat.reduceLeDiff, Nat.reduceLT, Int.reduceLT, Int.reduceLE, Int.reduceEq, Int.reduceNeg, Int.reduceToNat, Nat.reducePow, reduceIte, reduceCtorEq, i0, i1, i6, i10, t1, t2, t2', c0, c1, c2, c3, c4, c5, w0, w1, w2, w3, w4, w5, okW_hset])|((with_reducible first|refine jW ?hy ?_|refine jY ?hy ?_);case hy=>rfl)|((with_reducible first|refine jX ?hy ?_|refine jZ ?hy ?_);case hy=>rfl)|((with_reducible refine jF ?hy ?_);case hy=>decide))
  obtain ⟨b2, f2⟩ := store6 bn (.int .i64 (zs i).kind) (.int .i64 (zs i).u) (.int .i64 (zs i).v) (.int .i64 (zs i).x) (.bool (zs i).on) (.bool (zs i).other)
  generalize hset _ _ _ = H2 at b2 f2 ⊢
  have f12 : Fr (fun _ => False) H1 H2 := fn.trans' f2 fun b hb (e : b = H1.size) => by omega
  have hM2 := hM1.grow f12
  have k0 := b2.cellOf (i := 0) rfl
  have k1 := b2.cellOf (i := 1) rfl
  have k2 := b2.cellOf (i := 2) rfl
  have k3 := b2.cellOf (i := 3) rfl
  simp only [go_sem, Nat.reduceEqDiff, Nat.reduceAdd, Nat.reduceMul, Nat.reduceLeDiff, Nat.reduceLT, Int.reduceLT, Int.reduceLE, Int.reduceEq, Int.reduceNeg, Int.reduceToNat, Nat.reducePow, reduceIte, reduceCtorEq, k1]
  repeat' (first|(with_reducible first|refine jA ?_|(refine hK _ _ ?_;clear hK K)|refine jJ fun K hK=>?_|refine jK ?_|refine jL ?_|refine jM ?_|refine jN ?_|refine jO ?_|refine jP ?_|refine jQ ?_|(refine jB ?_;clear hK K)|(refine jC ?_;clear hK K)|refine jD ?_|refine jE ?_|refine jG ?_|refine jH ?_|refine jI ?_)|((with_reducible refine jR ?hq ?_);case hq=>rfl)|((first|(with_reducible first|refine jS fun K hK=>?_|refine jT ?_|refine jU ?_)|((with_reducible refine jV ?hy fun K hK=>?_);case hy=>rfl));simp only [go_sem, Nat.reduceEqDiff, Nat.reduceAdd, Nat.reduceMul, Nat.reduceLeDiff, Nat.reduceLT, Int.reduceLT, Int.reduceLE, Int.reduceEq, Int.reduceNeg, Int.reduceToNat, Nat.reducePow, reduceIte, reduceCtorEq, k1, i0])|((with_reducible first|refine jW ?hy ?_|refine jY ?hy ?_);case hy=>rfl)|((with_reducible first|refine jX ?hy ?_|refine jZ ?hy ?_);case hy=>rfl)|((with_reducible refine jF ?hy ?_);case hy=>decide))
  refine pick_nat hfit.u (by omega) fun u _ hun => ?_
  repeat' (first|(with_reducible first|refine jA ?_|(refine hK _ _ ?_;clear hK K)|refine jJ fun K hK=>?_|refine jK ?_|refine jL ?_|refine jM ?_|refine jN ?_|refine jO ?_|refine jP ?_|refine jQ ?_|(refine jB ?_;clear hK K)|(refine jC ?_;clear hK K)|refine jD ?_|refine jE ?_|refine jG ?_|refine jH ?_|refine jI ?_)|((with_reducible refine jR ?hq ?_);case hq=>rfl)|((first|(with_reducible first|refine jS fun K hK=>?_|refine jT ?_|refine jU ?_)|((with_reducible refine jV ?hy fun K hK=>?_);case hy=>rfl));simp only [go_sem, Nat.reduceEqDiff, Nat.reduceAdd, Nat.reduceMul, Nat.reduceLeDiff, Nat.reduceLT, Int.reduceLT, Int.reduceLE, Int.reduceEq, Int.reduceNeg, Int.reduceToNat, Nat.reducePow, reduceIte, reduceCtorEq, k2, i0])|((with_reducible first|refine jW ?hy ?_|refine jY ?hy ?_);case hy=>rfl)|((with_reducible first|refine jX ?hy ?_|refine jZ ?hy ?_);case hy=>rfl)|((with_reducible refine jF ?hy ?_);case hy=>decide))
  refine pick_nat hfit.v (by omega) fun v _ hvn => ?_
  obtain ⟨al, cl, rfl⟩ := hM2.l.slice
  obtain ⟨ao, co, rfl⟩ := hM2.o.slice
  repeat' (first|(with_reducible first|refine jA ?_|(refine hK _ _ ?_;clear hK K)|refine jJ fun K hK=>?_|refine jK ?_|refine jL ?_|refine jM ?_|refine jN ?_|refine jO ?_|refine jP ?_|refine jQ ?_|(refine jB ?_;clear hK K)|(refine jC ?_;clear hK K)|refine jD ?_|refine jE ?_|refine jG ?_|refine jH ?_|refine jI ?_)|((with_reducible refine jR ?hq ?_);case hq=>rfl)|((first|(with_reducible first|refine jS fun K hK=>?_|refine jT ?_|refine jU ?_)|((with_reducible refine jV ?hy fun K hK=>?_);case hy=>rfl));simp only [go_sem, Nat.reduceEqDiff, Nat.reduceAdd, Nat.reduceMul, Nat.reduceLeDiff, Nat.reduceLT, Int.reduceLT, Int.reduceLE, Int.reduceEq, Int.reduceNeg, Int.reduceToNat, Nat.reducePow, reduceIte, reduceCtorEq, i0, i6, i8, i9])|((with_reducible first|refine jW ?hy ?_|refine jY ?hy ?_);case hy=>rfl)|((with_reducible first|refine jX ?hy ?_|refine jZ ?hy ?_);case hy=>rfl)|((with_reducible refine jF ?hy ?_);case hy=>decide))
  rename_i KT hKT
  have tail : ∀ (u v : Nat) (e' : Env) (H' : Heap), u < n → v < n → e' 0 = .int .i64 (n : Nat) → e' 1 = .slice (some p) len cap → e' 6 = .pointer (some ⟨t, 0, none⟩) → e' 8 = .slice al l.length cl → e' 9 = .slice ao on.length co → e' 10 = .int .i64 (i : Nat) → e' 11 = .pointer (some ⟨H1.size, 0, none⟩) → e' 12 = .int .i64 (u : Nat) → e' 13 = .int .i64 (v : Nat) →
    MkS H0 H' t T1 Q1 Bl (.slice al l.length cl) l Bo (.slice ao on.length co) on → Blk H' H1.size [.int .i64 (zs i).kind, .int .i64 (zs i).u, .int .i64 (zs i).v, .int .i64 (zs i).x, .bool (zs i).on, .bool (zs i).other] → KT e' H' := by
   clear hK K
   intro u v e' H' hun hvn j0 j1 j6 j8 j9 j10 j11 j12 j13 hM' b'
   refine hKT _ _ ?_
   clear hKT KT
   have hop : ¬ T1 H1.size := fun hx => by have := hM1.ts.to.lt hx; omega
   have ew : IntKind.i64.wrap ((i : Int) + 1) = ((i + 1 : Nat) : Int) := by rw [wrap_i64] <;> omega
   have k0 := b'.cellOf (i := 0) rfl
   repeat' (first|(with_reducible first|refine jA ?_|(refine hK _ _ ?_;clear hK K)|refine jJ fun K hK=>?_|refine jK ?_|refine jL ?_|refine jM ?_|refine jN ?_|refine jO ?_|refine jP ?_|refine jQ ?_|(refine jB ?_;clear hK K)|(refine jC ?_;clear hK K)|refine jD ?_|refine jE ?_|refine jG ?_|refine jH ?_|refine jI ?_)|((with_reducible refine jR ?hq ?_);case hq=>rfl)|((first|(with_reducible first|refine jS fun K hK=>?_|refine jT ?_|refine jU ?_)|((with_reducible refine jV ?hy fun K hK=>?_);case hy=>rfl));simp only [go_sem, Nat.reduceEqDiff, Nat.reduceAdd, Nat.reduceMul, Nat.reduceLeDiff, Nat.reduceLT, Int.reduceLT, Int.reduceLE, Int.reduceEq, Int.reduceNeg, Int.reduceToNat, Nat.reducePow, reduceIte, reduceCtorEq, j0, j1, j6, j8, j9, j10, j11, j12, j13])|((with_reducible first|refine jW ?hy ?_|refine jY ?hy ?_);case hy=>rfl)|((with_reducible first|refine jX ?hy ?_|refine jZ ?hy ?_);case hy=>rfl)|((with_reducible refine jF ?hy ?_);case hy=>decide))
   refine place_at hM'.l (by omega) fun pl hpl => ?_
   repeat' (first|(with_reducible first|refine jA ?_|(refine hK _ _ ?_;clear hK K)|refine jJ fun K hK=>?_|refine jK ?_|refine jL ?_|refine jM ?_|refine jN ?_|refine jO ?_|refine jP ?_|refine jQ ?_|(refine jB ?_;clear hK K)|(refine jC ?_;clear hK K)|refine jD ?_|refine jE ?_|refine jG ?_|refine jH ?_|refine jI ?_)|((with_reducible refine jR ?hq ?_);case hq=>rfl)|((first|(with_reducible first|refine jS fun K hK=>?_|refine jT ?_|refine jU ?_)|((with_reducible refine jV ?hy fun K hK=>?_);case hy=>rfl));simp only [go_sem, Nat.reduceEqDiff, Nat.reduceAdd, Nat.reduceMul, Nat.reduceLeDiff, Nat.reduceLT, Int.reduceLT, Int.reduceLE, Int.reduceEq, Int.reduceNeg, Int.reduceToNat, Nat.reducePow, reduceIte, reduceCtorEq, j0, j1, j6, j8, j9, j10, j11, j12, j13])|((with_reducible first|refine jW ?hy ?_|refine jY ?hy ?_);case hy=>rfl)|((with_reducible first|refine jX ?hy ?_|refine jZ ?hy ?_);case hy=>rfl)|((with_reducible refine jF ?hy ?_);case hy=>decide))
   refine place_at hM'.o (by omega) fun po hpo => ?_
   repeat' (first|(with_reducible first|refine jA ?_|(refine hK _ _ ?_;clear hK K)|refine jJ fun K hK=>?_|refine jK ?_|refine jL ?_|refine jM ?_|refine jN ?_|refine jO ?_|refine jP ?_|refine jQ ?_|(refine jB ?_;clear hK K)|(refine jC ?_;clear hK K)|refine jD ?_|refine jE ?_|refine jG ?_|refine jH ?_|refine jI ?_)|((with_reducible refine jR ?hq ?_);case hq=>rfl)|((first|(with_reducible first|refine jS fun K hK=>?_|refine jT ?_|refine jU ?_)|((with_reducible refine jV ?hy fun K hK=>?_);case hy=>rfl));simp only [go_sem, Nat.reduceEqDiff, Nat.reduceAdd, Nat.reduceMul, Nat.reduceLeDiff, Nat.reduceLT, Int.reduceLT, Int.reduceLE, Int.reduceEq, Int.reduceNeg, Int.reduceToNat, Nat.reducePow, reduceIte, reduceCtorEq, j0, j1, j6, j8, j9, j10, j11, j12, j13, k0])|((with_reducible first|refine jW ?hy ?_|refine jY ?hy ?_);case hy=>rfl)|((with_reducible first|refine jX ?hy ?_|refine jZ ?hy ?_);case hy=>rfl)|((with_reducible refine jF ?hy ?_);case hy=>decide))
   refine pick_nat (n := 3) hfit.k (by omega) fun kd hkd hk3 => ?_
   have hu' : u < Q1.n := by omega
   have hv' : v < Q1.n := by omega
   by_cases hA : kd = 0 ∧ pl = none
   ·have s1 : ((kd : Int) == 0) = true := by simp [hA.1]
    have s2 : (plI pl < 0) = True := by rw [plI_neg]; simp [hA.2]
    repeat' (first|(with_reducible first|refine jA ?_|(refine hK _ _ ?_;clear hK K)|refine jJ fun K hK=>?_|refine jK ?_|refine jL ?_|refine jM ?_|refine jN ?_|refine jO ?_|refine jP ?_|refine jQ ?_|(refine jB ?_;clear hK K)|(refine jC ?_;clear hK K)|refine jD ?_|refine jE ?_|refine jG ?_|refine jH ?_|refine jI ?_)|((with_reducible refine jR ?hq ?_);case hq=>rfl)|((first|(with_reducible first|refine jS fun K hK=>?_|refine jT ?_|refine jU ?_)|((with_reducible refine jV ?hy fun K hK=>?_);case hy=>rfl));simp only [go_sem, Nat.reduceEqDiff, Nat.reduceAdd, Nat.reduceMul, Nat.reduceLeDiff, Nat.reduceLT, Int.reduceLT, Int.reduceLE, Int.reduceEq, Int.reduceNeg, Int.reduceToNat, Nat.reducePow, reduceIte, reduceCtorEq, j0, j1, j6, j8, j9, j10, j11, j12, j13, s1, s2])|((with_reducible first|refine jW ?hy ?_|refine jY ?hy ?_);case hy=>rfl)|((with_reducible first|refine jX ?hy ?_|refine jZ ?hy ?_);case hy=>rfl)|((with_reducible refine jF ?hy ?_);case hy=>decide))
    refine linkB hM'.ts.to hbk hmk hu' hv' fun H3 T3 Q3 b hM3 hf3 hT3 hn3 hon3 hmk3 hb => ?_
    have hS3 := hM'.op hM3 hf3 hT3
    rcases hb with ⟨rfl, hbk3⟩ | ⟨rfl, hbk3⟩
    ·have z1 : ((0 : Int) == 0) = true := rfl
     repeat' (first|(with_reducible first|refine jA ?_|(refine hK _ _ ?_;clear hK K)|refine jJ fun K hK=>?_|refine jK ?_|refine jL ?_|refine jM ?_|refine jN ?_|refine jO ?_|refine jP ?_|refine jQ ?_|(refine jB ?_;clear hK K)|(refine jC ?_;clear hK K)|refine jD ?_|refine jE ?_|refine jG ?_|refine jH ?_|refine jI ?_)|((with_reducible refine jR ?hq ?_);case hq=>rfl)|((first|(with_reducible first|refine jS fun K hK=>?_|refine jT ?_|refine jU ?_)|((with_reducible refine jV ?hy fun K hK=>?_);case hy=>rfl));simp only [go_sem, Nat.reduceEqDiff, Nat.reduceAdd, Nat.reduceMul, Nat.reduceLeDiff, Nat.reduceLT, Int.reduceLT, Int.reduceLE, Int.reduceEq, Int.reduceNeg, Int.reduceToNat, Nat.reducePow, reduceIte, reduceCtorEq, j0, j1, j6, j8, j9, j10, j11, j12, j13, z1])|((with_reducible first|refine jW ?hy ?_|refine jY ?hy ?_);case hy=>rfl)|((with_reducible first|refine jX ?hy ?_|refine jZ ?hy ?_);case hy=>rfl)|((with_reducible refine jF ?hy ?_);case hy=>decide))
     refine append_sr pairC_len pairC_plain (x := (u, v)) elems40 tl47 hS3.l rfl (by decide) (by simp; omega) rfl fun v4 H4 B4 hs4 hf4 hB4 => ?_
     have hS4 := hS3.setL hs4 hf4 (hB4.imp id fun ⟨g, hg, hge⟩ b hb => by rw [hg] at hb; obtain rfl := Option.some.inj hb; exact hge)
     repeat' (first|(with_reducible first|refine jA ?_|(refine hK _ _ ?_;clear hK K)|refine jJ fun K hK=>?_|refine jK ?_|refine jL ?_|refine jM ?_|refine jN ?_|refine jO ?_|refine jP ?_|refine jQ ?_|(refine jB ?_;clear hK K)|(refine jC ?_;clear hK K)|refine jD ?_|refine jE ?_|refine jG ?_|refine jH ?_|refine jI ?_)|((with_reducible refine jR ?hq ?_);case hq=>rfl)|((first|(with_reducible first|refine jS fun K hK=>?_|refine jT ?_|refine jU ?_)|((with_reducible refine jV ?hy fun K hK=>?_);case hy=>rfl));simp only [go_sem, Nat.reduceEqDiff, Nat.reduceAdd, Nat.reduceMul, Nat.reduceLeDiff, Nat.reduceLT, Int.reduceLT, Int.reduceLE, Int.reduceEq, Int.reduceNeg, Int.reduceToNat, Nat.reducePow, reduceIte, reduceCtorEq, j0, j1, j6, j8, j9, j10, j11, j12, j13, ew])|((with_reducible first|refine jW ?hy ?_|refine jY ?hy ?_);case hy=>rfl)|((with_reducible first|refine jX ?hy ?_|refine jZ ?hy ?_);case hy=>rfl)|((with_reducible refine jF ?hy ?_);case hy=>decide))
     exact loop_normal (m' := 120 - (i + 1)) (by omega) ⟨i + 1, T3, Q3, _, v4, _, _, _, _, rfl, rfl, j9, by omega, hS4, hbk3, hmk3, hn3.trans hQn, fun w => by rw [hon3]; exact hoffv w, by simp; omega, by omega, rfl⟩
    ·have z1 : ((41 : Int) == 0) = false := rfl
     repeat' (first|(with_reducible first|refine jA ?_|(refine hK _ _ ?_;clear hK K)|refine jJ fun K hK=>?_|refine jK ?_|refine jL ?_|refine jM ?_|refine jN ?_|refine jO ?_|refine jP ?_|refine jQ ?_|(refine jB ?_;clear hK K)|(refine jC ?_;clear hK K)|refine jD ?_|refine jE ?_|refine jG ?_|refine jH ?_|refine jI ?_)|((with_reducible refine jR ?hq ?_);case hq=>rfl)|((first|(with_reducible first|refine jS fun K hK=>?_|refine jT ?_|refine jU ?_)|((with_reducible refine jV ?hy fun K hK=>?_);case hy=>rfl));simp only [go_sem, Nat.reduceEqDiff, Nat.reduceAdd, Nat.reduceMul, Nat.reduceLeDiff, Nat.reduceLT, Int.reduceLT, Int.reduceLE, Int.reduceEq, Int.reduceNeg, Int.reduceToNat, Nat.reducePow, reduceIte, reduceCtorEq, j0, j1, j6, j8, j9, j10, j11, j12, j13, z1, ew])|((with_reducible first|refine jW ?hy ?_|refine jY ?hy ?_);case hy=>rfl)|((with_reducible first|refine jX ?hy ?_|refine jZ ?hy ?_);case hy=>rfl)|((with_reducible refine jF ?hy ?_);case hy=>decide))
     exact loop_normal (m' := 120 - (i + 1)) (by omega) ⟨i + 1, T3, Q3, Bl, _, l, Bo, _, on, rfl, j8, j9, by omega, hS3, hbk3, hmk3, hn3.trans hQn, fun w => by rw [hon3]; exact hoffv w, by omega, by omega, rfl⟩
   by_cases hC : kd = 1
   ·have s1 : ((kd : Int) == 0) = false := by simp [hC]
    have s2 : ((kd : Int) == 1) = true := by simp [hC]
    repeat' (first|(with_reducible first|refine jA ?_|(refine hK _ _ ?_;clear hK K)|refine jJ fun K hK=>?_|refine jK ?_|refine jL ?_|refine jM ?_|refine jN ?_|refine jO ?_|refine jP ?_|refine jQ ?_|(refine jB ?_;clear hK K)|(refine jC ?_;clear hK K)|refine jD ?_|refine jE ?_|refine jG ?_|refine jH ?_|refine jI ?_)|((with_reducible refine jR ?hq ?_);case hq=>rfl)|((first|(with_reducible first|refine jS fun K hK=>?_|refine jT ?_|refine jU ?_)|((with_reducible refine jV ?hy fun K hK=>?_);case hy=>rfl));simp only [go_sem, Nat.reduceEqDiff, Nat.reduceAdd, Nat.reduceMul, Nat.reduceLeDiff, Nat.reduceLT, Int.reduceLT, Int.reduceLE, Int.reduceEq, Int.reduceNeg, Int.reduceToNat, Nat.reducePow, reduceIte, reduceCtorEq, j0, j1, j6, j8, j9, j10, j11, j12, j13, s1, k0])|((with_reducible first|refine jW ?hy ?_|refine jY ?hy ?_);case hy=>rfl)|((with_reducible first|refine jX ?hy ?_|refine jZ ?hy ?_);case hy=>rfl)|((with_reducible refine jF ?hy ?_);case hy=>decide))
    refine pick_is (n := 3) hfit.k (by omega) hkd ?_
    repeat' (first|(with_reducible first|refine jA ?_|(refine hK _ _ ?_;clear hK K)|refine jJ fun K hK=>?_|refine jK ?_|refine jL ?_|refine jM ?_|refine jN ?_|refine jO ?_|refine jP ?_|refine jQ ?_|(refine jB ?_;clear hK K)|(refine jC ?_;clear hK K)|refine jD ?_|refine jE ?_|refine jG ?_|refine jH ?_|refine jI ?_)|((with_reducible refine jR ?hq ?_);case hq=>rfl)|((first|(with_reducible first|refine jS fun K hK=>?_|refine jT ?_|refine jU ?_)|((with_reducible refine jV ?hy fun K hK=>?_);case hy=>rfl));simp only [go_sem, Nat.reduceEqDiff, Nat.reduceAdd, Nat.reduceMul, Nat.reduceLeDiff, Nat.reduceLT, Int.reduceLT, Int.reduceLE, Int.reduceEq, Int.reduceNeg, Int.reduceToNat, Nat.reducePow, reduceIte, reduceCtorEq, j0, j1, j6, j8, j9, j10, j11, j12, j13, s2])|((with_reducible first|refine jW ?hy ?_|refine jY ?hy ?_);case hy=>rfl)|((with_reducible first|refine jX ?hy ?_|refine jZ ?hy ?_);case hy=>rfl)|((with_reducible refine jF ?hy ?_);case hy=>decide))
    refine cutB hM'.ts.to hbk hmk hu' hv' hpl hpo fun H3 T3 Q3 b hM3 hf3 hT3 hn3 hon3 hbk3 hmk3 hb => ?_
    have hS3 := hM'.op hM3 hf3 hT3
    have hl1 := withoutL_len l pl
    have hl2 := withoutL_len on po
    obtain ⟨bb, e1, e2⟩ : ∃ bb : Bool, (b == 0) = bb ∧ (0 ≤ plI pl) = (bb = true) := by
     rcases hb with ⟨rfl, hp⟩ | ⟨rfl, hp⟩
     ·exact ⟨true, rfl, by rw [plI_pos]; simp [hp]⟩
     ·exact ⟨false, rfl, by rw [plI_pos]; simp [hp]⟩
    have e3 : (bb != bb) = false := by simp
    repeat' (first|(with_reducible first|refine jA ?_|(refine hK _ _ ?_;clear hK K)|refine jJ fun K hK=>?_|refine jK ?_|refine jL ?_|refine jM ?_|refine jN ?_|refine jO ?_|refine jP ?_|refine jQ ?_|(refine jB ?_;clear hK K)|(refine jC ?_;clear hK K)|refine jD ?_|refine jE ?_|refine jG ?_|refine jH ?_|refine jI ?_)|((with_reducible refine jR ?hq ?_);case hq=>rfl)|((first|(with_reducible first|refine jS fun K hK=>?_|refine jT ?_|refine jU ?_)|((with_reducible refine jV ?hy fun K hK=>?_);case hy=>rfl));simp only [go_sem, Nat.reduceEqDiff, Nat.reduceAdd, Nat.reduceMul, Nat.reduceLeDiff, Nat.reduceLT, Int.reduceLT, Int.reduceLE, Int.reduceEq, Int.reduceNeg, Int.reduceToNat, Nat.reducePow, reduceIte, reduceCtorEq, j0, j1, j6, j8, j9, j10, j11, j12, j13, e1, e2, e3, Bool.decide_eq_true])|((with_reducible first|refine jW ?hy ?_|refine jY ?hy ?_);case hy=>rfl)|((with_reducible first|refine jX ?hy ?_|refine jZ ?hy ?_);case hy=>rfl)|((with_reducible refine jF ?hy ?_);case hy=>decide))
    refine without_at hS3.l (by omega) (placeL_lt hpl) fun H4 B4 v4 hs4 hf4 hB4 => ?_
    have hS4 := hS3.setL hs4 (hf4.mono fun _ _ h => h.elim) hB4
    repeat' (first|(with_reducible first|refine jA ?_|(refine hK _ _ ?_;clear hK K)|refine jJ fun K hK=>?_|refine jK ?_|refine jL ?_|refine jM ?_|refine jN ?_|refine jO ?_|refine jP ?_|refine jQ ?_|(refine jB ?_;clear hK K)|(refine jC ?_;clear hK K)|refine jD ?_|refine jE ?_|refine jG ?_|refine jH ?_|refine jI ?_)|((with_reducible refine jR ?hq ?_);case hq=>rfl)|((first|(with_reducible first|refine jS fun K hK=>?_|refine jT ?_|refine jU ?_)|((with_reducible refine jV ?hy fun K hK=>?_);case hy=>rfl));simp only [go_sem, Nat.reduceEqDiff, Nat.reduceAdd, Nat.reduceMul, Nat.reduceLeDiff, Nat.reduceLT, Int.reduceLT, Int.reduceLE, Int.reduceEq, Int.reduceNeg, Int.reduceToNat, Nat.reducePow, reduceIte, reduceCtorEq, j0, j1, j6, j8, j9, j10, j11, j12, j13])|((with_reducible first|refine jW ?hy ?_|refine jY ?hy ?_);case hy=>rfl)|((with_reducible first|refine jX ?hy ?_|refine jZ ?hy ?_);case hy=>rfl)|((with_reducible refine jF ?hy ?_);case hy=>decide))
    refine without_at hS4.o (by omega) (placeL_lt hpo) fun H5 B5 v5 hs5 hf5 hB5 => ?_
    have hS5 := hS4.setO hs5 (hf5.mono fun _ _ h => h.elim) hB5
    repeat' (first|(with_reducible first|refine jA ?_|(refine hK _ _ ?_;clear hK K)|refine jJ fun K hK=>?_|refine jK ?_|refine jL ?_|refine jM ?_|refine jN ?_|refine jO ?_|refine jP ?_|refine jQ ?_|(refine jB ?_;clear hK K)|(refine jC ?_;clear hK K)|refine jD ?_|refine jE ?_|refine jG ?_|refine jH ?_|refine jI ?_)|((with_reducible refine jR ?hq ?_);case hq=>rfl)|((first|(with_reducible first|refine jS fun K hK=>?_|refine jT ?_|refine jU ?_)|((with_reducible refine jV ?hy fun K hK=>?_);case hy=>rfl));simp only [go_sem, Nat.reduceEqDiff, Nat.reduceAdd, Nat.reduceMul, Nat.reduceLeDiff, Nat.reduceLT, Int.reduceLT, Int.reduceLE, Int.reduceEq, Int.reduceNeg, Int.reduceToNat, Nat.reducePow, reduceIte, reduceCtorEq, j0, j1, j6, j8, j9, j10, j11, j12, j13, ew])|((with_reducible first|refine jW ?hy ?_|refine jY ?hy ?_);case hy=>rfl)|((with_reducible first|refine jX ?hy ?_|refine jZ ?hy ?_);case hy=>rfl)|((with_reducible refine jF ?hy ?_);case hy=>decide))
    exact loop_normal (m' := 120 - (i + 1)) (by omega) ⟨i + 1, T3, Q3, _, v4, _, _, v5, _, rfl, rfl, rfl, by omega, hS5, hbk3, hmk3, hn3.trans hQn, fun w => by rw [hon3]; exact hoffv w, by omega, by omega, rfl⟩
   have hcase : kd = 0 ∧ pl ≠ none ∨ kd = 2 := by
    by_cases h0 : kd = 0
    ·exact .inl ⟨h0, fun h => hA ⟨h0, h⟩⟩
    ·right; omega
   have s3 : ((kd : Int) == 1) = false := by simp; omega
   rcases hcase with ⟨h0, h1⟩ | h0
   case' inl =>
    have s1 : ((kd : Int) == 0) = true := by simp [h0]
    have s2 : (plI pl < 0) = False := by rw [plI_neg]; simp [h1]
    repeat' (first|(with_reducible first|refine jA ?_|(refine hK _ _ ?_;clear hK K)|refine jJ fun K hK=>?_|refine jK ?_|refine jL ?_|refine jM ?_|refine jN ?_|refine jO ?_|refine jP ?_|refine jQ ?_|(refine jB ?_;clear hK K)|(refine jC ?_;clear hK K)|refine jD ?_|refine jE ?_|refine jG ?_|refine jH ?_|refine jI ?_)|((with_reducible refine jR ?hq ?_);case hq=>rfl)|((first|(with_reducible first|refine jS fun K hK=>?_|refine jT ?_|refine jU ?_)|((with_reducible refine jV ?hy fun K hK=>?_);case hy=>rfl));simp only [go_sem, Nat.reduceEqDiff, Nat.reduceAdd, Nat.reduceMul, Nat.reduceLeDiff, Nat.reduceLT, Int.reduceLT, Int.reduceLE, Int.reduceEq, Int.reduceNeg, Int.reduceToNat, Nat.reducePow, reduceIte, reduceCtorEq, j0, j1, j6, j8, j9, j10, j11, j12, j13, s1, s2, k0])|((with_reducible first|refine jW ?hy ?_|refine jY ?hy ?_);case hy=>rfl)|((with_reducible first|refine jX ?hy ?_|refine jZ ?hy ?_);case hy=>rfl)|((with_reducible refine jF ?hy ?_);case hy=>decide))
   case' inr =>
    have s1 : ((kd : Int) == 0) = false := by simp [h0]
    repeat' (first|(with_reducible first|refine jA ?_|(refine hK _ _ ?_;clear hK K)|refine jJ fun K hK=>?_|refine jK ?_|refine jL ?_|refine jM ?_|refine jN ?_|refine jO ?_|refine jP ?_|refine jQ ?_|(refine jB ?_;clear hK K)|(refine jC ?_;clear hK K)|refine jD ?_|refine jE ?_|refine jG ?_|refine jH ?_|refine jI ?_)|((with_reducible refine jR ?hq ?_);case hq=>rfl)|((first|(with_reducible first|refine jS fun K hK=>?_|refine jT ?_|refine jU ?_)|((with_reducible refine jV ?hy fun K hK=>?_);case hy=>rfl));simp only [go_sem, Nat.reduceEqDiff, Nat.reduceAdd, Nat.reduceMul, Nat.reduceLeDiff, Nat.reduceLT, Int.reduceLT, Int.reduceLE, Int.reduceEq, Int.reduceNeg, Int.reduceToNat, Nat.reducePow, reduceIte, reduceCtorEq, j0, j1, j6, j8, j9, j10, j11, j12, j13, s1, k0])|((with_reducible first|refine jW ?hy ?_|refine jY ?hy ?_);case hy=>rfl)|((with_reducible first|refine jX ?hy ?_|refine jZ ?hy ?_);case hy=>rfl)|((with_reducible refine jF ?hy ?_);case hy=>decide))
   all_goals
    refine pick_is (n := 3) hfit.k (by omega) hkd ?_
    have k4 := b'.cellOf (i := 4) rfl
    repeat' (first|(with_reducible first|refine jA ?_|(refine hK _ _ ?_;clear hK K)|refine jJ fun K hK=>?_|refine jK ?_|refine jL ?_|refine jM ?_|refine jN ?_|refine jO ?_|refine jP ?_|refine jQ ?_|(refine jB ?_;clear hK K)|(refine jC ?_;clear hK K)|refine jD ?_|refine jE ?_|refine jG ?_|refine jH ?_|refine jI ?_)|((with_reducible refine jR ?hq ?_);case hq=>rfl)|((first|(with_reducible first|refine jS fun K hK=>?_|refine jT ?_|refine jU ?_)|((with_reducible refine jV ?hy fun K hK=>?_);case hy=>rfl));simp only [go_sem, Nat.reduceEqDiff, Nat.reduceAdd, Nat.reduceMul, Nat.reduceLeDiff, Nat.reduceLT, Int.reduceLT, Int.reduceLE, Int.reduceEq, Int.reduceNeg, Int.reduceToNat, Nat.reducePow, reduceIte, reduceCtorEq, j0, j1, j6, j8, j9, j10, j11, j12, j13, s3, k4])|((with_reducible first|refine jW ?hy ?_|refine jY ?hy ?_);case hy=>rfl)|((with_reducible first|refine jX ?hy ?_|refine jZ ?hy ?_);case hy=>rfl)|((with_reducible refine jF ?hy ?_);case hy=>decide))
    refine markB hM'.ts.to hbk hmk hu' hv' hpl hpo fun H3 T3 Q3 b hM3 hf3 hT3 hn3 hon3 hbk3 hmk3 hmk3' hb => ?_
    have hS3 := hM'.op hM3 hf3 hT3
    have b3 := b'.frame hf3 hop
    have hl2 := withoutL_len on po
    obtain ⟨bb, e1, e2⟩ : ∃ bb : Bool, (b == 0) = bb ∧ (0 ≤ plI pl) = (bb = true) := by
     rcases hb with ⟨rfl, hp⟩ | ⟨rfl, hp⟩
     ·exact ⟨true, rfl, by rw [plI_pos]; simp [hp]⟩
     ·exact ⟨false, rfl, by rw [plI_pos]; simp [hp]⟩
    have e3 : (bb != bb) = false := by simp
    repeat' (first|(with_reducible first|refine jA ?_|(refine hK _ _ ?_;clear hK K)|refine jJ fun K hK=>?_|refine jK ?_|refine jL ?_|refine jM ?_|refine jN ?_|refine jO ?_|refine jP ?_|refine jQ ?_|(refine jB ?_;clear hK K)|(refine jC ?_;clear hK K)|refine jD ?_|refine jE ?_|refine jG ?_|refine jH ?_|refine jI ?_)|((with_reducible refine jR ?hq ?_);case hq=>rfl)|((first|(with_reducible first|refine jS fun K hK=>?_|refine jT ?_|refine jU ?_)|((with_reducible refine jV ?hy fun K hK=>?_);case hy=>rfl));simp only [go_sem, Nat.reduceEqDiff, Nat.reduceAdd, Nat.reduceMul, Nat.reduceLeDiff, Nat.reduceLT, Int.reduceLT, Int.reduceLE, Int.reduceEq, Int.reduceNeg, Int.reduceToNat, Nat.reducePow, reduceIte, reduceCtorEq, j0, j1, j6, j8, j9, j10, j11, j12, j13, e1, e2, e3, Bool.decide_eq_true])|((with_reducible first|refine jW ?hy ?_|refine jY ?hy ?_);case hy=>rfl)|((with_reducible first|refine jX ?hy ?_|refine jZ ?hy ?_);case hy=>rfl)|((with_reducible refine jF ?hy ?_);case hy=>decide))
    refine without_at hS3.o (by omega) (placeL_lt hpo) fun H5 B5 v5 hs5 hf5 hB5 => ?_
    have hS5 := hS3.setO hs5 (hf5.mono fun _ _ h => h.elim) hB5
    have b5 := b3.frame hf5 fun h => h
    have k4' := b5.cellOf (i := 4) rfl
    by_cases hz : (zs i).on = true ∧ pl ≠ none
    ·have g1 := hz.1
     have g2 : (0 ≤ plI pl) = True := by rw [plI_pos]; simp [hz.2]
     repeat' (first|(with_reducible first|refine jA ?_|(refine hK _ _ ?_;clear hK K)|refine jJ fun K hK=>?_|refine jK ?_|refine jL ?_|refine jM ?_|refine jN ?_|refine jO ?_|refine jP ?_|refine jQ ?_|(refine jB ?_;clear hK K)|(refine jC ?_;clear hK K)|refine jD ?_|refine jE ?_|refine jG ?_|refine jH ?_|refine jI ?_)|((with_reducible refine jR ?hq ?_);case hq=>rfl)|((first|(with_reducible first|refine jS fun K hK=>?_|refine jT ?_|refine jU ?_)|((with_reducible refine jV ?hy fun K hK=>?_);case hy=>rfl));simp only [go_sem, Nat.reduceEqDiff, Nat.reduceAdd, Nat.reduceMul, Nat.reduceLeDiff, Nat.reduceLT, Int.reduceLT, Int.reduceLE, Int.reduceEq, Int.reduceNeg, Int.reduceToNat, Nat.reducePow, reduceIte, reduceCtorEq, j0, j1, j6, j8, j9, j10, j11, j12, j13, k4', g1, g2])|((with_reducible first|refine jW ?hy ?_|refine jY ?hy ?_);case hy=>rfl)|((with_reducible first|refine jX ?hy ?_|refine jZ ?hy ?_);case hy=>rfl)|((with_reducible refine jF ?hy ?_);case hy=>decide))
     refine append_sr pairC_len pairC_plain (x := (u, v)) elems40 tl47 hS5.o rfl (by decide) (by simp; omega) rfl fun v6 H6 B6 hs6 hf6 hB6 => ?_
     have hS6 := hS5.setO hs6 hf6 (hB6.imp id fun ⟨g, hg, hge⟩ b hb => by rw [hg] at hb; obtain rfl := Option.some.inj hb; exact hge)
     repeat' (first|(with_reducible first|refine jA ?_|(refine hK _ _ ?_;clear hK K)|refine jJ fun K hK=>?_|refine jK ?_|refine jL ?_|refine jM ?_|refine jN ?_|refine jO ?_|refine jP ?_|refine jQ ?_|(refine jB ?_;clear hK K)|(refine jC ?_;clear hK K)|refine jD ?_|refine jE ?_|refine jG ?_|refine jH ?_|refine jI ?_)|((with_reducible refine jR ?hq ?_);case hq=>rfl)|((first|(with_reducible first|refine jS fun K hK=>?_|refine jT ?_|refine jU ?_)|((with_reducible refine jV ?hy fun K hK=>?_);case hy=>rfl));simp only [go_sem, Nat.reduceEqDiff, Nat.reduceAdd, Nat.reduceMul, Nat.reduceLeDiff, Nat.reduceLT, Int.reduceLT, Int.reduceLE, Int.reduceEq, Int.reduceNeg, Int.reduceToNat, Nat.reducePow, reduceIte, reduceCtorEq, j0, j1, j6, j8, j9, j10, j11, j12, j13, ew])|((with_reducible first|refine jW ?hy ?_|refine jY ?hy ?_);case hy=>rfl)|((with_reducible first|refine jX ?hy ?_|refine jZ ?hy ?_);case hy=>rfl)|((with_reducible refine jF ?hy ?_);case hy=>decide))
     exact loop_normal (m' := 120 - (i + 1)) (by omega) ⟨i + 1, T3, Q3, _, _, _, _, v6, _, rfl, j8, rfl, by omega, hS6, hbk3, hmk3 hz, hn3.trans hQn, fun w => by rw [hon3]; exact hoffv w, by omega, by simp; omega, rfl⟩
    ·by_cases hz1 : (zs i).on = true
     ·have g2 : (0 ≤ plI pl) = False := by rw [plI_pos]; simp; exact Classical.not_not.1 fun h => hz ⟨hz1, h⟩
      repeat' (first|(with_reducible first|refine jA ?_|(refine hK _ _ ?_;clear hK K)|refine jJ fun K hK=>?_|refine jK ?_|refine jL ?_|refine jM ?_|refine jN ?_|refine jO ?_|refine jP ?_|refine jQ ?_|(refine jB ?_;clear hK K)|(refine jC ?_;clear hK K)|refine jD ?_|refine jE ?_|refine jG ?_|refine jH ?_|refine jI ?_)|((with_reducible refine jR ?hq ?_);case hq=>rfl)|((first|(with_reducible first|refine jS fun K hK=>?_|refine jT ?_|refine jU ?_)|((with_reducible refine jV ?hy fun K hK=>?_);case hy=>rfl));simp only [go_sem, Nat.reduceEqDiff, Nat.reduceAdd, Nat.reduceMul, Nat.reduceLeDiff, Nat.reduceLT, Int.reduceLT, Int.reduceLE, Int.reduceEq, Int.reduceNeg, Int.reduceToNat, Nat.reducePow, reduceIte, reduceCtorEq, j0, j1, j6, j8, j9, j10, j11, j12, j13, k4', hz1, g2, ew])|((with_reducible first|refine jW ?hy ?_|refine jY ?hy ?_);case hy=>rfl)|((with_reducible first|refine jX ?hy ?_|refine jZ ?hy ?_);case hy=>rfl)|((with_reducible refine jF ?hy ?_);case hy=>decide))
      exact loop_normal (m' := 120 - (i + 1)) (by omega) ⟨i + 1, T3, Q3, _, _, _, _, v5, _, rfl, j8, rfl, by omega, hS5, hbk3, hmk3' hz, hn3.trans hQn, fun w => by rw [hon3]; exact hoffv w, by omega, by omega, rfl⟩
     ·have g1 : (zs i).on = false := by simpa using hz1
      repeat' (first|(with_reducible first|refine jA ?_|(refine hK _ _ ?_;clear hK K)|refine jJ fun K hK=>?_|refine jK ?_|refine jL ?_|refine jM ?_|refine jN ?_|refine jO ?_|refine jP ?_|refine jQ ?_|(refine jB ?_;clear hK K)|(refine jC ?_;clear hK K)|refine jD ?_|refine jE ?_|refine jG ?_|refine jH ?_|refine jI ?_)|((with_reducible refine jR ?hq ?_);case hq=>rfl)|((first|(with_reducible first|refine jS fun K hK=>?_|refine jT ?_|refine jU ?_)|((with_reducible refine jV ?hy fun K hK=>?_);case hy=>rfl));simp only [go_sem, Nat.reduceEqDiff, Nat.reduceAdd, Nat.reduceMul, Nat.reduceLeDiff, Nat.reduceLT, Int.reduceLT, Int.reduceLE, Int.reduceEq, Int.reduceNeg, Int.reduceToNat, Nat.reducePow, reduceIte, reduceCtorEq, j0, j1, j6, j8, j9, j10, j11, j12, j13, k4', g1, ew])|((with_reducible first|refine jW ?hy ?_|refine jY ?hy ?_);case hy=>rfl)|((with_reducible first|refine jX ?hy ?_|refine jZ ?hy ?_);case hy=>rfl)|((with_reducible refine jF ?hy ?_);case hy=>decide))
      exact loop_normal (m' := 120 - (i + 1)) (by omega) ⟨i + 1, T3, Q3, _, _, _, _, v5, _, rfl, j8, rfl, by omega, hS5, hbk3, hmk3' hz, hn3.trans hQn, fun w => by rw [hon3]; exact hoffv w, by omega, by omega, rfl⟩
  have b2' := b2
  by_cases hl0 : 0 < l.length
  ·have g1 : (0 < l.length) = True := by simp [hl0]
   have g2 : (0 < (l.length : Int)) = True := by simp; omega
   simp only [g1, g2, decide_true]
   repeat' (first|(with_reducible first|refine jA ?_|(refine hK _ _ ?_;clear hK K)|refine jJ fun K hK=>?_|refine jK ?_|refine jL ?_|refine jM ?_|refine jN ?_|refine jO ?_|refine jP ?_|refine jQ ?_|(refine jB ?_;clear hK K)|(refine jC ?_;clear hK K)|refine jD ?_|refine jE ?_|refine jG ?_|refine jH ?_|refine jI ?_)|((with_reducible refine jR ?hq ?_);case hq=>rfl)|((first|(with_reducible first|refine jS fun K hK=>?_|refine jT ?_|refine jU ?_)|((with_reducible refine jV ?hy fun K hK=>?_);case hy=>rfl));simp only [go_sem, Nat.reduceEqDiff, Nat.reduceAdd, Nat.reduceMul, Nat.reduceLeDiff, Nat.reduceLT, Int.reduceLT, Int.reduceLE, Int.reduceEq, Int.reduceNeg, Int.reduceToNat, Nat.reducePow, reduceIte, reduceCtorEq, i0, i1, i6, i8, i9, i10, k3, g1, g2])|((with_reducible first|refine jW ?hy ?_|refine jY ?hy ?_);case hy=>rfl)|((with_reducible first|refine jX ?hy ?_|refine jZ ?hy ?_);case hy=>rfl)|((with_reducible refine jF ?hy ?_);case hy=>decide))
   refine pick_nat (n := 2) hfit.x (by omega) fun px _ hpx => ?_
   by_cases hp : 0 < px
   ·have g3 : (0 < (px : Int)) = True := by simp; omega
    have g3' : (0 < px) = True := by simp; omega
    have hd := tdiv2 _ hfit.x.1 hfit.x.2
    have ewd : IntKind.i64.wrap ((zs i).x.tdiv 2) = (zs i).x.tdiv 2 := wrap_i64 hd.1 hd.2
    have z2 : ((2 : Int) = 0) = False := by simp
    repeat' (first|(with_reducible first|refine jA ?_|(refine hK _ _ ?_;clear hK K)|refine jJ fun K hK=>?_|refine jK ?_|refine jL ?_|refine jM ?_|refine jN ?_|refine jO ?_|refine jP ?_|refine jQ ?_|(refine jB ?_;clear hK K)|(refine jC ?_;clear hK K)|refine jD ?_|refine jE ?_|refine jG ?_|refine jH ?_|refine jI ?_)|((with_reducible refine jR ?hq ?_);case hq=>rfl)|((first|(with_reducible first|refine jS fun K hK=>?_|refine jT ?_|refine jU ?_)|((with_reducible refine jV ?hy fun K hK=>?_);case hy=>rfl));simp only [go_sem, Nat.reduceEqDiff, Nat.reduceAdd, Nat.reduceMul, Nat.reduceLeDiff, Nat.reduceLT, Int.reduceLT, Int.reduceLE, Int.reduceEq, Int.reduceNeg, Int.reduceToNat, Nat.reducePow, reduceIte, reduceCtorEq, i0, i1, i6, i8, i9, i10, k3, g3, g3', z2, ewd])|((with_reducible first|refine jW ?hy ?_|refine jY ?hy ?_);case hy=>rfl)|((with_reducible first|refine jX ?hy ?_|refine jZ ?hy ?_);case hy=>rfl)|((with_reducible refine jF ?hy ?_);case hy=>decide))
    refine pick_nat hd hl0 fun k _ hk => ?_
    obtain ⟨⟨pa, pb⟩, hpq⟩ : ∃ p, l[k]? = some p := ⟨_, List.getElem?_eq_getElem hk⟩
    have hpm := List.mem_of_getElem? hpq
    obtain ⟨hpa, hpb⟩ := hbk.ends hok1 _ hpm
    obtain ⟨gl, cl', _, hv, _, hc⟩ := hM2.l.at pairC_len hpq
    simp only [Value.slice.injEq] at hv
    obtain ⟨rfl, _, rfl⟩ := hv
    have c0 := hc 0 (.int .i64 pa) rfl
    have c1 := hc 1 (.int .i64 pb) rfl
    rw [Nat.add_zero] at c0
    have bn3 := Blk.new H2 [.int .i64 0, .int .i64 0] 47
    have fn3 : Fr (fun _ => False) H2 (H2.push (.cells #[.int .i64 0, .int .i64 0] 47)) := (Fr.refl _ H2).push _
    have y0 := bn3.okW (i := 0) (by simp)
    have y1 := bn3.okW (i := 1) (by simp)
    have t5 : (k < l.length) = True := by simp [hk]
    repeat' (first|(with_reducible first|refine jA ?_|(refine hK _ _ ?_;clear hK K)|refine jJ fun K hK=>?_|refine jK ?_|refine jL ?_|refine jM ?_|refine jN ?_|refine jO ?_|refine jP ?_|refine jQ ?_|(refine jB ?_;clear hK K)|(refine jC ?_;clear hK K)|refine jD ?_|refine jE ?_|refine jG ?_|refine jH ?_|refine jI ?_)|((with_reducible refine jR ?hq ?_);case hq=>rfl)|((first|(with_reducible first|refine jS fun K hK=>?_|refine jT ?_|refine jU ?_)|((with_reducible refine jV ?hy fun K hK=>?_);case hy=>rfl));simp only [go_sem, Nat.reduceEqDiff, Nat.reduceAdd, Nat.reduceMul, Nat.reduceLeDiff, Nat.reduceLT, Int.reduceLT, Int.reduceLE, Int.reduceEq, Int.reduceNeg, Int.reduceToNat, Nat.reducePow, reduceIte, reduceCtorEq, i0, i1, i6, i8, i9, i10, c0, c1, t5, y0, y1, okW_hset])|((with_reducible first|refine jW ?hy ?_|refine jY ?hy ?_);case hy=>rfl)|((with_reducible first|refine jX ?hy ?_|refine jZ ?hy ?_);case hy=>rfl)|((with_reducible refine jF ?hy ?_);case hy=>decide))
    obtain ⟨b3, f3⟩ := store2 bn3 (.int .i64 pa) (.int .i64 pb)
    generalize hset _ _ _ = H3 at b3 f3 ⊢
    have f23 : Fr (fun _ => False) H2 H3 := fn3.trans' f3 fun b hb (e : b = H2.size) => by omega
    have hM3 := hM2.grow f23
    have b23 := b2.frame f23 fun h => h
    have q0 := b3.cellOf (i := 0) rfl
    have q1 := b3.cellOf (i := 1) rfl
    simp only [go_sem, Nat.reduceEqDiff, Nat.reduceAdd, Nat.reduceMul, Nat.reduceLeDiff, Nat.reduceLT, Int.reduceLT, Int.reduceLE, Int.reduceEq, Int.reduceNeg, Int.reduceToNat, Nat.reducePow, reduceIte, reduceCtorEq, i0, i1, i6, i8, i9, i10, q0]
    repeat' (first|(with_reducible first|refine jA ?_|(refine hK _ _ ?_;clear hK K)|refine jJ fun K hK=>?_|refine jK ?_|refine jL ?_|refine jM ?_|refine jN ?_|refine jO ?_|refine jP ?_|refine jQ ?_|(refine jB ?_;clear hK K)|(refine jC ?_;clear hK K)|refine jD ?_|refine jE ?_|refine jG ?_|refine jH ?_|refine jI ?_)|((with_reducible refine jR ?hq ?_);case hq=>rfl)|((first|(with_reducible first|refine jS fun K hK=>?_|refine jT ?_|refine jU ?_)|((with_reducible refine jV ?hy fun K hK=>?_);case hy=>rfl));simp only [go_sem, Nat.reduceEqDiff, Nat.reduceAdd, Nat.reduceMul, Nat.reduceLeDiff, Nat.reduceLT, Int.reduceLT, Int.reduceLE, Int.reduceEq, Int.reduceNeg, Int.reduceToNat, Nat.reducePow, reduceIte, reduceCtorEq, i0, i1, i6, i8, i9, i10, q0, q1])|((with_reducible first|refine jW ?hy ?_|refine jY ?hy ?_);case hy=>rfl)|((with_reducible first|refine jX ?hy ?_|refine jZ ?hy ?_);case hy=>rfl)|((with_reducible refine jF ?hy ?_);case hy=>decide))
    exact tail pa pb _ _ (by omega) (by omega) i0 i1 i6 i8 i9 i10 rfl rfl rfl hM3 b23
   ·have g3 : (0 < (px : Int)) = False := by simp; omega
    have g3' : (0 < px) = False := by simp; omega
    repeat' (first|(with_reducible first|refine jA ?_|(refine hK _ _ ?_;clear hK K)|refine jJ fun K hK=>?_|refine jK ?_|refine jL ?_|refine jM ?_|refine jN ?_|refine jO ?_|refine jP ?_|refine jQ ?_|(refine jB ?_;clear hK K)|(refine jC ?_;clear hK K)|refine jD ?_|refine jE ?_|refine jG ?_|refine jH ?_|refine jI ?_)|((with_reducible refine jR ?hq ?_);case hq=>rfl)|((first|(with_reducible first|refine jS fun K hK=>?_|refine jT ?_|refine jU ?_)|((with_reducible refine jV ?hy fun K hK=>?_);case hy=>rfl));simp only [go_sem, Nat.reduceEqDiff, Nat.reduceAdd, Nat.reduceMul, Nat.reduceLeDiff, Nat.reduceLT, Int.reduceLT, Int.reduceLE, Int.reduceEq, Int.reduceNeg, Int.reduceToNat, Nat.reducePow, reduceIte, reduceCtorEq, i0, i1, i6, i8, i9, i10, g3, g3'])|((with_reducible first|refine jW ?hy ?_|refine jY ?hy ?_);case hy=>rfl)|((with_reducible first|refine jX ?hy ?_|refine jZ ?hy ?_);case hy=>rfl)|((with_reducible refine jF ?hy ?_);case hy=>decide))
    exact tail u v _ _ hun hvn i0 i1 i6 i8 i9 i10 rfl rfl rfl hM2 b2
  ·have g1 : (0 < l.length) = False := eq_false hl0
   have g2 : (0 < (l.length : Int)) = False := eq_false (by omega)
   simp only [g1, g2, decide_false]
   repeat' (first|(with_reducible first|refine jA ?_|(refine hK _ _ ?_;clear hK K)|refine jJ fun K hK=>?_|refine jK ?_|refine jL ?_|refine jM ?_|refine jN ?_|refine jO ?_|refine jP ?_|refine jQ ?_|(refine jB ?_;clear hK K)|(refine jC ?_;clear hK K)|refine jD ?_|refine jE ?_|refine jG ?_|refine jH ?_|refine jI ?_)|((with_reducible refine jR ?hq ?_);case hq=>rfl)|((first|(with_reducible first|refine jS fun K hK=>?_|refine jT ?_|refine jU ?_)|((with_reducible refine jV ?hy fun K hK=>?_);case hy=>rfl));simp only [go_sem, Nat.reduceEqDiff, Nat.reduceAdd, Nat.reduceMul, Nat.reduceLeDiff, Nat.reduceLT, Int.reduceLT, Int.reduceLE, Int.reduceEq, Int.reduceNeg, Int.reduceToNat, Nat.reducePow, reduceIte, reduceCtorEq, i0, i1, i6, i8, i9, i10, g1, g2])|((with_reducible first|refine jW ?hy ?_|refine jY ?hy ?_);case hy=>rfl)|((with_reducible first|refine jX ?hy ?_|refine jZ ?hy ?_);case hy=>rfl)|((with_reducible refine jF ?hy ?_);case hy=>decide))
   exact tail u v _ _ hun hvn i0 i1 i6 i8 i9 i10 rfl rfl rfl hM2 b2
 ·have ew : True := trivial
  by_cases hl2 : i < len
  ·have t1 : (i < len) = True := by simp [hl2]
   have t2 : ((i : Int) < 120) = False := by simp; omega
   have t2' : (i < 120) = False := by simp; omega
   repeat' (first|(with_reducible first|refine jA ?_|(refine hK _ _ ?_;clear hK K)|refine jJ fun K hK=>?_|refine jK ?_|refine jL ?_|refine jM ?_|refine jN ?_|refine jO ?_|refine jP ?_|refine jQ ?_|(refine jB ?_;clear hK K)|(refine jC ?_;clear hK K)|refine jD ?_|refine jE ?_|refine jG ?_|refine jH ?_|refine jI ?_)|((with_reducible refine jR ?hq ?_);case hq=>rfl)|((first|(with_reducible first|refine jS fun K hK=>?_|refine jT ?_|refine jU ?_)|((with_reducible refine jV ?hy fun K hK=>?_);case hy=>rfl));simp only [go_sem, Nat.reduceEqDiff, Nat.reduceAdd, Nat.reduceMul, Nat.reduceLeDiff, Nat.reduceLT, Int.reduceLT, Int.reduceLE, Int.reduceEq, Int.reduceNeg, Int.reduceToNat, Nat.reducePow, reduceIte, reduceCtorEq, i1, i10, t1, t2, t2'])|((with_reducible first|refine jW ?hy ?_|refine jY ?hy ?_);case hy=>rfl)|((with_reducible first|refine jX ?hy ?_|refine jZ ?hy ?_);case hy=>rfl)|((with_reducible refine jF ?hy ?_);case hy=>decide))
   exact hQ _ _ _ _ _ _ _ _ _ _ i0 i6 i8 i9 hM1 hbk hmk hQn hoffv (by omega) (by omega)
  ·have t1 : (i < len) = False := by simp [hl2]
   repeat' (first|(with_reducible first|refine jA ?_|(refine hK _ _ ?_;clear hK K)|refine jJ fun K hK=>?_|refine jK ?_|refine jL ?_|refine jM ?_|refine jN ?_|refine jO ?_|refine jP ?_|refine jQ ?_|(refine jB ?_;clear hK K)|(refine jC ?_;clear hK K)|refine jD ?_|refine jE ?_|refine jG ?_|refine jH ?_|refine jI ?_)|((with_reducible refine jR ?hq ?_);case hq=>rfl)|((first|(with_reducible first|refine jS fun K hK=>?_|refine jT ?_|refine jU ?_)|((with_reducible refine jV ?hy fun K hK=>?_);case hy=>rfl));simp only [go_sem, Nat.reduceEqDiff, Nat.reduceAdd, Nat.reduceMul, Nat.reduceLeDiff, Nat.reduceLT, Int.reduceLT, Int.reduceLE, Int.reduceEq, Int.reduceNeg, Int.reduceToNat, Nat.reducePow, reduceIte, reduceCtorEq, i1, i10, t1])|((with_reducible first|refine jW ?hy ?_|refine jY ?hy ?_);case hy=>rfl)|((with_reducible first|refine jX ?hy ?_|refine jZ ?hy ?_);case hy=>rfl)|((with_reducible refine jF ?hy ?_);case hy=>decide))
   exact hQ _ _ _ _ _ _ _ _ _ _ i0 i6 i8 i9 hM1 hbk hmk hQn hoffv (by omega) (by omega)
end
end Go.Proofs.Ytnlafhnbakipmaa
namespace Go.To
open Go Go.Hp Go.Sp Go.Proofs.Ytnlafhnbakipmaa
set_option linter.unusedVariables false
section
variable {Q : Tq} {l on : List St}
theorem flags_row (hon : ∀ v, Q.on v = false) : ∀ xs : List St, flagsL (xs.map Q.item) = if ∃ x ∈ xs, x.1 ≠ x.2 ∧ Q.em x.1 x.2 = true then 2 else 0
 | [] => by simp [flagsL]
 | x :: xs => by
  rw [List.map_cons, flagsL, flags_row hon xs]
  have hx : (Q.item x).flags.toNat = if x.1 ≠ x.2 ∧ Q.em x.1 x.2 = true then 2 else 0 := by
   unfold Tq.item
   by_cases h : x.1 = x.2
   ·rw [if_pos h, if_neg (fun k => k.1 h)]
    simp [stopIt, hon]
   ·rw [if_neg h]
    by_cases h2 : Q.em x.1 x.2 = true
    ·rw [if_pos ⟨h, h2⟩]; simp [stepIt, h2]
    ·rw [if_neg (fun k => h2 k.2)]; simp [stepIt, h2]
  rw [hx]
  simp only [List.mem_cons, exists_eq_or_imp]
  by_cases h1 : x.1 ≠ x.2 ∧ Q.em x.1 x.2 = true
  ·by_cases h2 : ∃ y ∈ xs, y.1 ≠ y.2 ∧ Q.em y.1 y.2 = true
   ·rw [if_pos h1, if_pos h2, if_pos (Or.inl h1)]; rfl
   ·rw [if_pos h1, if_neg h2, if_pos (Or.inl h1)]; rfl
  ·by_cases h2 : ∃ y ∈ xs, y.1 ≠ y.2 ∧ Q.em y.1 y.2 = true
   ·rw [if_neg h1, if_pos h2, if_pos (Or.inr h2)]; rfl
   ·rw [if_neg h1, if_neg h2, if_neg (fun h => h.elim h1 h2)]; rfl
theorem any_iff (hok : Q.Ok) (hbk : Bk Q l) (hmk : Mk Q on) {v : Nat} (hv : v < Q.n) : (∃ p ∈ on, RchL l v p.1) ↔ ∃ x ∈ Q.row v, x.1 ≠ x.2 ∧ Q.em x.1 x.2 = true := by
 constructor
 ·rintro ⟨p, hp, hr⟩
  have h1 := hmk.sub p hp
  obtain ⟨h2, h3, h4⟩ := hok.em _ _ h1
  have h5 := (hbk.reach hok hv h2).1 hr
  have h6 := (hok.same v hv _ h5).2
  exact ⟨p, by rw [← h6]; exact h4, h3, h1⟩
 ·rintro ⟨x, hx, hne, hem⟩
  obtain ⟨h1, h2, h3, h4⟩ := hok.of_mem hv hx
  rcases hmk.all _ _ hem with h | h
  ·exact ⟨_, h, (hbk.reach hok hv h1).2 (by rw [← h3]; exact hok.self _ h1)⟩
  ·exact ⟨_, h, (hbk.reach hok hv h2).2 (by rw [← h4]; exact hok.self _ h2)⟩
end
end Go.To
namespace Go.Proofs.Ytnlafhnbakipmaa
open Go Go.Hp Go.Sp Go.To
set_option linter.all false
set_option maxRecDepth 100000
set_option maxHeartbeats 1600000
section
variable {H0 H : Heap} {e : Env} {Z : HX → Env → Heap → Prop} {t : Nat} {T : Nat → Prop} {Q : Tq} {l on : List St}
theorem anyL {g n : Nat} {Bo : Option Nat} {vo : Value} {bs : List Bool} (ho : SR pairC 2 H Bo vo on) (hb : BR H (some g) (.slice (some ⟨g, 0, none⟩) n n) bs) (hlen : bs.length = n) (hll : on.length ≤ 1000) (hends : ∀ p ∈ on, p.1 < n)
  (e9 : e 9 = vo) (e18 : e 18 = .slice (some ⟨g, 0, none⟩) n n) (e19 : e 19 = .bool false) (e20 : e 20 = .int .i64 0)
  (hQ : ∀ e' any, e' 0 = e 0 → e' 6 = e 6 → e' 8 = e 8 → e' 9 = vo → e' 17 = e 17 → e' 18 = e 18 → e' 19 = .bool any → (any = true ↔ ∃ p ∈ on, bs[p.1]? = some true) → Z .normal e' H) :
  codeX Try.prog [4, 3] (loopAt Try.f6.body 2) (blockQ 5 Z) e H := by
 obtain ⟨ao, co, rfl⟩ := ho.slice
 refine x_loop (fun m e' H' => ∃ (i : Nat) (any : Bool), H' = H ∧ e' 20 = .int .i64 (i : Nat) ∧ e' 19 = .bool any ∧ i ≤ on.length ∧ (any = true ↔ ∃ j p, j < i ∧ on[j]? = some p ∧ bs[p.1]? = some true) ∧ m = on.length - i) on.length
  ⟨0, false, rfl, e20, e19, Nat.zero_le _, ⟨fun h => (by cases h), fun ⟨j, _, h, _⟩ => (by omega)⟩, rfl⟩ ?_
 rintro m e1 H1 ⟨i, any, rfl, i20, i19, hi, hany, rfl⟩ hoff
 have i9 := (hoff 9 rfl).trans e9
 have i18 := (hoff 18 rfl).trans e18
 have keep : e1 0 = e 0 ∧ e1 6 = e 6 ∧ e1 8 = e 8 ∧ e1 17 = e 17 ∧ e1 18 = e 18 := ⟨hoff 0 rfl, hoff 6 rfl, hoff 8 rfl, hoff 17 rfl, hoff 18 rfl⟩
 clear hoff
 have ew : IntKind.i64.wrap ((i : Int) + 1) = ((i + 1 : Nat) : Int) := by rw [wrap_i64] <;> omega
 by_cases hlt : i < on.length
 ·obtain ⟨⟨p, q⟩, hp⟩ : ∃ p, on[i]? = some p := ⟨_, List.getElem?_eq_getElem hlt⟩
  have hpn : p < n := hends _ (List.mem_of_getElem? hp)
  obtain ⟨gl, cl', _, hv, _, hc⟩ := ho.at pairC_len hp
  simp only [Value.slice.injEq] at hv
  obtain ⟨rfl, _, rfl⟩ := hv
  have c0 := hc 0 (.int .i64 p) rfl
  rw [Nat.add_zero] at c0
  obtain ⟨b1, hb1⟩ : ∃ b, bs[p]? = some b := ⟨_, List.getElem?_eq_getElem (by omega)⟩
  have d1 := hb.cell hb1
  cases any with
  | true =>
   repeat' (first|(with_reducible first|refine jA ?_|(refine hK _ _ ?_;clear hK K)|refine jJ fun K hK=>?_|refine jK ?_|refine jL ?_|refine jM ?_|refine jN ?_|refine jO ?_|refine jP ?_|refine jQ ?_|(refine jB ?_;clear hK K)|(refine jC ?_;clear hK K)|refine jD ?_|refine jE ?_|refine jG ?_|refine jH ?_|refine jI ?_)|((with_reducible refine jR ?hq ?_);case hq=>rfl)|((first|(with_reducible first|refine jS fun K hK=>?_|refine jT ?_|refine jU ?_)|((with_reducible refine jV ?hy fun K hK=>?_);case hy=>rfl));simp only [go_sem, Nat.reduceEqDiff, Nat.reduceAdd, Nat.reduceMul, Nat.reduceLeDiff, Nat.reduceLT, Int.reduceLT, Int.reduceLE, Int.reduceEq, Int.reduceNeg, Int.reduceToNat, Nat.reducePow, reduceIte, reduceCtorEq, i9, i18, i19, i20, hlt, hpn, c0, d1, ew])|((with_reducible first|refine jW ?hy ?_|refine jY ?hy ?_);case hy=>rfl)|((with_reducible first|refine jX ?hy ?_|refine jZ ?hy ?_);case hy=>rfl)|((with_reducible refine jF ?hy ?_);case hy=>decide))
   refine loop_normal (m' := on.length - (i + 1)) (by omega) ⟨i + 1, true, rfl, rfl, rfl, hlt, ⟨fun _ => ?_, fun _ => rfl⟩, rfl⟩
   obtain ⟨j, p', h1, h2⟩ := hany.1 rfl
   exact ⟨j, p', by omega, h2⟩
  | false =>
   repeat' (first|(with_reducible first|refine jA ?_|(refine hK _ _ ?_;clear hK K)|refine jJ fun K hK=>?_|refine jK ?_|refine jL ?_|refine jM ?_|refine jN ?_|refine jO ?_|refine jP ?_|refine jQ ?_|(refine jB ?_;clear hK K)|(refine jC ?_;clear hK K)|refine jD ?_|refine jE ?_|refine jG ?_|refine jH ?_|refine jI ?_)|((with_reducible refine jR ?hq ?_);case hq=>rfl)|((first|(with_reducible first|refine jS fun K hK=>?_|refine jT ?_|refine jU ?_)|((with_reducible refine jV ?hy fun K hK=>?_);case hy=>rfl));simp only [go_sem, Nat.reduceEqDiff, Nat.reduceAdd, Nat.reduceMul, Nat.reduceLeDiff, Nat.reduceLT, Int.reduceLT, Int.reduceLE, Int.reduceEq, Int.reduceNeg, Int.reduceToNat, Nat.reducePow, reduceIte, reduceCtorEq, i9, i18, i19, i20, hlt, hpn, c0, d1, ew])|((with_reducible first|refine jW ?hy ?_|refine jY ?hy ?_);case hy=>rfl)|((with_reducible first|refine jX ?hy ?_|refine jZ ?hy ?_);case hy=>rfl)|((with_reducible refine jF ?hy ?_);case hy=>decide))
   refine loop_normal (m' := on.length - (i + 1)) (by omega) ⟨i + 1, b1, rfl, rfl, rfl, hlt, ⟨fun h => ⟨i, _, by omega, hp, by rw [hb1, h]⟩, fun ⟨j, p', h1, h2, h3⟩ => ?_⟩, rfl⟩
   rcases Nat.lt_succ_iff_lt_or_eq.1 h1 with h | rfl
   ·exact absurd (hany.2 ⟨j, p', h, h2, h3⟩) (by simp)
   ·rw [hp] at h2
    obtain rfl := Option.some.inj h2
    simp only at h3
    rw [hb1] at h3
    exact Option.some.inj h3
 ·have t1 : (i < on.length) = False := by simp [hlt]
  repeat' (first|(with_reducible first|refine jA ?_|(refine hK _ _ ?_;clear hK K)|refine jJ fun K hK=>?_|refine jK ?_|refine jL ?_|refine jM ?_|refine jN ?_|refine jO ?_|refine jP ?_|refine jQ ?_|(refine jB ?_;clear hK K)|(refine jC ?_;clear hK K)|refine jD ?_|refine jE ?_|refine jG ?_|refine jH ?_|refine jI ?_)|((with_reducible refine jR ?hq ?_);case hq=>rfl)|((first|(with_reducible first|refine jS fun K hK=>?_|refine jT ?_|refine jU ?_)|((with_reducible refine jV ?hy fun K hK=>?_);case hy=>rfl));simp only [go_sem, Nat.reduceEqDiff, Nat.reduceAdd, Nat.reduceMul, Nat.reduceLeDiff, Nat.reduceLT, Int.reduceLT, Int.reduceLE, Int.reduceEq, Int.reduceNeg, Int.reduceToNat, Nat.reducePow, reduceIte, reduceCtorEq, i9, i20, t1])|((with_reducible first|refine jW ?hy ?_|refine jY ?hy ?_);case hy=>rfl)|((with_reducible first|refine jX ?hy ?_|refine jZ ?hy ?_);case hy=>rfl)|((with_reducible refine jF ?hy ?_);case hy=>decide))
  refine hQ _ any keep.1 keep.2.1 keep.2.2.1 i9 keep.2.2.2.1 keep.2.2.2.2 i19 ?_
  rw [hany]
  constructor
  ·rintro ⟨j, p, _, h2, h3⟩
   exact ⟨p, List.mem_of_getElem? h2, h3⟩
  ·rintro ⟨p, hp, h3⟩
   obtain ⟨j, hj, rfl⟩ := List.mem_iff_getElem.1 hp
   exact ⟨j, _, by omega, List.getElem?_eq_getElem hj, h3⟩
end
end Go.Proofs.Ytnlafhnbakipmaa
namespace Go.Proofs.Ytnlafhnbakipmaa
open Go Go.Hp Go.Sp Go.To
set_option linter.all false
set_option maxRecDepth 100000
set_option maxHeartbeats 1600000
section
variable {H0 H : Heap} {e : Env} {Z : HX → Env → Heap → Prop} {t : Nat} {T : Nat → Prop} {Q : Tq} {l on : List St}
theorem markedEQ_row {v : Nat} {any : Bool} (hv : v < Q.n) (h : any = true ↔ ∃ x ∈ Q.row v, x.1 ≠ x.2 ∧ Q.em x.1 x.2 = true) :
  (any = false ∧ Q.markedEQ (v : Int) = ((0, 0), 43)) ∨ (any = true ∧ ∃ x : St, x ∈ Q.row v ∧ x.1 ≠ x.2 ∧ Q.em x.1 x.2 = true ∧ Q.markedEQ (v : Int) = (((x.1 : Int), (x.2 : Int)), 0)) := by
 have e : Q.markedEQ (v : Int) = (match (Q.row v).find? fun x => x.1 != x.2 && Q.em x.1 x.2 with | some x => (((x.1 : Int), (x.2 : Int)), 0) | none => ((0, 0), 43)) := by
  unfold Tq.markedEQ
  rw [inB_of hv]; rfl
 cases hf : (Q.row v).find? fun x => x.1 != x.2 && Q.em x.1 x.2 with
 | none =>
  rw [hf] at e
  rw [List.find?_eq_none] at hf
  left
  refine ⟨?_, e⟩
  cases any with
  | false => rfl
  | true =>
   obtain ⟨x, hx, h1, h2⟩ := h.1 rfl
   exact absurd (by simp [h1, h2]) (hf x hx)
 | some x =>
  rw [hf] at e
  have hm := List.mem_of_find?_eq_some hf
  have hp := List.find?_some hf
  simp only [Bool.and_eq_true, bne_iff_ne] at hp
  exact .inr ⟨h.2 ⟨x, hm, hp.1, hp.2⟩, x, hm, hp.1, hp.2, e⟩
theorem sumQ_row {v : Nat} {any : Bool} (hv : v < Q.n) (hon : ∀ v, Q.on v = false) (h : any = true ↔ ∃ x ∈ Q.row v, x.1 ≠ x.2 ∧ Q.em x.1 x.2 = true) :
  ∃ c s lo hi : Int, Q.sumQ (v : Int) = (⟨c, s, lo, hi, if any then 2 else 0⟩, 0) := by
 obtain ⟨A, hA⟩ : ∃ A, A = aggL ((Q.row v).map Q.item) := ⟨_, rfl⟩
 have e : Q.sumQ (v : Int) = (A, 0) := by
  rw [hA]
  unfold Tq.sumQ
  rw [inB_of hv]; rfl
 have hfl : A.flags = if any then 2 else 0 := by
  rw [hA]
  show ((flagsL ((Q.row v).map Q.item) : Nat) : Int) = _
  rw [flags_row hon]
  cases any with
  | true => rw [if_pos (h.1 rfl)]; rfl
  | false => rw [if_neg (fun k => by have := h.2 k; cases this)]; rfl
 obtain ⟨c, s, lo, hi, fl⟩ := A
 simp only at hfl
 subst hfl
 exact ⟨c, s, lo, hi, e⟩
theorem maC {n : Nat} {Bl Bo : Option Nat} {vl vo : Value} (hM : MkS H0 H t T Q Bl vl l Bo vo on) (hbk : Bk Q l) (hmk : Mk Q on) (hQn : Q.n = n) (hon : ∀ v, Q.on v = false) (hll : l.length ≤ 120) (hol : on.length ≤ 120)
  (e0 : e 0 = .int .i64 (n : Nat)) (e6 : e 6 = .pointer (some ⟨t, 0, none⟩)) (e8 : e 8 = vl) (e9 : e 9 = vo) (e17 : e 17 = .int .i64 0)
  (hQ : ∀ e' H', Fr (fun _ => False) H0 H' → Z .normal e' H') :
  codeX Try.prog [] (loopAt Try.f6.body 1) (blockQ 3 Z) e H := by
 refine x_loop (fun m e' H' => ∃ (v : Nat) (T' : Nat → Prop), e' 17 = .int .i64 (v : Nat) ∧ v ≤ n ∧ MkS H0 H' t T' Q Bl vl l Bo vo on ∧ m = n - v) n ⟨0, T, e17, Nat.zero_le _, hM, rfl⟩ ?_
 rintro m e1 H1 ⟨v, T1, i17, hv, hM1, rfl⟩ hoff
 have i0 := (hoff 0 rfl).trans e0
 have i6 := (hoff 6 rfl).trans e6
 have i8 := (hoff 8 rfl).trans e8
 have i9 := (hoff 9 rfl).trans e9
 clear hoff e0 e6 e8 e9 e17
 have hok := hM1.ts.to.ok
 have hn64 := hok.n64
 have ew : IntKind.i64.wrap ((v : Int) + 1) = ((v + 1 : Nat) : Int) := by rw [wrap_i64] <;> omega
 by_cases hlt : v < n
 ·have hvQ : v < Q.n := by omega
  have t1 : (v < n) = True := by simp [hlt]
  repeat' (first|(with_reducible first|refine jA ?_|(refine hK _ _ ?_;clear hK K)|refine jJ fun K hK=>?_|refine jK ?_|refine jL ?_|refine jM ?_|refine jN ?_|refine jO ?_|refine jP ?_|refine jQ ?_|(refine jB ?_;clear hK K)|(refine jC ?_;clear hK K)|refine jD ?_|refine jE ?_|refine jG ?_|refine jH ?_|refine jI ?_)|((with_reducible refine jR ?hq ?_);case hq=>rfl)|((first|(with_reducible first|refine jS fun K hK=>?_|refine jT ?_|refine jU ?_)|((with_reducible refine jV ?hy fun K hK=>?_);case hy=>rfl));simp only [go_sem, Nat.reduceEqDiff, Nat.reduceAdd, Nat.reduceMul, Nat.reduceLeDiff, Nat.reduceLT, Int.reduceLT, Int.reduceLE, Int.reduceEq, Int.reduceNeg, Int.reduceToNat, Nat.reducePow, reduceIte, reduceCtorEq, i0, i8, i17, t1])|((with_reducible first|refine jW ?hy ?_|refine jY ?hy ?_);case hy=>rfl)|((with_reducible first|refine jX ?hy ?_|refine jZ ?hy ?_);case hy=>rfl)|((with_reducible refine jF ?hy ?_);case hy=>decide))
  refine joined_ok hM1.l (by omega) (fun p hp => by have := hbk.ends hok p hp; omega) hlt (by omega) fun H2 g bs hb hlen hbs hg hf2 => ?_
  have hM2 := hM1.grow hf2
  have hgl := hb.lt rfl
  have hgT : ¬ T1 g := fun h => by have := hM1.ts.to.lt h; omega
  repeat' (first|(with_reducible first|refine jA ?_|(refine hK _ _ ?_;clear hK K)|refine jJ fun K hK=>?_|refine jK ?_|refine jL ?_|refine jM ?_|refine jN ?_|refine jO ?_|refine jP ?_|refine jQ ?_|(refine jB ?_;clear hK K)|(refine jC ?_;clear hK K)|refine jD ?_|refine jE ?_|refine jG ?_|refine jH ?_|refine jI ?_)|((with_reducible refine jR ?hq ?_);case hq=>rfl)|((first|(with_reducible first|refine jS fun K hK=>?_|refine jT ?_|refine jU ?_)|((with_reducible refine jV ?hy fun K hK=>?_);case hy=>rfl));simp only [go_sem, Nat.reduceEqDiff, Nat.reduceAdd, Nat.reduceMul, Nat.reduceLeDiff, Nat.reduceLT, Int.reduceLT, Int.reduceLE, Int.reduceEq, Int.reduceNeg, Int.reduceToNat, Nat.reducePow, reduceIte, reduceCtorEq])|((with_reducible first|refine jW ?hy ?_|refine jY ?hy ?_);case hy=>rfl)|((with_reducible first|refine jX ?hy ?_|refine jZ ?hy ?_);case hy=>rfl)|((with_reducible refine jF ?hy ?_);case hy=>decide))
  refine anyL hM2.o hb hlen (by omega) (fun p hp => by have := (hok.em _ _ (hmk.sub p hp)).1; omega) i9 rfl rfl rfl ?_
  intro e3 any j0 j6 j8 j9 j17 j18 j19 hany
  have j0 := j0.trans i0
  have j6 := j6.trans i6
  have j8 := j8.trans i8
  have j17 := j17.trans i17
  have hany2 : any = true ↔ ∃ x ∈ Q.row v, x.1 ≠ x.2 ∧ Q.em x.1 x.2 = true := by
   rw [hany, ← any_iff hok hbk hmk hvQ]
   constructor
   ·rintro ⟨p, hp, h⟩
    exact ⟨p, hp, ((hbs _).1 h).2⟩
   ·rintro ⟨p, hp, h⟩
    exact ⟨p, hp, (hbs _).2 ⟨by have := (hok.em _ _ (hmk.sub p hp)).1; omega, h⟩⟩
  obtain ⟨c, s, lo, hi, hsum⟩ := sumQ_row hvQ hon hany2
  repeat' (first|(with_reducible first|refine jA ?_|(refine hK _ _ ?_;clear hK K)|refine jJ fun K hK=>?_|refine jK ?_|refine jL ?_|refine jM ?_|refine jN ?_|refine jO ?_|refine jP ?_|refine jQ ?_|(refine jB ?_;clear hK K)|(refine jC ?_;clear hK K)|refine jD ?_|refine jE ?_|refine jG ?_|refine jH ?_|refine jI ?_)|((with_reducible refine jR ?hq ?_);case hq=>rfl)|((first|(with_reducible first|refine jS fun K hK=>?_|refine jT ?_|refine jU ?_)|((with_reducible refine jV ?hy fun K hK=>?_);case hy=>rfl));simp only [go_sem, Nat.reduceEqDiff, Nat.reduceAdd, Nat.reduceMul, Nat.reduceLeDiff, Nat.reduceLT, Int.reduceLT, Int.reduceLE, Int.reduceEq, Int.reduceNeg, Int.reduceToNat, Nat.reducePow, reduceIte, reduceCtorEq, j0, j6, j8, j9, j17, j18, j19])|((with_reducible first|refine jW ?hy ?_|refine jY ?hy ?_);case hy=>rfl)|((with_reducible first|refine jX ?hy ?_|refine jZ ?hy ?_);case hy=>rfl)|((with_reducible refine jF ?hy ?_);case hy=>decide))
  refine tq_markedE hM2.ts.to fun H3 T3 hM3 hf3 hT3 => ?_
  have hS3 := hM2.op hM3 hf3 hT3
  have hb3 := hb.frame hf3 fun b hb => by obtain rfl := Option.some.inj hb; exact hgT
  have hgT3 : ¬ T3 g := fun h => by
   rcases hT3 g h with h | h
   ·exact hgT h
   ·omega
  have bn := Blk.new H3 [.int .i64 0, .int .i64 0] 47
  have fn : Fr (fun _ => False) H3 (H3.push (.cells #[.int .i64 0, .int .i64 0] 47)) := (Fr.refl _ H3).push _
  have y0 := bn.okW (i := 0) (by simp)
  have y1 := bn.okW (i := 1) (by simp)
  obtain ⟨a, b, er, hme⟩ : ∃ a b er, Q.markedEQ (v : Int) = ((a, b), er) := ⟨_, _, _, rfl⟩
  have hcase := markedEQ_row hvQ hany2
  rw [hme] at hcase ⊢
  repeat' (first|(with_reducible first|refine jA ?_|(refine hK _ _ ?_;clear hK K)|refine jJ fun K hK=>?_|refine jK ?_|refine jL ?_|refine jM ?_|refine jN ?_|refine jO ?_|refine jP ?_|refine jQ ?_|(refine jB ?_;clear hK K)|(refine jC ?_;clear hK K)|refine jD ?_|refine jE ?_|refine jG ?_|refine jH ?_|refine jI ?_)|((with_reducible refine jR ?hq ?_);case hq=>rfl)|((first|(with_reducible first|refine jS fun K hK=>?_|refine jT ?_|refine jU ?_)|((with_reducible refine jV ?hy fun K hK=>?_);case hy=>rfl));simp only [go_sem, Nat.reduceEqDiff, Nat.reduceAdd, Nat.reduceMul, Nat.reduceLeDiff, Nat.reduceLT, Int.reduceLT, Int.reduceLE, Int.reduceEq, Int.reduceNeg, Int.reduceToNat, Nat.reducePow, reduceIte, reduceCtorEq, j0, j6, j8, j9, j17, j18, j19, y0, y1, okW_hset])|((with_reducible first|refine jW ?hy ?_|refine jY ?hy ?_);case hy=>rfl)|((with_reducible first|refine jX ?hy ?_|refine jZ ?hy ?_);case hy=>rfl)|((with_reducible refine jF ?hy ?_);case hy=>decide))
  obtain ⟨b4, f4⟩ := store2 bn (.int .i64 a) (.int .i64 b)
  generalize hset _ _ _ = H4 at b4 f4 ⊢
  have f34 : Fr (fun _ => False) H3 H4 := fn.trans' f4 fun b hb (e : b = H3.size) => by omega
  have hS4 := hS3.grow f34
  have hb4 := hb3.frame f34 fun _ _ h => h
  have h3T : ¬ T3 H3.size := fun h => by have := hM3.lt h; omega
  refine tq_sum hS4.ts.to fun H5 T5 hM5 hf5 hT5 => ?_
  rw [hsum]
  have hS5 := hS4.op hM5 hf5 hT5
  have hb5 := hb4.frame hf5 fun b hb => by obtain rfl := Option.some.inj hb; exact hgT3
  have b5 := b4.frame hf5 h3T
  have bn5 := Blk.new H5 [.int .i64 0, .int .i64 0, .int .i64 0, .int .i64 0, .int .i64 0] 57
  have fn5 : Fr (fun _ => False) H5 (H5.push (.cells #[.int .i64 0, .int .i64 0, .int .i64 0, .int .i64 0, .int .i64 0] 57)) := (Fr.refl _ H5).push _
  have w0 := bn5.okW (i := 0) (by simp)
  have w1 := bn5.okW (i := 1) (by simp)
  have w2 := bn5.okW (i := 2) (by simp)
  have w3 := bn5.okW (i := 3) (by simp)
  have w4 := bn5.okW (i := 4) (by simp)
  obtain ⟨fl, efl⟩ : ∃ fl : Int, fl = if any then 2 else 0 := ⟨_, rfl⟩
  rw [← efl]
  have z0 : ((0 : Int) != 0) = false := rfl
  have z00 : ((0 : Int) == 0) = true := rfl
  have z43 : ((43 : Int) == 0) = false := rfl
  have zf : (false != false) = false := rfl
  have zt : (true != true) = false := rfl
  have z02 : ((0 : Int) == 2) = false := rfl
  have z22 : ((2 : Int) == 2) = true := rfl
  have z20 : ((2 : Int) != 0) = true := rfl
  have z22' : ((2 : Int) != 2) = false := rfl
  rcases hcase with ⟨hf, he⟩ | ⟨hf, x, hx, hxn, hxe, he⟩
  ·subst hf
   simp only [Prod.mk.injEq] at he
   obtain ⟨⟨rfl, rfl⟩, rfl⟩ := he
   simp only [Bool.false_eq_true, if_false] at efl
   subst efl
   repeat' (first|(with_reducible first|refine jA ?_|(refine hK _ _ ?_;clear hK K)|refine jJ fun K hK=>?_|refine jK ?_|refine jL ?_|refine jM ?_|refine jN ?_|refine jO ?_|refine jP ?_|refine jQ ?_|(refine jB ?_;clear hK K)|(refine jC ?_;clear hK K)|refine jD ?_|refine jE ?_|refine jG ?_|refine jH ?_|refine jI ?_)|((with_reducible refine jR ?hq ?_);case hq=>rfl)|((first|(with_reducible first|refine jS fun K hK=>?_|refine jT ?_|refine jU ?_)|((with_reducible refine jV ?hy fun K hK=>?_);case hy=>rfl));simp only [go_sem, Nat.reduceEqDiff, Nat.reduceAdd, Nat.reduceMul, Nat.reduceLeDiff, Nat.reduceLT, Int.reduceLT, Int.reduceLE, Int.reduceEq, Int.reduceNeg, Int.reduceToNat, Nat.reducePow, reduceIte, reduceCtorEq, j0, j6, j8, j9, j17, j18, j19, Agg.val, w0, w1, w2, w3, w4, okW_hset, z0, z43, zf])|((with_reducible first|refine jW ?hy ?_|refine jY ?hy ?_);case hy=>rfl)|((with_reducible first|refine jX ?hy ?_|refine jZ ?hy ?_);case hy=>rfl)|((with_reducible refine jF ?hy ?_);case hy=>decide))
   obtain ⟨b6, f6⟩ := store5 bn5 (.int .i64 c) (.int .i64 s) (.int .i64 lo) (.int .i64 hi) (.int .i64 0)
   generalize hset _ _ _ = H6 at b6 f6 ⊢
   have f56 : Fr (fun _ => False) H5 H6 := fn5.trans' f6 fun b hb (e : b = H5.size) => by omega
   have hS6 := hS5.grow f56
   have hb6 := hb5.frame f56 fun _ _ h => h
   have b56 := b5.frame f56 fun h => h
   have k4 := b6.cellOf (i := 4) rfl
   simp only [go_sem, Nat.reduceEqDiff, Nat.reduceAdd, Nat.reduceMul, Nat.reduceLeDiff, Nat.reduceLT, Int.reduceLT, Int.reduceLE, Int.reduceEq, Int.reduceNeg, Int.reduceToNat, Nat.reducePow, reduceIte, reduceCtorEq, j0, j6, j8, j9, j17, j18, j19, k4]
   repeat' (first|(with_reducible first|refine jA ?_|(refine hK _ _ ?_;clear hK K)|refine jJ fun K hK=>?_|refine jK ?_|refine jL ?_|refine jM ?_|refine jN ?_|refine jO ?_|refine jP ?_|refine jQ ?_|(refine jB ?_;clear hK K)|(refine jC ?_;clear hK K)|refine jD ?_|refine jE ?_|refine jG ?_|refine jH ?_|refine jI ?_)|((with_reducible refine jR ?hq ?_);case hq=>rfl)|((first|(with_reducible first|refine jS fun K hK=>?_|refine jT ?_|refine jU ?_)|((with_reducible refine jV ?hy fun K hK=>?_);case hy=>rfl));simp only [go_sem, Nat.reduceEqDiff, Nat.reduceAdd, Nat.reduceMul, Nat.reduceLeDiff, Nat.reduceLT, Int.reduceLT, Int.reduceLE, Int.reduceEq, Int.reduceNeg, Int.reduceToNat, Nat.reducePow, reduceIte, reduceCtorEq, j0, j6, j8, j9, j17, j18, j19, k4, z02, zf, z0, ew])|((with_reducible first|refine jW ?hy ?_|refine jY ?hy ?_);case hy=>rfl)|((with_reducible first|refine jX ?hy ?_|refine jZ ?hy ?_);case hy=>rfl)|((with_reducible refine jF ?hy ?_);case hy=>decide))
   exact loop_normal (m' := n - (v + 1)) (by omega) ⟨v + 1, T5, rfl, hlt, hS6, rfl⟩
  ·subst hf
   simp only [Prod.mk.injEq] at he
   obtain ⟨⟨rfl, rfl⟩, rfl⟩ := he
   simp only [if_true] at efl
   subst efl
   obtain ⟨q1, q2, q3, q4⟩ := hok.of_mem hvQ hx
   repeat' (first|(with_reducible first|refine jA ?_|(refine hK _ _ ?_;clear hK K)|refine jJ fun K hK=>?_|refine jK ?_|refine jL ?_|refine jM ?_|refine jN ?_|refine jO ?_|refine jP ?_|refine jQ ?_|(refine jB ?_;clear hK K)|(refine jC ?_;clear hK K)|refine jD ?_|refine jE ?_|refine jG ?_|refine jH ?_|refine jI ?_)|((with_reducible refine jR ?hq ?_);case hq=>rfl)|((first|(with_reducible first|refine jS fun K hK=>?_|refine jT ?_|refine jU ?_)|((with_reducible refine jV ?hy fun K hK=>?_);case hy=>rfl));simp only [go_sem, Nat.reduceEqDiff, Nat.reduceAdd, Nat.reduceMul, Nat.reduceLeDiff, Nat.reduceLT, Int.reduceLT, Int.reduceLE, Int.reduceEq, Int.reduceNeg, Int.reduceToNat, Nat.reducePow, reduceIte, reduceCtorEq, j0, j6, j8, j9, j17, j18, j19, Agg.val, w0, w1, w2, w3, w4, okW_hset, z0, z00, zt])|((with_reducible first|refine jW ?hy ?_|refine jY ?hy ?_);case hy=>rfl)|((with_reducible first|refine jX ?hy ?_|refine jZ ?hy ?_);case hy=>rfl)|((with_reducible refine jF ?hy ?_);case hy=>decide))
   obtain ⟨b6, f6⟩ := store5 bn5 (.int .i64 c) (.int .i64 s) (.int .i64 lo) (.int .i64 hi) (.int .i64 2)
   generalize hset _ _ _ = H6 at b6 f6 ⊢
   have f56 : Fr (fun _ => False) H5 H6 := fn5.trans' f6 fun b hb (e : b = H5.size) => by omega
   have hS6 := hS5.grow f56
   have hb6 := hb5.frame f56 fun _ _ h => h
   have b56 := b5.frame f56 fun h => h
   have k4 := b6.cellOf (i := 4) rfl
   have u0 := b56.cellOf (i := 0) rfl
   have u1 := b56.cellOf (i := 1) rfl
   have t2 : ((x.1 : Int) < 0) = False := by simp
   have t3 : ((n : Int) ≤ (x.1 : Int)) = False := by simp; omega
   have t3' : (n ≤ x.1) = False := by simp; omega
   have t4 : (x.1 < n) = True := by simp; omega
   have hbx : bs[x.1]? = some true := (hbs _).2 ⟨by omega, (hbk.reach hok hvQ q1).2 (by rw [← q3]; exact hok.self _ q1)⟩
   have d1 := hb6.cell hbx
   simp only [go_sem, Nat.reduceEqDiff, Nat.reduceAdd, Nat.reduceMul, Nat.reduceLeDiff, Nat.reduceLT, Int.reduceLT, Int.reduceLE, Int.reduceEq, Int.reduceNeg, Int.reduceToNat, Nat.reducePow, reduceIte, reduceCtorEq, j0, j6, j8, j9, j17, j18, j19, k4]
   repeat' (first|(with_reducible first|refine jA ?_|(refine hK _ _ ?_;clear hK K)|refine jJ fun K hK=>?_|refine jK ?_|refine jL ?_|refine jM ?_|refine jN ?_|refine jO ?_|refine jP ?_|refine jQ ?_|(refine jB ?_;clear hK K)|(refine jC ?_;clear hK K)|refine jD ?_|refine jE ?_|refine jG ?_|refine jH ?_|refine jI ?_)|((with_reducible refine jR ?hq ?_);case hq=>rfl)|((first|(with_reducible first|refine jS fun K hK=>?_|refine jT ?_|refine jU ?_)|((with_reducible refine jV ?hy fun K hK=>?_);case hy=>rfl));simp only [go_sem, Nat.reduceEqDiff, Nat.reduceAdd, Nat.reduceMul, Nat.reduceLeDiff, Nat.reduceLT, Int.reduceLT, Int.reduceLE, Int.reduceEq, Int.reduceNeg, Int.reduceToNat, Nat.reducePow, reduceIte, reduceCtorEq, j0, j6, j8, j9, j17, j18, j19, k4, z22, zt, z20, z22', u0, u1, t2, t3, t3', t4, d1])|((with_reducible first|refine jW ?hy ?_|refine jY ?hy ?_);case hy=>rfl)|((with_reducible first|refine jX ?hy ?_|refine jZ ?hy ?_);case hy=>rfl)|((with_reducible refine jF ?hy ?_);case hy=>decide))
   refine place_at hS6.o (by omega) fun k hk => ?_
   have t5 : (plI k < 0) = False := by
    rw [plI_neg]
    refine eq_false fun e => ?_
    rw [e, placeL_none] at hk
    rcases hmk.all _ _ hxe with h | h
    ·exact hk.1 h
    ·exact hk.2 h
   repeat' (first|(with_reducible first|refine jA ?_|(refine hK _ _ ?_;clear hK K)|refine jJ fun K hK=>?_|refine jK ?_|refine jL ?_|refine jM ?_|refine jN ?_|refine jO ?_|refine jP ?_|refine jQ ?_|(refine jB ?_;clear hK K)|(refine jC ?_;clear hK K)|refine jD ?_|refine jE ?_|refine jG ?_|refine jH ?_|refine jI ?_)|((with_reducible refine jR ?hq ?_);case hq=>rfl)|((first|(with_reducible first|refine jS fun K hK=>?_|refine jT ?_|refine jU ?_)|((with_reducible refine jV ?hy fun K hK=>?_);case hy=>rfl));simp only [go_sem, Nat.reduceEqDiff, Nat.reduceAdd, Nat.reduceMul, Nat.reduceLeDiff, Nat.reduceLT, Int.reduceLT, Int.reduceLE, Int.reduceEq, Int.reduceNeg, Int.reduceToNat, Nat.reducePow, reduceIte, reduceCtorEq, j0, j6, j8, j9, j17, j18, j19, t5, ew])|((with_reducible first|refine jW ?hy ?_|refine jY ?hy ?_);case hy=>rfl)|((with_reducible first|refine jX ?hy ?_|refine jZ ?hy ?_);case hy=>rfl)|((with_reducible refine jF ?hy ?_);case hy=>decide))
   exact loop_normal (m' := n - (v + 1)) (by omega) ⟨v + 1, T5, rfl, hlt, hS6, rfl⟩
 ·have t1 : (v < n) = False := by simp [hlt]
  repeat' (first|(with_reducible first|refine jA ?_|(refine hK _ _ ?_;clear hK K)|refine jJ fun K hK=>?_|refine jK ?_|refine jL ?_|refine jM ?_|refine jN ?_|refine jO ?_|refine jP ?_|refine jQ ?_|(refine jB ?_;clear hK K)|(refine jC ?_;clear hK K)|refine jD ?_|refine jE ?_|refine jG ?_|refine jH ?_|refine jI ?_)|((with_reducible refine jR ?hq ?_);case hq=>rfl)|((first|(with_reducible first|refine jS fun K hK=>?_|refine jT ?_|refine jU ?_)|((with_reducible refine jV ?hy fun K hK=>?_);case hy=>rfl));simp only [go_sem, Nat.reduceEqDiff, Nat.reduceAdd, Nat.reduceMul, Nat.reduceLeDiff, Nat.reduceLT, Int.reduceLT, Int.reduceLE, Int.reduceEq, Int.reduceNeg, Int.reduceToNat, Nat.reducePow, reduceIte, reduceCtorEq, i0, i17, t1])|((with_reducible first|refine jW ?hy ?_|refine jY ?hy ?_);case hy=>rfl)|((with_reducible first|refine jX ?hy ?_|refine jZ ?hy ?_);case hy=>rfl)|((with_reducible refine jF ?hy ?_);case hy=>decide))
  exact hQ _ _ hM1.ts.fr
theorem tourMarks {H : Heap} {a : Option Addr} {len cap : Nat} {zs : Nat → TOp} {u : Int} {L : Value → Heap → Prop} (u0 : -9223372036854775808 ≤ u) (u1 : u ≤ 9223372036854775807) (hin : InTOps H a len zs) (hl : len ≤ 9223372036854775807)
  (fin : ∀ H', Fr (fun _ => False) H H' → L (.bool true) H') : CallsH Try.prog 6 #[.int .i64 u, .slice a len cap] H L := by
 refine call6 (by simp) ?_
 simp only [Try.f6, Option.getD_some]
 repeat' (first|(with_reducible first|refine jA ?_|(refine hK _ _ ?_;clear hK K)|refine jJ fun K hK=>?_|refine jK ?_|refine jL ?_|refine jM ?_|refine jN ?_|refine jO ?_|refine jP ?_|refine jQ ?_|(refine jB ?_;clear hK K)|(refine jC ?_;clear hK K)|refine jD ?_|refine jE ?_|refine jG ?_|refine jH ?_|refine jI ?_)|((with_reducible refine jR ?hq ?_);case hq=>rfl)|((first|(with_reducible first|refine jS fun K hK=>?_|refine jT ?_|refine jU ?_)|((with_reducible refine jV ?hy fun K hK=>?_);case hy=>rfl));simp only [go_sem, Nat.reduceEqDiff, Nat.reduceAdd, Nat.reduceMul, Nat.reduceLeDiff, Nat.reduceLT, Int.reduceLT, Int.reduceLE, Int.reduceEq, Int.reduceNeg, Int.reduceToNat, Nat.reducePow, reduceIte, reduceCtorEq])|((with_reducible first|refine jW ?hy ?_|refine jY ?hy ?_);case hy=>rfl)|((with_reducible first|refine jX ?hy ?_|refine jZ ?hy ?_);case hy=>rfl)|((with_reducible refine jF ?hy ?_);case hy=>decide))
 refine awake_ok fun H1 hf1 => ?_
 repeat' (first|(with_reducible first|refine jA ?_|(refine hK _ _ ?_;clear hK K)|refine jJ fun K hK=>?_|refine jK ?_|refine jL ?_|refine jM ?_|refine jN ?_|refine jO ?_|refine jP ?_|refine jQ ?_|(refine jB ?_;clear hK K)|(refine jC ?_;clear hK K)|refine jD ?_|refine jE ?_|refine jG ?_|refine jH ?_|refine jI ?_)|((with_reducible refine jR ?hq ?_);case hq=>rfl)|((first|(with_reducible first|refine jS fun K hK=>?_|refine jT ?_|refine jU ?_)|((with_reducible refine jV ?hy fun K hK=>?_);case hy=>rfl));simp only [go_sem, Nat.reduceEqDiff, Nat.reduceAdd, Nat.reduceMul, Nat.reduceLeDiff, Nat.reduceLT, Int.reduceLT, Int.reduceLE, Int.reduceEq, Int.reduceNeg, Int.reduceToNat, Nat.reducePow, reduceIte, reduceCtorEq])|((with_reducible first|refine jW ?hy ?_|refine jY ?hy ?_);case hy=>rfl)|((with_reducible first|refine jX ?hy ?_|refine jZ ?hy ?_);case hy=>rfl)|((with_reducible refine jF ?hy ?_);case hy=>decide))
 refine pick_nat (n := 30) ⟨u0, u1⟩ (by omega) fun k _ hk => ?_
 have ew : IntKind.i64.wrap (2 + (k : Int)) = ((2 + k : Nat) : Int) := by rw [wrap_i64] <;> omega
 have z1 : ((0 : Int) != 0) = false := rfl
 obtain ⟨n, hn⟩ : ∃ n, n = 2 + k := ⟨_, rfl⟩
 rw [← hn] at ew
 repeat' (first|(with_reducible first|refine jA ?_|(refine hK _ _ ?_;clear hK K)|refine jJ fun K hK=>?_|refine jK ?_|refine jL ?_|refine jM ?_|refine jN ?_|refine jO ?_|refine jP ?_|refine jQ ?_|(refine jB ?_;clear hK K)|(refine jC ?_;clear hK K)|refine jD ?_|refine jE ?_|refine jG ?_|refine jH ?_|refine jI ?_)|((with_reducible refine jR ?hq ?_);case hq=>rfl)|((first|(with_reducible first|refine jS fun K hK=>?_|refine jT ?_|refine jU ?_)|((with_reducible refine jV ?hy fun K hK=>?_);case hy=>rfl));simp only [go_sem, Nat.reduceEqDiff, Nat.reduceAdd, Nat.reduceMul, Nat.reduceLeDiff, Nat.reduceLT, Int.reduceLT, Int.reduceLE, Int.reduceEq, Int.reduceNeg, Int.reduceToNat, Nat.reducePow, reduceIte, reduceCtorEq, ew])|((with_reducible first|refine jW ?hy ?_|refine jY ?hy ?_);case hy=>rfl)|((with_reducible first|refine jX ?hy ?_|refine jZ ?hy ?_);case hy=>rfl)|((with_reducible refine jF ?hy ?_);case hy=>decide))
 refine tnew_ok (n := n) (by omega) (by omega) fun H2 t T2 hM2 hf2 hT2 => ?_
 have hS2 := (TS.start hM2 hf2 hT2).base hf1
 repeat' (first|(with_reducible first|refine jA ?_|(refine hK _ _ ?_;clear hK K)|refine jJ fun K hK=>?_|refine jK ?_|refine jL ?_|refine jM ?_|refine jN ?_|refine jO ?_|refine jP ?_|refine jQ ?_|(refine jB ?_;clear hK K)|(refine jC ?_;clear hK K)|refine jD ?_|refine jE ?_|refine jG ?_|refine jH ?_|refine jI ?_)|((with_reducible refine jR ?hq ?_);case hq=>rfl)|((first|(with_reducible first|refine jS fun K hK=>?_|refine jT ?_|refine jU ?_)|((with_reducible refine jV ?hy fun K hK=>?_);case hy=>rfl));simp only [go_sem, Nat.reduceEqDiff, Nat.reduceAdd, Nat.reduceMul, Nat.reduceLeDiff, Nat.reduceLT, Int.reduceLT, Int.reduceLE, Int.reduceEq, Int.reduceNeg, Int.reduceToNat, Nat.reducePow, reduceIte, reduceCtorEq, z1])|((with_reducible first|refine jW ?hy ?_|refine jY ?hy ?_);case hy=>rfl)|((with_reducible first|refine jX ?hy ?_|refine jZ ?hy ?_);case hy=>rfl)|((with_reducible refine jF ?hy ?_);case hy=>decide))
 refine maA hin hl (by omega) (by omega) hS2 rfl rfl rfl rfl rfl rfl ?_
 intro e' H3 T3 Q3 Bl vl l Bo vo on i0 i6 i8 i9 hM3 hbk hmk hQn hoff hll hol
 repeat' (first|(with_reducible first|refine jA ?_|(refine hK _ _ ?_;clear hK K)|refine jJ fun K hK=>?_|refine jK ?_|refine jL ?_|refine jM ?_|refine jN ?_|refine jO ?_|refine jP ?_|refine jQ ?_|(refine jB ?_;clear hK K)|(refine jC ?_;clear hK K)|refine jD ?_|refine jE ?_|refine jG ?_|refine jH ?_|refine jI ?_)|((with_reducible refine jR ?hq ?_);case hq=>rfl)|((first|(with_reducible first|refine jS fun K hK=>?_|refine jT ?_|refine jU ?_)|((with_reducible refine jV ?hy fun K hK=>?_);case hy=>rfl));simp only [go_sem, Nat.reduceEqDiff, Nat.reduceAdd, Nat.reduceMul, Nat.reduceLeDiff, Nat.reduceLT, Int.reduceLT, Int.reduceLE, Int.reduceEq, Int.reduceNeg, Int.reduceToNat, Nat.reducePow, reduceIte, reduceCtorEq, i0, i6, i8, i9])|((with_reducible first|refine jW ?hy ?_|refine jY ?hy ?_);case hy=>rfl)|((with_reducible first|refine jX ?hy ?_|refine jZ ?hy ?_);case hy=>rfl)|((with_reducible refine jF ?hy ?_);case hy=>decide))
 refine maC hM3 hbk hmk hQn hoff hll hol i0 i6 i8 i9 rfl ?_
 intro e'' H4 hf4
 repeat' (first|(with_reducible first|refine jA ?_|(refine hK _ _ ?_;clear hK K)|refine jJ fun K hK=>?_|refine jK ?_|refine jL ?_|refine jM ?_|refine jN ?_|refine jO ?_|refine jP ?_|refine jQ ?_|(refine jB ?_;clear hK K)|(refine jC ?_;clear hK K)|refine jD ?_|refine jE ?_|refine jG ?_|refine jH ?_|refine jI ?_)|((with_reducible refine jR ?hq ?_);case hq=>rfl)|((first|(with_reducible first|refine jS fun K hK=>?_|refine jT ?_|refine jU ?_)|((with_reducible refine jV ?hy fun K hK=>?_);case hy=>rfl));simp only [go_sem, Nat.reduceEqDiff, Nat.reduceAdd, Nat.reduceMul, Nat.reduceLeDiff, Nat.reduceLT, Int.reduceLT, Int.reduceLE, Int.reduceEq, Int.reduceNeg, Int.reduceToNat, Nat.reducePow, reduceIte, reduceCtorEq])|((with_reducible first|refine jW ?hy ?_|refine jY ?hy ?_);case hy=>rfl)|((with_reducible first|refine jX ?hy ?_|refine jZ ?hy ?_);case hy=>rfl)|((with_reducible refine jF ?hy ?_);case hy=>decide))
 exact fin _ hf4
end
end Go.Proofs.Ytnlafhnbakipmaa
namespace Go.Hp
open Go Go.ChangeShapes Go.WideShapes Go.RowKit
set_option linter.unusedVariables false
section
variable {E : Type} {enc : TypeId × Value → E} {P : Program} {w : World} {base : Nat} {spare : Nat → Bool} {held : Bool}
theorem cells_in {t e : TypeId} {a : Option Addr} {len cap : Nat} {d : DataW E} {p : List MemPlace} (ht : P.underlying t = some (.slice e)) (h : DataW.Trod enc P w base spare held t (.slice a len cap) d p) :
  len ≤ 9223372036854775807 ∧ ∀ i, i < len → ∃ (q : Addr) (cs : List Value) (m : Nat) (y : DataW E × List MemPlace), a = some q ∧ w.cells? base (q.add (i * P.cellsOf e)) (P.cellsOf e) = some cs ∧ DataW.trod enc P w base spare held m e cs = some y := by
 obtain ⟨fuel, hf⟩ := h
 rcases DataW.trod_slice ht hf with ⟨h0, _⟩ | ⟨a', len', cap', elems, rest, n, _, h0, _, hb, hl, hm, hlen, hel, hsp, hns⟩
 ·simp [Value.cells] at h0
  obtain ⟨rfl, rfl, rfl⟩ := h0
  exact ⟨by omega, fun i hi => absurd hi (by omega)⟩
 ·simp [Value.cells] at h0
  obtain ⟨rfl, rfl, rfl⟩ := h0
  refine ⟨by unfold maxLen at hm; omega, fun i hi => ?_⟩
  have h1 := hel i hi
  rw [List.getElem?_eq_getElem (by omega)] at h1
  obtain ⟨cs, hcs, hy⟩ := Option.bind_eq_some_iff.1 h1
  exact ⟨a', cs, n, _, rfl, hcs, hy⟩
theorem fit_of_wf {n : Int} (h : (Lit.int .i64 n).wf = true) : -9223372036854775808 ≤ n ∧ n ≤ 9223372036854775807 := by
 have hb := bounds_i64 h
 omega
theorem ints_in {t e : TypeId} {a : Option Addr} {len cap : Nat} {d : DataW E} {p : List MemPlace} (ht : P.underlying t = some (.slice e)) (he : P.underlying e = some (.int .i64)) (hc : P.cellsOf e = 1) (h : DataW.Trod enc P w base spare held t (.slice a len cap) d p) :
  len ≤ 9223372036854775807 ∧ ∃ zs, InInts w.heap a len zs := by
 obtain ⟨hl, hi⟩ := cells_in ht h
 refine ⟨hl, ?_⟩
 have each : ∀ i, i < len → ∃ (q : Addr) (n : Int), a = some q ∧ w.cell? (q.add i) = some (.int .i64 n) ∧ (Lit.int .i64 n).wf = true := fun i hlt => by
  obtain ⟨q, cs, m, y, h1, h2, h3⟩ := hi i hlt
  obtain ⟨n, rfl, _, hw⟩ := DataW.trod_int he h3
  rw [hc, Nat.mul_one] at h2
  obtain ⟨_, _, h4⟩ := World.cells?_some h2
  refine ⟨q, n, h1, ?_, hw⟩
  have := h4 0 (by omega)
  simpa [Addr.add] using this
 refine ⟨fun i => if h : i < len then (each i h).choose_spec.choose else 0, fun i hlt => ?_⟩
 have e := (each i hlt).choose_spec.choose_spec
 refine ⟨_, e.1, ?_, ?_⟩
 ·simp only [hlt, dif_pos]
  exact e.2.1
 ·simp only [hlt, dif_pos]
  exact fit_of_wf e.2.2
theorem field_in {e : TypeId} {fs : Array Field} {q : Addr} {n : Nat} {cs : List Value} {m : Nat} {y : DataW E × List MemPlace} (he : P.underlying e = some (.struct fs)) (h2 : w.cells? base q n = some cs) (h3 : DataW.trod enc P w base spare held m e cs = some y)
  (i : Nat) {f : Field} (hf : fs[i]? = some f) (hc : P.cellsOf f.type = 1) (ho : f.offset < n) :
  ∃ (v : Value) (z : DataW E × List MemPlace) (m' : Nat), w.cell? (q.add f.offset) = some v ∧ DataW.trod enc P w base spare held m' f.type [v] = some z := by
 obtain ⟨xs, n', _, _, hlen, hxl, hfs⟩ := DataW.trod_struct he h3
 obtain ⟨_, hcl, hcell⟩ := World.cells?_some h2
 have h4 := hfs i f hf
 have hlt : i < fs.size := (Array.getElem?_eq_some_iff.1 hf).1
 rw [hc, List.getElem?_eq_getElem (by omega)] at h4
 have hd : (cs.drop f.offset).take 1 = [cs[f.offset]'(by omega)] := by
  rw [List.drop_eq_getElem_cons (by omega)]; rfl
 rw [hd] at h4
 refine ⟨_, _, n', ?_, h4⟩
 rw [hcell f.offset ho, List.getElem?_eq_getElem (by omega)]
end
theorem add_zero_addr (q : Addr) : q.add 0 = q := rfl
theorem add_succ_addr (q : Addr) (n : Nat) : q.add (n + 1) = ⟨q.block, q.off + (n + 1), none⟩ := by
 unfold Addr.add; rw [if_neg (by omega)]
end Go.Hp
namespace Go.Proofs.Ytnlafhnbakipmaa
open Go Go.Hp Go.Sp Go.To Go.ChangeShapes Go.WideShapes Go.RowKit
set_option linter.unusedVariables false
section
variable {E : Type} {enc : TypeId × Value → E} {P : Program} {w : World} {base : Nat} {spare : Nat → Bool} {held : Bool}
theorem part_in {e : TypeId} {fs : Array Field} {cs : List Value} {m : Nat} {y : DataW E × List MemPlace} (he : P.underlying e = some (.struct fs)) (h3 : DataW.trod enc P w base spare held m e cs = some y) (i : Nat) {f : Field} (hf : fs[i]? = some f) :
  ∃ (z : DataW E × List MemPlace) (m' : Nat), DataW.trod enc P w base spare held m' f.type ((cs.drop f.offset).take (P.cellsOf f.type)) = some z := by
 obtain ⟨xs, n', _, _, hlen, hxl, hfs⟩ := DataW.trod_struct he h3
 have hlt : i < fs.size := (Array.getElem?_eq_some_iff.1 hf).1
 exact ⟨_, n', (hfs i f hf).trans (List.getElem?_eq_getElem (by omega))⟩
theorem one_at {cs : List Value} {o : Nat} {v : Value} (h : (cs.drop o).take 1 = [v]) : cs[o]? = some v := by
 have := congrArg (fun l => l[0]?) h
 simp only [List.getElem?_cons_zero] at this
 rw [List.getElem?_take_of_lt (by omega), List.getElem?_drop] at this
 exact this
theorem tops_in {t : TypeId} {a : Option Addr} {len cap : Nat} {d : DataW E} {p : List MemPlace} (ht : Try.prog.underlying t = some (.slice 44)) (h : DataW.Trod enc Try.prog w base spare held t (.slice a len cap) d p) :
  len ≤ 9223372036854775807 ∧ ∃ zs, InTOps w.heap a len zs := by
 obtain ⟨hl, hi⟩ := cells_in ht h
 have hc : Try.prog.cellsOf 44 = 6 := by kernel_rfl
 have c1 : Try.prog.cellsOf 3 = 1 := by kernel_rfl
 have cb : Try.prog.cellsOf 4 = 1 := by kernel_rfl
 rw [hc] at hi
 have each : ∀ i, i < len → ∃ (q : Addr) (o : TOp), a = some q ∧ (hcell w.heap (q.add (i * 6)) = some (.int .i64 o.kind) ∧ hcell w.heap ⟨(q.add (i * 6)).block, (q.add (i * 6)).off + 1, none⟩ = some (.int .i64 o.u) ∧ hcell w.heap ⟨(q.add (i * 6)).block, (q.add (i * 6)).off + 2, none⟩ = some (.int .i64 o.v) ∧
   hcell w.heap ⟨(q.add (i * 6)).block, (q.add (i * 6)).off + 3, none⟩ = some (.int .i64 o.x) ∧ hcell w.heap ⟨(q.add (i * 6)).block, (q.add (i * 6)).off + 4, none⟩ = some (.bool o.on) ∧ hcell w.heap ⟨(q.add (i * 6)).block, (q.add (i * 6)).off + 5, none⟩ = some (.bool o.other)) ∧ o.Fit := fun i hlt => by
  obtain ⟨q, cs, m, y, h1, h2, h3⟩ := hi i hlt
  obtain ⟨_, hcl, hcell'⟩ := World.cells?_some h2
  obtain ⟨z0, m0, t0⟩ := part_in Try.underlying44 h3 0 rfl
  obtain ⟨z1, m1, t1⟩ := part_in Try.underlying44 h3 1 rfl
  obtain ⟨z2, m2, t2⟩ := part_in Try.underlying44 h3 2 rfl
  obtain ⟨z3, m3, t3⟩ := part_in Try.underlying44 h3 3 rfl
  obtain ⟨z4, m4, t4⟩ := part_in Try.underlying44 h3 4 rfl
  obtain ⟨z5, m5, t5⟩ := part_in Try.underlying44 h3 5 rfl
  obtain ⟨k0, e0, _, w0⟩ := DataW.trod_int Try.underlying3 t0
  obtain ⟨k1, e1, _, w1⟩ := DataW.trod_int Try.underlying3 t1
  obtain ⟨k2, e2, _, w2⟩ := DataW.trod_int Try.underlying3 t2
  obtain ⟨k3, e3, _, w3⟩ := DataW.trod_int Try.underlying3 t3
  obtain ⟨b4, e4, _⟩ := DataW.trod_bool Try.underlying4 t4
  obtain ⟨b5, e5, _⟩ := DataW.trod_bool Try.underlying4 t5
  have e0 : (cs.drop 0).take (Try.prog.cellsOf 3) = [.int .i64 k0] := e0
  have e1 : (cs.drop 1).take (Try.prog.cellsOf 3) = [.int .i64 k1] := e1
  have e2 : (cs.drop 2).take (Try.prog.cellsOf 3) = [.int .i64 k2] := e2
  have e3 : (cs.drop 3).take (Try.prog.cellsOf 3) = [.int .i64 k3] := e3
  have e4 : (cs.drop 4).take (Try.prog.cellsOf 4) = [.bool b4] := e4
  have e5 : (cs.drop 5).take (Try.prog.cellsOf 4) = [.bool b5] := e5
  rw [c1] at e0 e1 e2 e3
  rw [cb] at e4 e5
  have r0 := one_at e0
  have r1 := one_at e1
  have r2 := one_at e2
  have r3 := one_at e3
  have r4 := one_at e4
  have r5 := one_at e5
  have g : ∀ j v, j < 6 → cs[j]? = some v → hcell w.heap (if j = 0 then q.add (i * 6) else ⟨(q.add (i * 6)).block, (q.add (i * 6)).off + j, none⟩) = some v := fun j v hj hv => by
   have := hcell' j hj
   rw [hv] at this
   cases j with
   | zero => exact this
   | succ j =>
    rw [if_neg (by omega)]
    rw [add_succ_addr] at this
    exact this
  exact ⟨q, ⟨k0, k1, k2, k3, b4, b5⟩, h1, ⟨g 0 _ (by omega) r0, g 1 _ (by omega) r1, g 2 _ (by omega) r2, g 3 _ (by omega) r3, g 4 _ (by omega) r4, g 5 _ (by omega) r5⟩, ⟨fit_of_wf w0, fit_of_wf w1, fit_of_wf w2, fit_of_wf w3⟩⟩
 refine ⟨hl, fun i => if h : i < len then (each i h).choose_spec.choose else ⟨0, 0, 0, 0, false, false⟩, fun i hlt => ?_⟩
 have e := (each i hlt).choose_spec.choose_spec
 simp only [hlt, dif_pos]
 exact ⟨_, e.1, e.2.1, e.2.2⟩
end
end Go.Proofs.Ytnlafhnbakipmaa
