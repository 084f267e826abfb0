/-
  Tours in memory: MarkEdge, Walk, Marked, MarkedEdge: what each answers and leaves.
  Tours in memory: Walk, Marked, MarkedEdge: what each answers and leaves.
  Tours in memory: New.
  The helpers of a law's package: pick, same.
  The examples that every statement about tours calls first; tours that nobody else has.
  Walks' stops, turned and grown (plain).
  Tours: what calls answer at vertices that are there; rows kept beside.
-/
import Derived.Test.YtnlafhnbakipmaaG5
import Derived.Test.YtnlafhnbakipmaaHpV
import Derived.Test.YtnlafhnbakipmaaTabM
import Derived.Test.YtnlafhnbakipmaaHpN
namespace Go.Proofs.Ytnlafhnbakipmaa
open Go Go.Hp Go.Sp Go.To
set_option linter.all false
set_option maxRecDepth 100000
set_option maxHeartbeats 1600000
theorem tabA2 : ∃ tk, tab Try.prog 83 = some tk ∧ aggD tk.desc = true ∧ tk.size = 2 := by
 have h : (tab Try.prog 83).map (fun tk => (aggD tk.desc, decide (tk.size = 2))) = some (true, true) := by kernel_rfl
 cases ht : tab Try.prog 83 with
 | none => rw [ht] at h; cases h
 | some tk =>
  rw [ht] at h
  simp only [Option.map_some, Option.some.injEq, Prod.mk.injEq, decide_eq_true_iff] at h
  exact ⟨tk, rfl, h.1, h.2⟩
theorem rd_part2 {H : Heap} (g : Nat → Value) (X : Sem Value) : Rd Try.prog H (do let b ← isAgg 83; if b = true then do let n ← sizeOf 83; pure (g n) else X) (g 2) := by
 obtain ⟨tk, h1, h2, h3⟩ := tabA2
 have ha := rd_isAgg (H := H) h1
 rw [h2] at ha
 refine Rd.bind ha ?_
 simp only [if_true]
 refine Rd.bind (rd_sizeOf h1) ?_
 rw [h3]
 exact Rd.ret _
theorem store2 {H : Heap} {b : Nat} {x0 x1 : Value} (hb : Blk H b [x0, x1]) (v0 v1 : Value) :
  Blk (hset (hset H ⟨b, 0, none⟩ v0) ⟨b, 1, none⟩ v1) b [v0, v1] ∧ Fr (· = b) H (hset (hset H ⟨b, 0, none⟩ v0) ⟨b, 1, none⟩ v1) :=
 ⟨(hb.set_same 0 _).set_same 1 _, Fr.set (S := (· = b)) (Fr.set (S := (· = b)) (Fr.refl _ H) (.inl rfl) _) (.inl rfl) _⟩
section
variable {H H' : Heap} {t f : Nat} {T Tf T' : Nat → Prop} {S S' : Sq} {Q Q' : Tq} {B c r1 r2 n : Nat} {st st' : Int × Int → Option Nat} {pr pr' : Int → Option (Int × Int)} {K L : Value → Heap → Prop}
theorem tq_markE {u v : Int} {z : Bool} (hM : ToM H t T Q) (fin : ∀ H' T', ToM H' t T' (Q.markEQ u v z).2 → Fr T H H' → (∀ b, T' b → T b ∨ H.size ≤ b) → L (.int .i64 (Q.markEQ u v z).1) H') :
  CallsH Try.prog 23 #[.pointer (some ⟨t, 0, none⟩), .int .i64 u, .int .i64 v, .bool z] H L := by
 obtain ⟨f, Tf, S, B, c, r1, r2, st, pr, h, hR, h3, h4⟩ := hM
 unfold Tq.markEQ at fin
 refine call23 (by simp) ?_
 simp only [Try.f23, Option.getD_some]
 repeat' (first|(with_reducible first|refine jA ?_|(refine hK _ _ ?_;clear hK K)|refine jJ fun K hK=>?_|refine jK ?_|refine jL ?_|refine jM ?_|refine jN ?_|refine jO ?_|refine jP ?_|refine jQ ?_|(refine jB ?_;clear hK K)|(refine jC ?_;clear hK K)|refine jD ?_|refine jE ?_|refine jG ?_|refine jH ?_|refine jI ?_)|((with_reducible refine jR ?hq ?_);case hq=>rfl)|((first|(with_reducible first|refine jS fun K hK=>?_|refine jT ?_|refine jU ?_)|((with_reducible refine jV ?hy fun K hK=>?_);case hy=>rfl));simp only [go_sem, Nat.reduceEqDiff, Nat.reduceAdd, Nat.reduceMul, Nat.reduceLeDiff, Nat.reduceLT, Int.reduceLT, Int.reduceLE, Int.reduceEq, Int.reduceNeg, Int.reduceToNat, Nat.reducePow, reduceIte, reduceCtorEq])|((with_reducible first|refine jW ?hy ?_|refine jY ?hy ?_);case hy=>rfl)|((with_reducible first|refine jX ?hy ?_|refine jZ ?hy ?_);case hy=>rfl)|((with_reducible refine jF ?hy ?_);case hy=>decide))
 generalize hH0 : H.push _ = H0
 have hf0 : Fr (fun _ => False) H H0 := by rw [← hH0]; exact (by ((repeat (first | refine Fr.set ?_ (by simp) _ | refine Fr.push ?_ _)); exact Fr.refl _ _))
 have h0 := h.grow hf0
 have b0 : Blk H0 H.size [.bool z] := by rw [← hH0]; exact Blk.new H [.bool z] _
 clear hH0
 refine has2 h0 fun H1 h1 hf1 => ?_
 have b1 := b0.frame hf1 fun h => h
 have hf01 := hf0.trans hf1
 by_cases hb : inB Q.n u = true ∧ inB Q.n v = true
 ·rw [hb.1, hb.2] at fin ⊢
  obtain ⟨a, rfl, ha⟩ := inB_nat hb.1
  obtain ⟨b, rfl, hb'⟩ := inB_nat hb.2
  simp only [Bool.and_self, if_true, Int.toNat_natCast] at fin
  have hc : (((a : Int) ≠ (b : Int)) ∧ (a, b) ∈ Q.row a) ↔ ∃ k, st ((a : Int), (b : Int)) = some k := by
   constructor
   ·rintro ⟨g1, g2⟩
    exact hR.ts a b ha (by omega) g2
   ·rintro ⟨k, hk⟩
    obtain ⟨u', v', g1, g2, g3, g4, g5⟩ := hR.sto _ k hk
    obtain ⟨g6, g7⟩ := Prod.mk.inj g1
    obtain rfl := Int.natCast_inj.1 g6
    obtain rfl := Int.natCast_inj.1 g7
    exact ⟨by omega, g4⟩
  repeat' (first|(with_reducible first|refine jA ?_|(refine hK _ _ ?_;clear hK K)|refine jJ fun K hK=>?_|refine jK ?_|refine jL ?_|refine jM ?_|refine jN ?_|refine jO ?_|refine jP ?_|refine jQ ?_|(refine jB ?_;clear hK K)|(refine jC ?_;clear hK K)|refine jD ?_|refine jE ?_|refine jG ?_|refine jH ?_|refine jI ?_)|((with_reducible refine jR ?hq ?_);case hq=>rfl)|((first|(with_reducible first|refine jS fun K hK=>?_|refine jT ?_|refine jU ?_)|((with_reducible refine jV ?hy fun K hK=>?_);case hy=>rfl));simp only [go_sem, Nat.reduceEqDiff, Nat.reduceAdd, Nat.reduceMul, Nat.reduceLeDiff, Nat.reduceLT, Int.reduceLT, Int.reduceLE, Int.reduceEq, Int.reduceNeg, Int.reduceToNat, Nat.reducePow, reduceIte, reduceCtorEq, Bool.and_self])|((with_reducible first|refine jW ?hy ?_|refine jY ?hy ?_);case hy=>rfl)|((with_reducible first|refine jX ?hy ?_|refine jZ ?hy ?_);case hy=>rfl)|((with_reducible refine jF ?hy ?_);case hy=>decide))
  have ns : ¬ ToFt t Tf B r1 r2 H.size := fun hb => by have := h.lt _ hb; omega
  by_cases hex : ((a : Int) ≠ (b : Int)) ∧ (a, b) ∈ Q.row a
  ·rw [if_pos hex] at fin
   obtain ⟨k1, hk1⟩ := hc.1 hex
   have hab : a ≠ b := by omega
   obtain ⟨k2, hk2, _, _⟩ := hR.step_of ha hab.symm ((hR.ok.tour a ha).pair hex.2)
   obtain ⟨SS, eSS⟩ : ∃ SS : Nat → Sq, SS = fun i => if i = 0 then S else if i = 1 then { S with it := fun j => if j = k1 then stepIt z else S.it j } else { S with it := fun j => if j = k2 then stepIt z else if j = k1 then stepIt z else S.it j } := ⟨_, rfl⟩
   obtain ⟨PP, ePP⟩ : ∃ PP : Nat → Int × Int, PP = fun i => if i = 0 then ((a : Int), (b : Int)) else ((b : Int), (a : Int)) := ⟨_, rfl⟩
   obtain ⟨KK, eKK⟩ : ∃ KK : Nat → Nat, KK = fun i => if i = 0 then k1 else k2 := ⟨_, rfl⟩
   have hPK : ∀ i, st (PP i) = some (KK i) := fun i => by
    rw [ePP, eKK]
    by_cases e : i = 0
    ·simp only [e, if_true]; exact hk1
    ·simp only [e, if_false]; exact hk2
   have hrowsS : ∀ i, (SS i).rows = S.rows := fun i => by
    rw [eSS]
    simp only
    split
    ·rfl
    ·split <;> rfl
   have hitS : ∀ i, i < 2 → ∃ e, (SS i).it (KK i) = stepIt e := fun i hi => by
    rw [eSS, eKK]
    rcases (show i = 0 ∨ i = 1 by omega) with rfl | rfl
    ·exact ⟨_, hR.its a b k1 hk1⟩
    ·by_cases e : k2 = k1
     ·exact ⟨z, by simp [e]⟩
     ·refine ⟨Q.em b a, ?_⟩
      simp only [Nat.one_ne_zero, if_false, if_true, e]
      exact hR.its b a k2 hk2
   have hnext : ∀ i, i < 2 → ({ SS i with it := fun j => if j = KK i then stepIt z else (SS i).it j } : Sq) = SS (i + 1) := fun i hi => by
    rw [eSS, eKK]
    rcases (show i = 0 ∨ i = 1 by omega) with rfl | rfl
    ·rfl
    ·rfl
   have hmay : mayB (stepIt z) = true := by
    rw [mayB_iff]
    exact ⟨by simp only [stepIt]; decide, by simp only [stepIt]; decide, by simp only [stepIt]; split <;> decide, by simp only [stepIt]; split <;> decide⟩
   refine x_loop (fun m e' H' => ∃ i : Nat, i ≤ 2 ∧ e' 26 = .int .i64 (i : Nat) ∧ m = 2 - i ∧ Fr (ToFt t Tf B r1 r2) H H' ∧ Blk H' H.size [.bool z] ∧ ToAt H' t f Tf (SS i) B c r1 r2 Q.n st pr) 2
    ⟨0, by omega, rfl, rfl, hf01.mono fun _ _ h => h.elim, b1, by rw [eSS]; exact h1⟩ ?_
   rintro m e1 H2 ⟨i, hi, i26, rfl, hf2, b2, h2⟩ hoff
   have i0 : e1 0 = .pointer (some ⟨t, 0, none⟩) := (hoff 0 rfl).trans rfl
   have i7 : e1 7 = .pointer (some ⟨H.size, 0, none⟩) := (hoff 7 rfl).trans rfl
   have i25 : e1 25 = .agg #[.int .i64 a, .int .i64 b, .int .i64 b, .int .i64 a] := (hoff 25 rfl).trans rfl
   clear hoff
   by_cases hlt : i < 2
   ·have hext : (#[Value.int .i64 a, .int .i64 b, .int .i64 b, .int .i64 a] : Array Value).extract (i * 2) (i * 2 + 2) = #[.int .i64 (PP i).1, .int .i64 (PP i).2] := by
     rw [ePP]
     rcases (show i = 0 ∨ i = 1 by omega) with rfl | rfl <;> rfl
    have hltI : ((i : Int) < 2) = True := by simp; omega
    repeat' (first|(with_reducible first|refine jA ?_|(refine hK _ _ ?_;clear hK K)|refine jJ fun K hK=>?_|refine jK ?_|refine jL ?_|refine jM ?_|refine jN ?_|refine jO ?_|refine jP ?_|refine jQ ?_|(refine jB ?_;clear hK K)|(refine jC ?_;clear hK K)|refine jD ?_|refine jE ?_|refine jG ?_|refine jH ?_|refine jI ?_)|((with_reducible refine jR ?hq ?_);case hq=>rfl)|((first|(with_reducible first|refine jS fun K hK=>?_|refine jT ?_|refine jU ?_)|((with_reducible refine jV ?hy fun K hK=>?_);case hy=>rfl));simp only [go_sem, Nat.reduceEqDiff, Nat.reduceAdd, Nat.reduceMul, Nat.reduceLeDiff, Nat.reduceLT, Int.reduceLT, Int.reduceLE, Int.reduceEq, Int.reduceNeg, Int.reduceToNat, Nat.reducePow, reduceIte, reduceCtorEq, i26, i25, hlt, hltI, indexVX])|((with_reducible first|refine jW ?hy ?_|refine jY ?hy ?_);case hy=>rfl)|((with_reducible first|refine jX ?hy ?_|refine jZ ?hy ?_);case hy=>rfl)|((with_reducible refine jF ?hy ?_);case hy=>decide))
    refine ⟨_, rd_part2 (fun n => .agg ((#[Value.int .i64 a, .int .i64 b, .int .i64 b, .int .i64 a] : Array Value).extract (i * 2) (i * 2 + n))) _, ?_⟩
    rw [hext]
    have bn := Blk.new H2 [.int .i64 0, .int .i64 0] 83
    have w0 := bn.okW (i := 0) (by simp)
    have w1 := bn.okW (i := 1) (by simp)
    have fn : Fr (fun _ => False) H2 (H2.push (.cells #[.int .i64 0, .int .i64 0] 83)) := (Fr.refl _ H2).push _
    repeat' (first|(with_reducible first|refine jA ?_|(refine hK _ _ ?_;clear hK K)|refine jJ fun K hK=>?_|refine jK ?_|refine jL ?_|refine jM ?_|refine jN ?_|refine jO ?_|refine jP ?_|refine jQ ?_|(refine jB ?_;clear hK K)|(refine jC ?_;clear hK K)|refine jD ?_|refine jE ?_|refine jG ?_|refine jH ?_|refine jI ?_)|((with_reducible refine jR ?hq ?_);case hq=>rfl)|((first|(with_reducible first|refine jS fun K hK=>?_|refine jT ?_|refine jU ?_)|((with_reducible refine jV ?hy fun K hK=>?_);case hy=>rfl));simp only [go_sem, Nat.reduceEqDiff, Nat.reduceAdd, Nat.reduceMul, Nat.reduceLeDiff, Nat.reduceLT, Int.reduceLT, Int.reduceLE, Int.reduceEq, Int.reduceNeg, Int.reduceToNat, Nat.reducePow, reduceIte, reduceCtorEq, w0, w1, okW_hset])|((with_reducible first|refine jW ?hy ?_|refine jY ?hy ?_);case hy=>rfl)|((with_reducible first|refine jX ?hy ?_|refine jZ ?hy ?_);case hy=>rfl)|((with_reducible refine jF ?hy ?_);case hy=>decide))
    obtain ⟨b3, f3⟩ := store2 bn (.int .i64 (PP i).1) (.int .i64 (PP i).2)
    generalize hset _ _ _ = H3 at b3 f3 ⊢
    have f23 : Fr (fun _ => False) H2 H3 := fn.trans' f3 fun b hb (e : b = H2.size) => by omega
    have h3' := h2.grow f23
    have d2 := h3'.hd.cellOf (i := 2) rfl
    have g0 := b3.cellOf (i := 0) rfl
    have g1 := b3.cellOf (i := 1) rfl
    simp only [go_sem, Nat.reduceEqDiff, Nat.reduceAdd, Nat.reduceMul, Nat.reduceLeDiff, Nat.reduceLT, Int.reduceLT, Int.reduceLE, Int.reduceEq, Int.reduceNeg, Int.reduceToNat, Nat.reducePow, reduceIte, reduceCtorEq, d2, i0]
    repeat' (first|(with_reducible first|refine jA ?_|(refine hK _ _ ?_;clear hK K)|refine jJ fun K hK=>?_|refine jK ?_|refine jL ?_|refine jM ?_|refine jN ?_|refine jO ?_|refine jP ?_|refine jQ ?_|(refine jB ?_;clear hK K)|(refine jC ?_;clear hK K)|refine jD ?_|refine jE ?_|refine jG ?_|refine jH ?_|refine jI ?_)|((with_reducible refine jR ?hq ?_);case hq=>rfl)|((first|(with_reducible first|refine jS fun K hK=>?_|refine jT ?_|refine jU ?_)|((with_reducible refine jV ?hy fun K hK=>?_);case hy=>rfl));simp only [go_sem, Nat.reduceEqDiff, Nat.reduceAdd, Nat.reduceMul, Nat.reduceLeDiff, Nat.reduceLT, Int.reduceLT, Int.reduceLE, Int.reduceEq, Int.reduceNeg, Int.reduceToNat, Nat.reducePow, reduceIte, reduceCtorEq, i0, d2, g0, g1])|((with_reducible first|refine jW ?hy ?_|refine jY ?hy ?_);case hy=>rfl)|((with_reducible first|refine jX ?hy ?_|refine jZ ?hy ?_);case hy=>rfl)|((with_reducible refine jF ?hy ?_);case hy=>decide))
    refine rd_lookupQ (vf := natV) mapT_steps kArr h3'.m1.choose_spec (PP i) true ?_
    rw [hPK i]
    simp only [Option.map_some, gotV, natV, if_true]
    repeat' (first|(with_reducible first|refine jA ?_|(refine hK _ _ ?_;clear hK K)|refine jJ fun K hK=>?_|refine jK ?_|refine jL ?_|refine jM ?_|refine jN ?_|refine jO ?_|refine jP ?_|refine jQ ?_|(refine jB ?_;clear hK K)|(refine jC ?_;clear hK K)|refine jD ?_|refine jE ?_|refine jG ?_|refine jH ?_|refine jI ?_)|((with_reducible refine jR ?hq ?_);case hq=>rfl)|((first|(with_reducible first|refine jS fun K hK=>?_|refine jT ?_|refine jU ?_)|((with_reducible refine jV ?hy fun K hK=>?_);case hy=>rfl));simp only [go_sem, Nat.reduceEqDiff, Nat.reduceAdd, Nat.reduceMul, Nat.reduceLeDiff, Nat.reduceLT, Int.reduceLT, Int.reduceLE, Int.reduceEq, Int.reduceNeg, Int.reduceToNat, Nat.reducePow, reduceIte, reduceCtorEq, i0, i7])|((with_reducible first|refine jW ?hy ?_|refine jY ?hy ?_);case hy=>rfl)|((with_reducible first|refine jX ?hy ?_|refine jZ ?hy ?_);case hy=>rfl)|((with_reducible refine jF ?hy ?_);case hy=>decide))
    have b2' := b2.frame f23 fun h => h
    refine lay_ok (y := stepIt z) h3' (by rw [hrowsS]; exact hR.st_flat (hPK i)) (b2'.cellOf (i := 0) rfl) (fun hb => ns (.fo hb)) ⟨by simp only [stepIt]; decide, by simp only [stepIt]; split <;> decide, by simp only [stepIt]; split <;> decide⟩ (fun H4 q M hb hw _ hfin => ?_) fun H4 h4' hf4 => ?_
    ·obtain ⟨e, he⟩ := hitS i hlt
     rw [he] at hb
     exact setE_ok hb hw hfin
    ·rw [hmay] at h4' ⊢
     simp only [if_true] at h4'
     rw [hnext i hlt] at h4'
     have ew : IntKind.i64.wrap ((i : Int) + 1) = ((i + 1 : Nat) : Int) := by rw [wrap_i64] <;> omega
     repeat' (first|(with_reducible first|refine jA ?_|(refine hK _ _ ?_;clear hK K)|refine jJ fun K hK=>?_|refine jK ?_|refine jL ?_|refine jM ?_|refine jN ?_|refine jO ?_|refine jP ?_|refine jQ ?_|(refine jB ?_;clear hK K)|(refine jC ?_;clear hK K)|refine jD ?_|refine jE ?_|refine jG ?_|refine jH ?_|refine jI ?_)|((with_reducible refine jR ?hq ?_);case hq=>rfl)|((first|(with_reducible first|refine jS fun K hK=>?_|refine jT ?_|refine jU ?_)|((with_reducible refine jV ?hy fun K hK=>?_);case hy=>rfl));simp only [go_sem, Nat.reduceEqDiff, Nat.reduceAdd, Nat.reduceMul, Nat.reduceLeDiff, Nat.reduceLT, Int.reduceLT, Int.reduceLE, Int.reduceEq, Int.reduceNeg, Int.reduceToNat, Nat.reducePow, reduceIte, reduceCtorEq, i26, ew])|((with_reducible first|refine jW ?hy ?_|refine jY ?hy ?_);case hy=>rfl)|((with_reducible first|refine jX ?hy ?_|refine jZ ?hy ?_);case hy=>rfl)|((with_reducible refine jF ?hy ?_);case hy=>decide))
     exact loop_normal (m' := 2 - (i + 1)) (by omega) ⟨i + 1, by omega, rfl, rfl, (hf2.trans (f23.mono fun _ _ h => h.elim)).trans (hf4.mono fun b _ hb => .fo hb), b2'.frame hf4 fun hb => ns (.fo hb), h4'⟩
   ·obtain rfl : i = 2 := by omega
    have hltI : ((2 : Int) < 2) = False := by simp
    simp only [Int.cast_ofNat_Int] at i26
    repeat' (first|(with_reducible first|refine jA ?_|(refine hK _ _ ?_;clear hK K)|refine jJ fun K hK=>?_|refine jK ?_|refine jL ?_|refine jM ?_|refine jN ?_|refine jO ?_|refine jP ?_|refine jQ ?_|(refine jB ?_;clear hK K)|(refine jC ?_;clear hK K)|refine jD ?_|refine jE ?_|refine jG ?_|refine jH ?_|refine jI ?_)|((with_reducible refine jR ?hq ?_);case hq=>rfl)|((first|(with_reducible first|refine jS fun K hK=>?_|refine jT ?_|refine jU ?_)|((with_reducible refine jV ?hy fun K hK=>?_);case hy=>rfl));simp only [go_sem, Nat.reduceEqDiff, Nat.reduceAdd, Nat.reduceMul, Nat.reduceLeDiff, Nat.reduceLT, Int.reduceLT, Int.reduceLE, Int.reduceEq, Int.reduceNeg, Int.reduceToNat, Nat.reducePow, reduceIte, reduceCtorEq, i26, hltI])|((with_reducible first|refine jW ?hy ?_|refine jY ?hy ?_);case hy=>rfl)|((with_reducible first|refine jX ?hy ?_|refine jZ ?hy ?_);case hy=>rfl)|((with_reducible refine jF ?hy ?_);case hy=>decide))
    have hfin : ToAt H2 t f Tf { S with it := fun j => if j = k2 then stepIt z else if j = k1 then stepIt z else S.it j } B c r1 r2 Q.n st pr := by rw [eSS] at h2; exact h2
    exact ToM.after h3 h4 (Q' := { Q with em := fun x y => if (x, y) = (a, b) ∨ (x, y) = (b, a) then z else Q.em x y }) hfin (hR.mark2 ha hab hex.2 hk1 hk2) hf2 (fun b hb => .inl hb) fun T'' a b c => fin _ T'' a b c
  ·rw [if_neg hex] at fin
   have hno : st ((a : Int), (b : Int)) = none := by
    cases hs : st ((a : Int), (b : Int)) with
    | none => rfl
    | some k => exact absurd (hc.2 ⟨k, hs⟩) hex
   refine x_loop (fun m e' H' => H' = H1 ∧ e' 26 = .int .i64 0) 1 ⟨rfl, rfl⟩ ?_
   rintro m e1 H2 ⟨rfl, i26⟩ hoff
   have i0 : e1 0 = .pointer (some ⟨t, 0, none⟩) := (hoff 0 rfl).trans rfl
   have i25 : e1 25 = .agg #[.int .i64 a, .int .i64 b, .int .i64 b, .int .i64 a] := (hoff 25 rfl).trans rfl
   clear hoff
   have hltI : ((0 : Int) < 2) = True := by simp
   repeat' (first|(with_reducible first|refine jA ?_|(refine hK _ _ ?_;clear hK K)|refine jJ fun K hK=>?_|refine jK ?_|refine jL ?_|refine jM ?_|refine jN ?_|refine jO ?_|refine jP ?_|refine jQ ?_|(refine jB ?_;clear hK K)|(refine jC ?_;clear hK K)|refine jD ?_|refine jE ?_|refine jG ?_|refine jH ?_|refine jI ?_)|((with_reducible refine jR ?hq ?_);case hq=>rfl)|((first|(with_reducible first|refine jS fun K hK=>?_|refine jT ?_|refine jU ?_)|((with_reducible refine jV ?hy fun K hK=>?_);case hy=>rfl));simp only [go_sem, Nat.reduceEqDiff, Nat.reduceAdd, Nat.reduceMul, Nat.reduceLeDiff, Nat.reduceLT, Int.reduceLT, Int.reduceLE, Int.reduceEq, Int.reduceNeg, Int.reduceToNat, Nat.reducePow, reduceIte, reduceCtorEq, i26, i25, hltI, indexVX])|((with_reducible first|refine jW ?hy ?_|refine jY ?hy ?_);case hy=>rfl)|((with_reducible first|refine jX ?hy ?_|refine jZ ?hy ?_);case hy=>rfl)|((with_reducible refine jF ?hy ?_);case hy=>decide))
   refine ⟨_, rd_part2 (fun n => .agg ((#[Value.int .i64 a, .int .i64 b, .int .i64 b, .int .i64 a] : Array Value).extract 0 n)) _, ?_⟩
   have hext : (#[Value.int .i64 a, .int .i64 b, .int .i64 b, .int .i64 a] : Array Value).extract 0 2 = #[.int .i64 a, .int .i64 b] := rfl
   rw [hext]
   have bn := Blk.new H2 [.int .i64 0, .int .i64 0] 83
   have w0 := bn.okW (i := 0) (by simp)
   have w1 := bn.okW (i := 1) (by simp)
   have fn : Fr (fun _ => False) H2 (H2.push (.cells #[.int .i64 0, .int .i64 0] 83)) := (Fr.refl _ H2).push _
   repeat' (first|(with_reducible first|refine jA ?_|(refine hK _ _ ?_;clear hK K)|refine jJ fun K hK=>?_|refine jK ?_|refine jL ?_|refine jM ?_|refine jN ?_|refine jO ?_|refine jP ?_|refine jQ ?_|(refine jB ?_;clear hK K)|(refine jC ?_;clear hK K)|refine jD ?_|refine jE ?_|refine jG ?_|refine jH ?_|refine jI ?_)|((with_reducible refine jR ?hq ?_);case hq=>rfl)|((first|(with_reducible first|refine jS fun K hK=>?_|refine jT ?_|refine jU ?_)|((with_reducible refine jV ?hy fun K hK=>?_);case hy=>rfl));simp only [go_sem, Nat.reduceEqDiff, Nat.reduceAdd, Nat.reduceMul, Nat.reduceLeDiff, Nat.reduceLT, Int.reduceLT, Int.reduceLE, Int.reduceEq, Int.reduceNeg, Int.reduceToNat, Nat.reducePow, reduceIte, reduceCtorEq, w0, w1, okW_hset])|((with_reducible first|refine jW ?hy ?_|refine jY ?hy ?_);case hy=>rfl)|((with_reducible first|refine jX ?hy ?_|refine jZ ?hy ?_);case hy=>rfl)|((with_reducible refine jF ?hy ?_);case hy=>decide))
   obtain ⟨b3, f3⟩ := store2 bn (.int .i64 a) (.int .i64 b)
   generalize hset _ _ _ = H3 at b3 f3 ⊢
   have f23 : Fr (fun _ => False) H2 H3 := fn.trans' f3 fun b hb (e : b = H2.size) => by omega
   have h3' := h1.grow f23
   have d2 := h3'.hd.cellOf (i := 2) rfl
   have g0 := b3.cellOf (i := 0) rfl
   have g1 := b3.cellOf (i := 1) rfl
   simp only [go_sem, Nat.reduceEqDiff, Nat.reduceAdd, Nat.reduceMul, Nat.reduceLeDiff, Nat.reduceLT, Int.reduceLT, Int.reduceLE, Int.reduceEq, Int.reduceNeg, Int.reduceToNat, Nat.reducePow, reduceIte, reduceCtorEq, d2, i0]
   repeat' (first|(with_reducible first|refine jA ?_|(refine hK _ _ ?_;clear hK K)|refine jJ fun K hK=>?_|refine jK ?_|refine jL ?_|refine jM ?_|refine jN ?_|refine jO ?_|refine jP ?_|refine jQ ?_|(refine jB ?_;clear hK K)|(refine jC ?_;clear hK K)|refine jD ?_|refine jE ?_|refine jG ?_|refine jH ?_|refine jI ?_)|((with_reducible refine jR ?hq ?_);case hq=>rfl)|((first|(with_reducible first|refine jS fun K hK=>?_|refine jT ?_|refine jU ?_)|((with_reducible refine jV ?hy fun K hK=>?_);case hy=>rfl));simp only [go_sem, Nat.reduceEqDiff, Nat.reduceAdd, Nat.reduceMul, Nat.reduceLeDiff, Nat.reduceLT, Int.reduceLT, Int.reduceLE, Int.reduceEq, Int.reduceNeg, Int.reduceToNat, Nat.reducePow, reduceIte, reduceCtorEq, i0, d2, g0, g1])|((with_reducible first|refine jW ?hy ?_|refine jY ?hy ?_);case hy=>rfl)|((with_reducible first|refine jX ?hy ?_|refine jZ ?hy ?_);case hy=>rfl)|((with_reducible refine jF ?hy ?_);case hy=>decide))
   refine rd_lookupQ (vf := natV) mapT_steps kArr h3'.m1.choose_spec ((a : Int), (b : Int)) true ?_
   rw [hno]
   simp only [Option.map_none, gotV, if_true]
   repeat' (first|(with_reducible first|refine jA ?_|(refine hK _ _ ?_;clear hK K)|refine jJ fun K hK=>?_|refine jK ?_|refine jL ?_|refine jM ?_|refine jN ?_|refine jO ?_|refine jP ?_|refine jQ ?_|(refine jB ?_;clear hK K)|(refine jC ?_;clear hK K)|refine jD ?_|refine jE ?_|refine jG ?_|refine jH ?_|refine jI ?_)|((with_reducible refine jR ?hq ?_);case hq=>rfl)|((first|(with_reducible first|refine jS fun K hK=>?_|refine jT ?_|refine jU ?_)|((with_reducible refine jV ?hy fun K hK=>?_);case hy=>rfl));simp only [go_sem, Nat.reduceEqDiff, Nat.reduceAdd, Nat.reduceMul, Nat.reduceLeDiff, Nat.reduceLT, Int.reduceLT, Int.reduceLE, Int.reduceEq, Int.reduceNeg, Int.reduceToNat, Nat.reducePow, reduceIte, reduceCtorEq])|((with_reducible first|refine jW ?hy ?_|refine jY ?hy ?_);case hy=>rfl)|((with_reducible first|refine jX ?hy ?_|refine jZ ?hy ?_);case hy=>rfl)|((with_reducible refine jF ?hy ?_);case hy=>decide))
   exact ToM.after h3 h4 h3' hR ((hf01.trans f23).mono fun _ _ h => h.elim) (fun b hb => .inl hb) fun T'' a b c => fin _ T'' a b c
 ·rw [inB_no hb] at fin ⊢
  repeat' (first|(with_reducible first|refine jA ?_|(refine hK _ _ ?_;clear hK K)|refine jJ fun K hK=>?_|refine jK ?_|refine jL ?_|refine jM ?_|refine jN ?_|refine jO ?_|refine jP ?_|refine jQ ?_|(refine jB ?_;clear hK K)|(refine jC ?_;clear hK K)|refine jD ?_|refine jE ?_|refine jG ?_|refine jH ?_|refine jI ?_)|((with_reducible refine jR ?hq ?_);case hq=>rfl)|((first|(with_reducible first|refine jS fun K hK=>?_|refine jT ?_|refine jU ?_)|((with_reducible refine jV ?hy fun K hK=>?_);case hy=>rfl));simp only [go_sem, Nat.reduceEqDiff, Nat.reduceAdd, Nat.reduceMul, Nat.reduceLeDiff, Nat.reduceLT, Int.reduceLT, Int.reduceLE, Int.reduceEq, Int.reduceNeg, Int.reduceToNat, Nat.reducePow, reduceIte, reduceCtorEq])|((with_reducible first|refine jW ?hy ?_|refine jY ?hy ?_);case hy=>rfl)|((with_reducible first|refine jX ?hy ?_|refine jZ ?hy ?_);case hy=>rfl)|((with_reducible refine jF ?hy ?_);case hy=>decide))
  exact ToM.after h3 h4 h1 hR (hf01.mono fun _ _ h => h.elim) (fun b hb => .inl hb) fun T'' a b c => fin _ T'' a b c
end
end Go.Proofs.Ytnlafhnbakipmaa
namespace Go.To
open Go Go.Hp Go.Sp Go.Proofs.Ytnlafhnbakipmaa
section
variable {S : Sq} {Q : Tq} {st : Int × Int → Option Nat} {pr : Int → Option (Int × Int)}
theorem Rel.pr_stop (h : Rel S Q st pr) {v : Nat} (hv : v < Q.n) : pr ((v + 1 : Nat) : Int) = none := by
 cases hp : pr ((v + 1 : Nat) : Int) with
 | none => rfl
 | some p =>
  obtain ⟨k, e, hk⟩ := (h.pro _ _).1 hp
  obtain ⟨_, _, _, _, _, _, hn⟩ := h.sto _ _ hk
  have := Int.natCast_inj.1 e
  omega
theorem Rel.pr_step (h : Rel S Q st pr) {w : Nat} (hw : w < Q.n) {x : St} (hx : x ∈ Q.row w) (hne : x.1 ≠ x.2) : pr ((hd st x : Nat) : Int) = some ((x.1 : Int), (x.2 : Int)) := by
 obtain ⟨a, b⟩ := x
 obtain ⟨k, h1, h2, _⟩ := h.step_of hw hne hx
 rw [h2]
 exact (h.pro _ _).2 ⟨k, rfl, h1⟩
theorem find_map {α β : Type} (f : α → β) (p : β → Bool) (q : α → Bool) : ∀ (l : List α), (∀ x ∈ l, p (f x) = q x) → (l.map f).find? p = (l.find? q).map f
 | [], _ => rfl
 | x :: l, h => by
  rw [List.map_cons, List.find?_cons, List.find?_cons, h x (.head _)]
  cases q x with
  | true => rfl
  | false => exact find_map f p q l fun y hy => h y (.tail _ hy)
theorem Rel.first1 (h : Rel S Q st pr) {w : Nat} (hw : w < Q.n) : firstF S.it 1 ((Q.row w).map (hd st)) = ((Q.row w).find? fun x => x.1 == x.2 && Q.on x.1).map (hd st) := by
 unfold firstF
 refine find_map _ _ _ _ fun x hx => ?_
 unfold hasF
 rw [h.it_hd hw hx]
 unfold Tq.item
 by_cases e : x.1 = x.2
 ·rw [if_pos e]
  have : (x.1 == x.2) = true := by simp [e]
  rw [this]
  cases Q.on x.1 <;> simp [stopIt]
 ·rw [if_neg e]
  have : (x.1 == x.2) = false := by simp [e]
  rw [this]
  cases Q.em x.1 x.2 <;> simp [stepIt]
theorem Rel.first2 (h : Rel S Q st pr) {w : Nat} (hw : w < Q.n) : firstF S.it 2 ((Q.row w).map (hd st)) = ((Q.row w).find? fun x => x.1 != x.2 && Q.em x.1 x.2).map (hd st) := by
 unfold firstF
 refine find_map _ _ _ _ fun x hx => ?_
 unfold hasF
 rw [h.it_hd hw hx]
 unfold Tq.item
 by_cases e : x.1 = x.2
 ·rw [if_pos e]
  have : (x.1 != x.2) = false := by simp [e]
  rw [this]
  cases Q.on x.1 <;> simp [stopIt]
 ·rw [if_neg e]
  have : (x.1 != x.2) = true := by simp [e]
  rw [this]
  cases Q.em x.1 x.2 <;> simp [stepIt]
end
end Go.To
namespace Go.Proofs.Ytnlafhnbakipmaa
open Go Go.Hp Go.Sp Go.To
set_option linter.all false
set_option maxRecDepth 100000
set_option maxHeartbeats 1600000
section
variable {H H' : Heap} {t f : Nat} {T Tf T' : Nat → Prop} {S S' : Sq} {Q Q' : Tq} {B c r1 r2 n : Nat} {st st' : Int × Int → Option Nat} {pr pr' : Int → Option (Int × Int)} {K L : Value → Heap → Prop}
theorem vertex_ok {v : Nat} (h : ToAt H t f Tf S B c r1 r2 n st pr) (hv : v < n) (hn : n ≤ 64) (fin : L (.int .i64 (v : Nat)) H) :
  CallsH Try.prog 40 #[.pointer (some ⟨t, 0, none⟩), .int .i64 ((v + 1 : Nat) : Int)] H L := by
 have c1 := h.hd.cellOf (i := 1) rfl
 have c0 := h.stop (v := 0) (by omega)
 have t0 : (0 < n) = True := by simp; omega
 have t0' : ((0 : Int) < (n : Int)) = True := by simp; omega
 have ew : IntKind.i64.wrap (((v + 1 : Nat) : Int) - ((0 + 1 : Nat) : Int)) = (v : Int) := by rw [wrap_i64] <;> omega
 have ew' : IntKind.i64.wrap (((v + 1 : Nat) : Int) - 1) = (v : Int) := by rw [wrap_i64] <;> omega
 refine call40 (by simp) ?_
 simp only [Try.f40, Option.getD_some]
 repeat' (first|(with_reducible first|refine jA ?_|(refine hK _ _ ?_;clear hK K)|refine jJ fun K hK=>?_|refine jK ?_|refine jL ?_|refine jM ?_|refine jN ?_|refine jO ?_|refine jP ?_|refine jQ ?_|(refine jB ?_;clear hK K)|(refine jC ?_;clear hK K)|refine jD ?_|refine jE ?_|refine jG ?_|refine jH ?_|refine jI ?_)|((with_reducible refine jR ?hq ?_);case hq=>rfl)|((first|(with_reducible first|refine jS fun K hK=>?_|refine jT ?_|refine jU ?_)|((with_reducible refine jV ?hy fun K hK=>?_);case hy=>rfl));simp only [go_sem, Nat.reduceEqDiff, Nat.reduceAdd, Nat.reduceMul, Nat.reduceLeDiff, Nat.reduceLT, Int.reduceLT, Int.reduceLE, Int.reduceEq, Int.reduceNeg, Int.reduceToNat, Nat.reducePow, reduceIte, reduceCtorEq, c1, c0, t0, t0', ew, ew'])|((with_reducible first|refine jW ?hy ?_|refine jY ?hy ?_);case hy=>rfl)|((with_reducible first|refine jX ?hy ?_|refine jZ ?hy ?_);case hy=>rfl)|((with_reducible refine jF ?hy ?_);case hy=>decide))
 exact fin
theorem tq_marked {v : Int} (hM : ToM H t T Q) (fin : ∀ H' T', ToM H' t T' Q → Fr T H H' → (∀ b, T' b → T b ∨ H.size ≤ b) → L (.tuple #[.int .i64 (Q.markedQ v).1, .int .i64 (Q.markedQ v).2]) H') :
  CallsH Try.prog 60 #[.pointer (some ⟨t, 0, none⟩), .int .i64 v] H L := by
 obtain ⟨f, Tf, S, B, c, r1, r2, st, pr, h, hR, h3, h4⟩ := hM
 unfold Tq.markedQ at fin
 refine call60 (by simp) ?_
 simp only [Try.f60, Option.getD_some]
 repeat' (first|(with_reducible first|refine jA ?_|(refine hK _ _ ?_;clear hK K)|refine jJ fun K hK=>?_|refine jK ?_|refine jL ?_|refine jM ?_|refine jN ?_|refine jO ?_|refine jP ?_|refine jQ ?_|(refine jB ?_;clear hK K)|(refine jC ?_;clear hK K)|refine jD ?_|refine jE ?_|refine jG ?_|refine jH ?_|refine jI ?_)|((with_reducible refine jR ?hq ?_);case hq=>rfl)|((first|(with_reducible first|refine jS fun K hK=>?_|refine jT ?_|refine jU ?_)|((with_reducible refine jV ?hy fun K hK=>?_);case hy=>rfl));simp only [go_sem, Nat.reduceEqDiff, Nat.reduceAdd, Nat.reduceMul, Nat.reduceLeDiff, Nat.reduceLT, Int.reduceLT, Int.reduceLE, Int.reduceEq, Int.reduceNeg, Int.reduceToNat, Nat.reducePow, reduceIte, reduceCtorEq])|((with_reducible first|refine jW ?hy ?_|refine jY ?hy ?_);case hy=>rfl)|((with_reducible first|refine jX ?hy ?_|refine jZ ?hy ?_);case hy=>rfl)|((with_reducible refine jF ?hy ?_);case hy=>decide))
 refine has1 h fun H1 h1 hf1 => ?_
 cases hb : inB Q.n v with
 | false =>
  rw [hb] at fin
  repeat' (first|(with_reducible first|refine jA ?_|(refine hK _ _ ?_;clear hK K)|refine jJ fun K hK=>?_|refine jK ?_|refine jL ?_|refine jM ?_|refine jN ?_|refine jO ?_|refine jP ?_|refine jQ ?_|(refine jB ?_;clear hK K)|(refine jC ?_;clear hK K)|refine jD ?_|refine jE ?_|refine jG ?_|refine jH ?_|refine jI ?_)|((with_reducible refine jR ?hq ?_);case hq=>rfl)|((first|(with_reducible first|refine jS fun K hK=>?_|refine jT ?_|refine jU ?_)|((with_reducible refine jV ?hy fun K hK=>?_);case hy=>rfl));simp only [go_sem, Nat.reduceEqDiff, Nat.reduceAdd, Nat.reduceMul, Nat.reduceLeDiff, Nat.reduceLT, Int.reduceLT, Int.reduceLE, Int.reduceEq, Int.reduceNeg, Int.reduceToNat, Nat.reducePow, reduceIte, reduceCtorEq])|((with_reducible first|refine jW ?hy ?_|refine jY ?hy ?_);case hy=>rfl)|((with_reducible first|refine jX ?hy ?_|refine jZ ?hy ?_);case hy=>rfl)|((with_reducible refine jF ?hy ?_);case hy=>decide))
  exact ToM.after h3 h4 h1 hR (hf1.mono fun _ _ h => h.elim) (fun b hb => .inl hb) fun T'' a b c => fin _ T'' a b c
 | true =>
  rw [hb] at fin
  obtain ⟨a, rfl, ha⟩ := inB_nat hb
  simp only [if_true, Int.toNat_natCast] at fin
  have d0 := h1.hd.cellOf (i := 0) rfl
  have d1 := h1.hd.cellOf (i := 1) rfl
  have da := h1.stop ha
  repeat' (first|(with_reducible first|refine jA ?_|(refine hK _ _ ?_;clear hK K)|refine jJ fun K hK=>?_|refine jK ?_|refine jL ?_|refine jM ?_|refine jN ?_|refine jO ?_|refine jP ?_|refine jQ ?_|(refine jB ?_;clear hK K)|(refine jC ?_;clear hK K)|refine jD ?_|refine jE ?_|refine jG ?_|refine jH ?_|refine jI ?_)|((with_reducible refine jR ?hq ?_);case hq=>rfl)|((first|(with_reducible first|refine jS fun K hK=>?_|refine jT ?_|refine jU ?_)|((with_reducible refine jV ?hy fun K hK=>?_);case hy=>rfl));simp only [go_sem, Nat.reduceEqDiff, Nat.reduceAdd, Nat.reduceMul, Nat.reduceLeDiff, Nat.reduceLT, Int.reduceLT, Int.reduceLE, Int.reduceEq, Int.reduceNeg, Int.reduceToNat, Nat.reducePow, reduceIte, reduceCtorEq, d0, d1, da, ha])|((with_reducible first|refine jW ?hy ?_|refine jY ?hy ?_);case hy=>rfl)|((with_reducible first|refine jX ?hy ?_|refine jZ ?hy ?_);case hy=>rfl)|((with_reducible refine jF ?hy ?_);case hy=>decide))
  refine m_flagged (fl := 1) h1.fo (hR.row_mem ha) (hR.stop_in ha) (by omega) fun H2 hF2 hf2 => ?_
  have h2 := h1.op hF2 hf2
  have hff : Fr (ToFt t Tf B r1 r2) H H2 := (hf1.mono fun _ _ h => h.elim).trans (hf2.mono fun b _ hb => .fo hb)
  rw [hR.first1 ha]
  cases hf : (Q.row a).find? fun x => x.1 == x.2 && Q.on x.1 with
  | none =>
   rw [hf] at fin
   have t1 : ((35 : Int) != 0) = true := rfl
   simp only [Option.map_none, Option.isSome_none, Bool.false_eq_true, if_false]
   repeat' (first|(with_reducible first|refine jA ?_|(refine hK _ _ ?_;clear hK K)|refine jJ fun K hK=>?_|refine jK ?_|refine jL ?_|refine jM ?_|refine jN ?_|refine jO ?_|refine jP ?_|refine jQ ?_|(refine jB ?_;clear hK K)|(refine jC ?_;clear hK K)|refine jD ?_|refine jE ?_|refine jG ?_|refine jH ?_|refine jI ?_)|((with_reducible refine jR ?hq ?_);case hq=>rfl)|((first|(with_reducible first|refine jS fun K hK=>?_|refine jT ?_|refine jU ?_)|((with_reducible refine jV ?hy fun K hK=>?_);case hy=>rfl));simp only [go_sem, Nat.reduceEqDiff, Nat.reduceAdd, Nat.reduceMul, Nat.reduceLeDiff, Nat.reduceLT, Int.reduceLT, Int.reduceLE, Int.reduceEq, Int.reduceNeg, Int.reduceToNat, Nat.reducePow, reduceIte, reduceCtorEq, t1])|((with_reducible first|refine jW ?hy ?_|refine jY ?hy ?_);case hy=>rfl)|((with_reducible first|refine jX ?hy ?_|refine jZ ?hy ?_);case hy=>rfl)|((with_reducible refine jF ?hy ?_);case hy=>decide))
   exact ToM.after h3 h4 h2 hR hff (fun b hb => .inl hb) fun T'' a b c => fin _ T'' a b c
  | some x =>
   rw [hf] at fin
   obtain ⟨p, q⟩ := x
   have hx := List.mem_of_find?_eq_some hf
   have hp := List.find?_some hf
   simp only [Bool.and_eq_true, beq_iff_eq] at hp
   obtain ⟨rfl, _⟩ := hp
   have hpn := (hR.ok.of_mem ha hx).1
   have t1 : ((0 : Int) != 0) = false := rfl
   simp only [Option.map_some, Option.isSome_some, if_true, Option.getD_some, hd_stop]
   repeat' (first|(with_reducible first|refine jA ?_|(refine hK _ _ ?_;clear hK K)|refine jJ fun K hK=>?_|refine jK ?_|refine jL ?_|refine jM ?_|refine jN ?_|refine jO ?_|refine jP ?_|refine jQ ?_|(refine jB ?_;clear hK K)|(refine jC ?_;clear hK K)|refine jD ?_|refine jE ?_|refine jG ?_|refine jH ?_|refine jI ?_)|((with_reducible refine jR ?hq ?_);case hq=>rfl)|((first|(with_reducible first|refine jS fun K hK=>?_|refine jT ?_|refine jU ?_)|((with_reducible refine jV ?hy fun K hK=>?_);case hy=>rfl));simp only [go_sem, Nat.reduceEqDiff, Nat.reduceAdd, Nat.reduceMul, Nat.reduceLeDiff, Nat.reduceLT, Int.reduceLT, Int.reduceLE, Int.reduceEq, Int.reduceNeg, Int.reduceToNat, Nat.reducePow, reduceIte, reduceCtorEq, t1])|((with_reducible first|refine jW ?hy ?_|refine jY ?hy ?_);case hy=>rfl)|((with_reducible first|refine jX ?hy ?_|refine jZ ?hy ?_);case hy=>rfl)|((with_reducible refine jF ?hy ?_);case hy=>decide))
   refine vertex_ok h2 hpn hR.ok.n64 ?_
   repeat' (first|(with_reducible first|refine jA ?_|(refine hK _ _ ?_;clear hK K)|refine jJ fun K hK=>?_|refine jK ?_|refine jL ?_|refine jM ?_|refine jN ?_|refine jO ?_|refine jP ?_|refine jQ ?_|(refine jB ?_;clear hK K)|(refine jC ?_;clear hK K)|refine jD ?_|refine jE ?_|refine jG ?_|refine jH ?_|refine jI ?_)|((with_reducible refine jR ?hq ?_);case hq=>rfl)|((first|(with_reducible first|refine jS fun K hK=>?_|refine jT ?_|refine jU ?_)|((with_reducible refine jV ?hy fun K hK=>?_);case hy=>rfl));simp only [go_sem, Nat.reduceEqDiff, Nat.reduceAdd, Nat.reduceMul, Nat.reduceLeDiff, Nat.reduceLT, Int.reduceLT, Int.reduceLE, Int.reduceEq, Int.reduceNeg, Int.reduceToNat, Nat.reducePow, reduceIte, reduceCtorEq])|((with_reducible first|refine jW ?hy ?_|refine jY ?hy ?_);case hy=>rfl)|((with_reducible first|refine jX ?hy ?_|refine jZ ?hy ?_);case hy=>rfl)|((with_reducible refine jF ?hy ?_);case hy=>decide))
   exact ToM.after h3 h4 h2 hR hff (fun b hb => .inl hb) fun T'' a b c => fin _ T'' a b c
theorem tq_markedE {v : Int} (hM : ToM H t T Q) (fin : ∀ H' T', ToM H' t T' Q → Fr T H H' → (∀ b, T' b → T b ∨ H.size ≤ b) → L (.tuple #[.agg #[.int .i64 (Q.markedEQ v).1.1, .int .i64 (Q.markedEQ v).1.2], .int .i64 (Q.markedEQ v).2]) H') :
  CallsH Try.prog 24 #[.pointer (some ⟨t, 0, none⟩), .int .i64 v] H L := by
 obtain ⟨f, Tf, S, B, c, r1, r2, st, pr, h, hR, h3, h4⟩ := hM
 unfold Tq.markedEQ at fin
 refine call24 (by simp) ?_
 simp only [Try.f24, Option.getD_some]
 repeat' (first|(with_reducible first|refine jA ?_|(refine hK _ _ ?_;clear hK K)|refine jJ fun K hK=>?_|refine jK ?_|refine jL ?_|refine jM ?_|refine jN ?_|refine jO ?_|refine jP ?_|refine jQ ?_|(refine jB ?_;clear hK K)|(refine jC ?_;clear hK K)|refine jD ?_|refine jE ?_|refine jG ?_|refine jH ?_|refine jI ?_)|((with_reducible refine jR ?hq ?_);case hq=>rfl)|((first|(with_reducible first|refine jS fun K hK=>?_|refine jT ?_|refine jU ?_)|((with_reducible refine jV ?hy fun K hK=>?_);case hy=>rfl));simp only [go_sem, Nat.reduceEqDiff, Nat.reduceAdd, Nat.reduceMul, Nat.reduceLeDiff, Nat.reduceLT, Int.reduceLT, Int.reduceLE, Int.reduceEq, Int.reduceNeg, Int.reduceToNat, Nat.reducePow, reduceIte, reduceCtorEq])|((with_reducible first|refine jW ?hy ?_|refine jY ?hy ?_);case hy=>rfl)|((with_reducible first|refine jX ?hy ?_|refine jZ ?hy ?_);case hy=>rfl)|((with_reducible refine jF ?hy ?_);case hy=>decide))
 generalize hH0 : H.push _ = H0
 have hf0 : Fr (fun _ => False) H H0 := by rw [← hH0]; exact (by ((repeat (first | refine Fr.set ?_ (by simp) _ | refine Fr.push ?_ _)); exact Fr.refl _ _))
 have h0 := h.grow hf0
 have b0 : Blk H0 H.size [.int .i64 0, .int .i64 0] := by rw [← hH0]; exact Blk.new H [.int .i64 0, .int .i64 0] _
 clear hH0
 refine has1 h0 fun H1 h1 hf1 => ?_
 have b1 := b0.frame hf1 fun h => h
 have hf01 := hf0.trans hf1
 cases hb : inB Q.n v with
 | false =>
  rw [hb] at fin
  have w0 := b1.okW (i := 0) (by simp)
  have w1 := b1.okW (i := 1) (by simp)
  repeat' (first|(with_reducible first|refine jA ?_|(refine hK _ _ ?_;clear hK K)|refine jJ fun K hK=>?_|refine jK ?_|refine jL ?_|refine jM ?_|refine jN ?_|refine jO ?_|refine jP ?_|refine jQ ?_|(refine jB ?_;clear hK K)|(refine jC ?_;clear hK K)|refine jD ?_|refine jE ?_|refine jG ?_|refine jH ?_|refine jI ?_)|((with_reducible refine jR ?hq ?_);case hq=>rfl)|((first|(with_reducible first|refine jS fun K hK=>?_|refine jT ?_|refine jU ?_)|((with_reducible refine jV ?hy fun K hK=>?_);case hy=>rfl));simp only [go_sem, Nat.reduceEqDiff, Nat.reduceAdd, Nat.reduceMul, Nat.reduceLeDiff, Nat.reduceLT, Int.reduceLT, Int.reduceLE, Int.reduceEq, Int.reduceNeg, Int.reduceToNat, Nat.reducePow, reduceIte, reduceCtorEq, w0, w1, okW_hset])|((with_reducible first|refine jW ?hy ?_|refine jY ?hy ?_);case hy=>rfl)|((with_reducible first|refine jX ?hy ?_|refine jZ ?hy ?_);case hy=>rfl)|((with_reducible refine jF ?hy ?_);case hy=>decide))
  obtain ⟨b3, hf3⟩ := store2 b1 (.int .i64 0) (.int .i64 0)
  generalize hset _ _ _ = H3 at b3 hf3 ⊢
  have c0 := b3.cellOf (i := 0) rfl
  have c1 := b3.cellOf (i := 1) rfl
  simp only [go_sem, Nat.reduceEqDiff, Nat.reduceAdd, Nat.reduceMul, Nat.reduceLeDiff, Nat.reduceLT, Int.reduceLT, Int.reduceLE, Int.reduceEq, Int.reduceNeg, Int.reduceToNat, Nat.reducePow, reduceIte, reduceCtorEq, c0, c1]
  have h3' := h1.frame hf3 fun b hb (e : b = H.size) => by have := h.lt b hb; omega
  exact ToM.after h3 h4 h3' hR ((hf01.trans' hf3 fun b hb (e : b = H.size) => by omega).mono fun _ _ h => h.elim) (fun b hb => .inl hb) fun T'' a b c => fin _ T'' a b c
 | true =>
  rw [hb] at fin
  obtain ⟨a, rfl, ha⟩ := inB_nat hb
  simp only [if_true, Int.toNat_natCast] at fin
  have d0 := h1.hd.cellOf (i := 0) rfl
  have d1 := h1.hd.cellOf (i := 1) rfl
  have da := h1.stop ha
  repeat' (first|(with_reducible first|refine jA ?_|(refine hK _ _ ?_;clear hK K)|refine jJ fun K hK=>?_|refine jK ?_|refine jL ?_|refine jM ?_|refine jN ?_|refine jO ?_|refine jP ?_|refine jQ ?_|(refine jB ?_;clear hK K)|(refine jC ?_;clear hK K)|refine jD ?_|refine jE ?_|refine jG ?_|refine jH ?_|refine jI ?_)|((with_reducible refine jR ?hq ?_);case hq=>rfl)|((first|(with_reducible first|refine jS fun K hK=>?_|refine jT ?_|refine jU ?_)|((with_reducible refine jV ?hy fun K hK=>?_);case hy=>rfl));simp only [go_sem, Nat.reduceEqDiff, Nat.reduceAdd, Nat.reduceMul, Nat.reduceLeDiff, Nat.reduceLT, Int.reduceLT, Int.reduceLE, Int.reduceEq, Int.reduceNeg, Int.reduceToNat, Nat.reducePow, reduceIte, reduceCtorEq, d0, d1, da, ha])|((with_reducible first|refine jW ?hy ?_|refine jY ?hy ?_);case hy=>rfl)|((with_reducible first|refine jX ?hy ?_|refine jZ ?hy ?_);case hy=>rfl)|((with_reducible refine jF ?hy ?_);case hy=>decide))
  refine m_flagged (fl := 2) h1.fo (hR.row_mem ha) (hR.stop_in ha) (by omega) fun H2 hF2 hf2 => ?_
  have h2 := h1.op hF2 hf2
  have b2 := b1.frame hf2 fun hb => by have := h.fo.lt hb; omega
  have hff : Fr (ToFt t Tf B r1 r2) H H2 := (hf01.mono fun _ _ h => h.elim).trans (hf2.mono fun b _ hb => .fo hb)
  rw [hR.first2 ha]
  cases hf : (Q.row a).find? fun x => x.1 != x.2 && Q.em x.1 x.2 with
  | none =>
   rw [hf] at fin
   have t1 : ((35 : Int) != 0) = true := rfl
   simp only [Option.map_none, Option.isSome_none, Bool.false_eq_true, if_false]
   have w0 := b2.okW (i := 0) (by simp)
   have w1 := b2.okW (i := 1) (by simp)
   repeat' (first|(with_reducible first|refine jA ?_|(refine hK _ _ ?_;clear hK K)|refine jJ fun K hK=>?_|refine jK ?_|refine jL ?_|refine jM ?_|refine jN ?_|refine jO ?_|refine jP ?_|refine jQ ?_|(refine jB ?_;clear hK K)|(refine jC ?_;clear hK K)|refine jD ?_|refine jE ?_|refine jG ?_|refine jH ?_|refine jI ?_)|((with_reducible refine jR ?hq ?_);case hq=>rfl)|((first|(with_reducible first|refine jS fun K hK=>?_|refine jT ?_|refine jU ?_)|((with_reducible refine jV ?hy fun K hK=>?_);case hy=>rfl));simp only [go_sem, Nat.reduceEqDiff, Nat.reduceAdd, Nat.reduceMul, Nat.reduceLeDiff, Nat.reduceLT, Int.reduceLT, Int.reduceLE, Int.reduceEq, Int.reduceNeg, Int.reduceToNat, Nat.reducePow, reduceIte, reduceCtorEq, t1, w0, w1, okW_hset])|((with_reducible first|refine jW ?hy ?_|refine jY ?hy ?_);case hy=>rfl)|((with_reducible first|refine jX ?hy ?_|refine jZ ?hy ?_);case hy=>rfl)|((with_reducible refine jF ?hy ?_);case hy=>decide))
   obtain ⟨b3, hf3⟩ := store2 b2 (.int .i64 0) (.int .i64 0)
   generalize hset _ _ _ = H3 at b3 hf3 ⊢
   have c0 := b3.cellOf (i := 0) rfl
   have c1 := b3.cellOf (i := 1) rfl
   simp only [go_sem, Nat.reduceEqDiff, Nat.reduceAdd, Nat.reduceMul, Nat.reduceLeDiff, Nat.reduceLT, Int.reduceLT, Int.reduceLE, Int.reduceEq, Int.reduceNeg, Int.reduceToNat, Nat.reducePow, reduceIte, reduceCtorEq, c0, c1]
   have h3' := h2.frame hf3 fun b hb (e : b = H.size) => by have := h.lt b hb; omega
   refine ToM.after h3 h4 h3' hR ?_ (fun b hb => .inl hb) fun T'' a b c => fin _ T'' a b c
   exact hff.trans' (S' := fun b => b = H.size) hf3 fun b hb (e : b = H.size) => by omega
  | some x =>
   rw [hf] at fin
   obtain ⟨p, q⟩ := x
   have hx := List.mem_of_find?_eq_some hf
   have hp := List.find?_some hf
   simp only [Bool.and_eq_true, bne_iff_ne, ne_eq] at hp
   have hpr := hR.pr_step ha hx hp.1
   have t1 : ((0 : Int) != 0) = false := rfl
   simp only [Option.map_some, Option.isSome_some, if_true, Option.getD_some]
   have g3 := h2.hd.cellOf (i := 3) rfl
   repeat' (first|(with_reducible first|refine jA ?_|(refine hK _ _ ?_;clear hK K)|refine jJ fun K hK=>?_|refine jK ?_|refine jL ?_|refine jM ?_|refine jN ?_|refine jO ?_|refine jP ?_|refine jQ ?_|(refine jB ?_;clear hK K)|(refine jC ?_;clear hK K)|refine jD ?_|refine jE ?_|refine jG ?_|refine jH ?_|refine jI ?_)|((with_reducible refine jR ?hq ?_);case hq=>rfl)|((first|(with_reducible first|refine jS fun K hK=>?_|refine jT ?_|refine jU ?_)|((with_reducible refine jV ?hy fun K hK=>?_);case hy=>rfl));simp only [go_sem, Nat.reduceEqDiff, Nat.reduceAdd, Nat.reduceMul, Nat.reduceLeDiff, Nat.reduceLT, Int.reduceLT, Int.reduceLE, Int.reduceEq, Int.reduceNeg, Int.reduceToNat, Nat.reducePow, reduceIte, reduceCtorEq, t1, g3])|((with_reducible first|refine jW ?hy ?_|refine jY ?hy ?_);case hy=>rfl)|((with_reducible first|refine jX ?hy ?_|refine jZ ?hy ?_);case hy=>rfl)|((with_reducible refine jF ?hy ?_);case hy=>decide))
   refine rd_lookupQ (vf := arrK) mapT_pairs kInt h2.m2.choose_spec (hd st (p, q) : Int) false ?_
   rw [hpr]
   simp only [Option.map_some, gotV, arrK, Bool.false_eq_true, if_false]
   have bn := Blk.new H2 [.int .i64 0, .int .i64 0] 83
   have w0 := bn.okW (i := 0) (by simp)
   have w1 := bn.okW (i := 1) (by simp)
   have fn : Fr (fun _ => False) H2 (H2.push (.cells #[.int .i64 0, .int .i64 0] 83)) := (Fr.refl _ H2).push _
   repeat' (first|(with_reducible first|refine jA ?_|(refine hK _ _ ?_;clear hK K)|refine jJ fun K hK=>?_|refine jK ?_|refine jL ?_|refine jM ?_|refine jN ?_|refine jO ?_|refine jP ?_|refine jQ ?_|(refine jB ?_;clear hK K)|(refine jC ?_;clear hK K)|refine jD ?_|refine jE ?_|refine jG ?_|refine jH ?_|refine jI ?_)|((with_reducible refine jR ?hq ?_);case hq=>rfl)|((first|(with_reducible first|refine jS fun K hK=>?_|refine jT ?_|refine jU ?_)|((with_reducible refine jV ?hy fun K hK=>?_);case hy=>rfl));simp only [go_sem, Nat.reduceEqDiff, Nat.reduceAdd, Nat.reduceMul, Nat.reduceLeDiff, Nat.reduceLT, Int.reduceLT, Int.reduceLE, Int.reduceEq, Int.reduceNeg, Int.reduceToNat, Nat.reducePow, reduceIte, reduceCtorEq, w0, w1, okW_hset])|((with_reducible first|refine jW ?hy ?_|refine jY ?hy ?_);case hy=>rfl)|((with_reducible first|refine jX ?hy ?_|refine jZ ?hy ?_);case hy=>rfl)|((with_reducible refine jF ?hy ?_);case hy=>decide))
   obtain ⟨b4, f4⟩ := store2 bn (.int .i64 p) (.int .i64 q)
   generalize hset _ _ _ = H4 at b4 f4 ⊢
   have f24 : Fr (fun _ => False) H2 H4 := fn.trans' f4 fun b hb (e : b = H2.size) => by omega
   have h4' := h2.grow f24
   have k0 := b4.cellOf (i := 0) rfl
   have k1 := b4.cellOf (i := 1) rfl
   have b2' := b2.frame f24 fun h => h
   have w0 := b2'.okW (i := 0) (by simp)
   have w1 := b2'.okW (i := 1) (by simp)
   simp only [go_sem, Nat.reduceEqDiff, Nat.reduceAdd, Nat.reduceMul, Nat.reduceLeDiff, Nat.reduceLT, Int.reduceLT, Int.reduceLE, Int.reduceEq, Int.reduceNeg, Int.reduceToNat, Nat.reducePow, reduceIte, reduceCtorEq, k0, k1]
   repeat' (first|(with_reducible first|refine jA ?_|(refine hK _ _ ?_;clear hK K)|refine jJ fun K hK=>?_|refine jK ?_|refine jL ?_|refine jM ?_|refine jN ?_|refine jO ?_|refine jP ?_|refine jQ ?_|(refine jB ?_;clear hK K)|(refine jC ?_;clear hK K)|refine jD ?_|refine jE ?_|refine jG ?_|refine jH ?_|refine jI ?_)|((with_reducible refine jR ?hq ?_);case hq=>rfl)|((first|(with_reducible first|refine jS fun K hK=>?_|refine jT ?_|refine jU ?_)|((with_reducible refine jV ?hy fun K hK=>?_);case hy=>rfl));simp only [go_sem, Nat.reduceEqDiff, Nat.reduceAdd, Nat.reduceMul, Nat.reduceLeDiff, Nat.reduceLT, Int.reduceLT, Int.reduceLE, Int.reduceEq, Int.reduceNeg, Int.reduceToNat, Nat.reducePow, reduceIte, reduceCtorEq, k0, k1, w0, w1, okW_hset])|((with_reducible first|refine jW ?hy ?_|refine jY ?hy ?_);case hy=>rfl)|((with_reducible first|refine jX ?hy ?_|refine jZ ?hy ?_);case hy=>rfl)|((with_reducible refine jF ?hy ?_);case hy=>decide))
   obtain ⟨b3, hf3⟩ := store2 b2' (.int .i64 p) (.int .i64 q)
   generalize hset _ _ _ = H3 at b3 hf3 ⊢
   have c0 := b3.cellOf (i := 0) rfl
   have c1 := b3.cellOf (i := 1) rfl
   simp only [go_sem, Nat.reduceEqDiff, Nat.reduceAdd, Nat.reduceMul, Nat.reduceLeDiff, Nat.reduceLT, Int.reduceLT, Int.reduceLE, Int.reduceEq, Int.reduceNeg, Int.reduceToNat, Nat.reducePow, reduceIte, reduceCtorEq, c0, c1]
   have h3' := h4'.frame hf3 fun b hb (e : b = H.size) => by have := h.lt b hb; omega
   refine ToM.after h3 h4 h3' hR ?_ (fun b hb => .inl hb) fun T'' a b c => fin _ T'' a b c
   exact (hff.trans (f24.mono fun _ _ h => h.elim)).trans' (S' := fun b => b = H.size) hf3 fun b hb (e : b = H.size) => by omega
theorem walk_take (l : List St) (i : Nat) {x : St} (hi : l[i]? = some x) : ((l.take (i + 1)).filter fun x => x.1 == x.2).map (fun x => (x.1 : Int)) = ((l.take i).filter fun x => x.1 == x.2).map (fun x => (x.1 : Int)) ++ (if x.1 = x.2 then [(x.1 : Int)] else []) := by
 have hlt := (List.getElem?_eq_some_iff.1 hi).1
 have hx := (List.getElem?_eq_some_iff.1 hi).2
 rw [List.take_succ_eq_append_getElem hlt, hx, List.filter_append, List.map_append]
 congr 1
 by_cases e : x.1 = x.2
 ·simp [e]
 ·simp [e]
theorem tq_walk {v : Int} (hM : ToM H t T Q) (fin : ∀ H' T' Bo vo, ToM H' t T' Q → IR H' Bo vo (Q.walkQ v).1 → (∀ b, Bo = some b → H.size ≤ b ∧ ¬ T' b) → Fr T H H' → (∀ b, T' b → T b ∨ H.size ≤ b) → L (.tuple #[vo, .int .i64 (Q.walkQ v).2]) H') :
  CallsH Try.prog 13 #[.pointer (some ⟨t, 0, none⟩), .int .i64 v] H L := by
 obtain ⟨f, Tf, S, B, c, r1, r2, st, pr, h, hR, h3, h4⟩ := hM
 unfold Tq.walkQ at fin
 refine call13 (by simp) ?_
 simp only [Try.f13, Option.getD_some]
 repeat' (first|(with_reducible first|refine jA ?_|(refine hK _ _ ?_;clear hK K)|refine jJ fun K hK=>?_|refine jK ?_|refine jL ?_|refine jM ?_|refine jN ?_|refine jO ?_|refine jP ?_|refine jQ ?_|(refine jB ?_;clear hK K)|(refine jC ?_;clear hK K)|refine jD ?_|refine jE ?_|refine jG ?_|refine jH ?_|refine jI ?_)|((with_reducible refine jR ?hq ?_);case hq=>rfl)|((first|(with_reducible first|refine jS fun K hK=>?_|refine jT ?_|refine jU ?_)|((with_reducible refine jV ?hy fun K hK=>?_);case hy=>rfl));simp only [go_sem, Nat.reduceEqDiff, Nat.reduceAdd, Nat.reduceMul, Nat.reduceLeDiff, Nat.reduceLT, Int.reduceLT, Int.reduceLE, Int.reduceEq, Int.reduceNeg, Int.reduceToNat, Nat.reducePow, reduceIte, reduceCtorEq])|((with_reducible first|refine jW ?hy ?_|refine jY ?hy ?_);case hy=>rfl)|((with_reducible first|refine jX ?hy ?_|refine jZ ?hy ?_);case hy=>rfl)|((with_reducible refine jF ?hy ?_);case hy=>decide))
 refine has1 h fun H1 h1 hf1 => ?_
 cases hb : inB Q.n v with
 | false =>
  rw [hb] at fin
  repeat' (first|(with_reducible first|refine jA ?_|(refine hK _ _ ?_;clear hK K)|refine jJ fun K hK=>?_|refine jK ?_|refine jL ?_|refine jM ?_|refine jN ?_|refine jO ?_|refine jP ?_|refine jQ ?_|(refine jB ?_;clear hK K)|(refine jC ?_;clear hK K)|refine jD ?_|refine jE ?_|refine jG ?_|refine jH ?_|refine jI ?_)|((with_reducible refine jR ?hq ?_);case hq=>rfl)|((first|(with_reducible first|refine jS fun K hK=>?_|refine jT ?_|refine jU ?_)|((with_reducible refine jV ?hy fun K hK=>?_);case hy=>rfl));simp only [go_sem, Nat.reduceEqDiff, Nat.reduceAdd, Nat.reduceMul, Nat.reduceLeDiff, Nat.reduceLT, Int.reduceLT, Int.reduceLE, Int.reduceEq, Int.reduceNeg, Int.reduceToNat, Nat.reducePow, reduceIte, reduceCtorEq])|((with_reducible first|refine jW ?hy ?_|refine jY ?hy ?_);case hy=>rfl)|((with_reducible first|refine jX ?hy ?_|refine jZ ?hy ?_);case hy=>rfl)|((with_reducible refine jF ?hy ?_);case hy=>decide))
  exact ToM.after h3 h4 h1 hR (hf1.mono fun _ _ h => h.elim) (fun b hb => .inl hb) fun T'' a b c => fin _ T'' none _ a (IR.nil _) (fun b h => by cases h) b c
 | true =>
  rw [hb] at fin
  obtain ⟨a, rfl, ha⟩ := inB_nat hb
  simp only [if_true, Int.toNat_natCast] at fin
  have d0 := h1.hd.cellOf (i := 0) rfl
  have d1 := h1.hd.cellOf (i := 1) rfl
  have da := h1.stop ha
  repeat' (first|(with_reducible first|refine jA ?_|(refine hK _ _ ?_;clear hK K)|refine jJ fun K hK=>?_|refine jK ?_|refine jL ?_|refine jM ?_|refine jN ?_|refine jO ?_|refine jP ?_|refine jQ ?_|(refine jB ?_;clear hK K)|(refine jC ?_;clear hK K)|refine jD ?_|refine jE ?_|refine jG ?_|refine jH ?_|refine jI ?_)|((with_reducible refine jR ?hq ?_);case hq=>rfl)|((first|(with_reducible first|refine jS fun K hK=>?_|refine jT ?_|refine jU ?_)|((with_reducible refine jV ?hy fun K hK=>?_);case hy=>rfl));simp only [go_sem, Nat.reduceEqDiff, Nat.reduceAdd, Nat.reduceMul, Nat.reduceLeDiff, Nat.reduceLT, Int.reduceLT, Int.reduceLE, Int.reduceEq, Int.reduceNeg, Int.reduceToNat, Nat.reducePow, reduceIte, reduceCtorEq, d0, d1, da, ha])|((with_reducible first|refine jW ?hy ?_|refine jY ?hy ?_);case hy=>rfl)|((with_reducible first|refine jX ?hy ?_|refine jZ ?hy ?_);case hy=>rfl)|((with_reducible refine jF ?hy ?_);case hy=>decide))
  refine m_all h1.fo (hR.row_mem ha) (hR.stop_in ha) fun H2 Bq vq hF2 hq hBq hf2 => ?_
  have h2 := h1.op hF2 hf2
  have hlen : ((Q.row a).map (hd st)).length ≤ 4096 := by
   have := h.fo.len
   have h2 := (List.sublist_flatten_of_mem (hR.row_mem ha)).length_le
   omega
  obtain ⟨gq, cq, rest, rfl, rfl, _, _, _⟩ := hq.row (by
   intro e
   have := congrArg List.length e
   have h5 := List.length_pos_of_mem (hR.ok.self a ha)
   simp at this
   rw [this] at h5
   cases h5)
  have hgq := hBq gq rfl
  have hgl : gq < H2.size := hq.lt rfl
  simp only [List.length_map] at hq hlen ⊢
  have hff : Fr (ToFt t Tf B r1 r2) H H2 := (hf1.mono fun _ _ h => h.elim).trans (hf2.mono fun b _ hb => .fo hb)
  repeat' (first|(with_reducible first|refine jA ?_|(refine hK _ _ ?_;clear hK K)|refine jJ fun K hK=>?_|refine jK ?_|refine jL ?_|refine jM ?_|refine jN ?_|refine jO ?_|refine jP ?_|refine jQ ?_|(refine jB ?_;clear hK K)|(refine jC ?_;clear hK K)|refine jD ?_|refine jE ?_|refine jG ?_|refine jH ?_|refine jI ?_)|((with_reducible refine jR ?hq ?_);case hq=>rfl)|((first|(with_reducible first|refine jS fun K hK=>?_|refine jT ?_|refine jU ?_)|((with_reducible refine jV ?hy fun K hK=>?_);case hy=>rfl));simp only [go_sem, Nat.reduceEqDiff, Nat.reduceAdd, Nat.reduceMul, Nat.reduceLeDiff, Nat.reduceLT, Int.reduceLT, Int.reduceLE, Int.reduceEq, Int.reduceNeg, Int.reduceToNat, Nat.reducePow, reduceIte, reduceCtorEq])|((with_reducible first|refine jW ?hy ?_|refine jY ?hy ?_);case hy=>rfl)|((with_reducible first|refine jX ?hy ?_|refine jZ ?hy ?_);case hy=>rfl)|((with_reducible refine jF ?hy ?_);case hy=>decide))
  refine x_loop (fun m e' H' => ∃ (i : Nat) (Bo : Option Nat) (vo : Value), e' 35 = .int .i64 (i : Nat) ∧ e' 8 = vo ∧ i ≤ (Q.row a).length ∧ IR H' Bo vo ((((Q.row a).take i).filter fun x => x.1 == x.2).map fun x => (x.1 : Int)) ∧ (∀ b, Bo = some b → H2.size ≤ b) ∧ Fr (fun _ => False) H2 H' ∧ m = (Q.row a).length - i)
   (Q.row a).length ⟨0, none, _, rfl, rfl, Nat.zero_le _, IR.nil _, fun b h => (by cases h), Fr.refl _ _, rfl⟩ ?_
  rintro m e1 H3 ⟨i, Bo, vo, i35, i8, hi, ho, hBo, hf3, rfl⟩ hoff
  have i0 : e1 0 = .pointer (some ⟨t, 0, none⟩) := (hoff 0 rfl).trans rfl
  have i33 : e1 33 = .slice (some ⟨gq, 0, none⟩) (Q.row a).length cq := (hoff 33 rfl).trans rfl
  have i34 : e1 34 = .int .i64 ((Q.row a).length : Nat) := (hoff 34 rfl).trans rfl
  clear hoff
  have h3' := h2.grow hf3
  by_cases hlt : i < (Q.row a).length
  ·obtain ⟨x, hx⟩ : ∃ x, (Q.row a)[i]? = some x := ⟨_, List.getElem?_eq_getElem hlt⟩
   have hxm := List.mem_of_getElem? hx
   have hcell : hcell H3 ⟨gq, i, none⟩ = some (.int .i64 (hd st x : Nat)) := by
    rw [hf3.cell hgl (fun h => h)]
    exact hq.cell (by simp [hx])
   obtain ⟨kx, ekx⟩ : ∃ kx, kx = hd st x := ⟨_, rfl⟩
   rw [← ekx] at hcell
   have g3 := h3'.hd.cellOf (i := 3) rfl
   have ew : IntKind.i64.wrap ((i : Int) + 1) = ((i + 1 : Nat) : Int) := by rw [wrap_i64] <;> omega
   have wt := walk_take _ i hx
   repeat' (first|(with_reducible first|refine jA ?_|(refine hK _ _ ?_;clear hK K)|refine jJ fun K hK=>?_|refine jK ?_|refine jL ?_|refine jM ?_|refine jN ?_|refine jO ?_|refine jP ?_|refine jQ ?_|(refine jB ?_;clear hK K)|(refine jC ?_;clear hK K)|refine jD ?_|refine jE ?_|refine jG ?_|refine jH ?_|refine jI ?_)|((with_reducible refine jR ?hq ?_);case hq=>rfl)|((first|(with_reducible first|refine jS fun K hK=>?_|refine jT ?_|refine jU ?_)|((with_reducible refine jV ?hy fun K hK=>?_);case hy=>rfl));simp only [go_sem, Nat.reduceEqDiff, Nat.reduceAdd, Nat.reduceMul, Nat.reduceLeDiff, Nat.reduceLT, Int.reduceLT, Int.reduceLE, Int.reduceEq, Int.reduceNeg, Int.reduceToNat, Nat.reducePow, reduceIte, reduceCtorEq, i0, i33, i34, i35, hlt, hcell, g3])|((with_reducible first|refine jW ?hy ?_|refine jY ?hy ?_);case hy=>rfl)|((with_reducible first|refine jX ?hy ?_|refine jZ ?hy ?_);case hy=>rfl)|((with_reducible refine jF ?hy ?_);case hy=>decide))
   refine rd_lookupQ (vf := arrK) mapT_pairs kInt h3'.m2.choose_spec (kx : Int) true ?_
   have bn := Blk.new H3 [.int .i64 0, .int .i64 0] 83
   have w0 := bn.okW (i := 0) (by simp)
   have w1 := bn.okW (i := 1) (by simp)
   have fn : Fr (fun _ => False) H3 (H3.push (.cells #[.int .i64 0, .int .i64 0] 83)) := (Fr.refl _ H3).push _
   by_cases hxx : x.1 = x.2
   ·obtain ⟨p, q⟩ := x
    obtain rfl : p = q := hxx
    have hpn := (hR.ok.of_mem ha hxm).1
    rw [if_pos rfl] at wt
    rw [hd_stop] at ekx
    subst ekx
    rw [hR.pr_stop hpn]
    simp only [Option.map_none, gotV, if_true]
    repeat' (first|(with_reducible first|refine jA ?_|(refine hK _ _ ?_;clear hK K)|refine jJ fun K hK=>?_|refine jK ?_|refine jL ?_|refine jM ?_|refine jN ?_|refine jO ?_|refine jP ?_|refine jQ ?_|(refine jB ?_;clear hK K)|(refine jC ?_;clear hK K)|refine jD ?_|refine jE ?_|refine jG ?_|refine jH ?_|refine jI ?_)|((with_reducible refine jR ?hq ?_);case hq=>rfl)|((first|(with_reducible first|refine jS fun K hK=>?_|refine jT ?_|refine jU ?_)|((with_reducible refine jV ?hy fun K hK=>?_);case hy=>rfl));simp only [go_sem, Nat.reduceEqDiff, Nat.reduceAdd, Nat.reduceMul, Nat.reduceLeDiff, Nat.reduceLT, Int.reduceLT, Int.reduceLE, Int.reduceEq, Int.reduceNeg, Int.reduceToNat, Nat.reducePow, reduceIte, reduceCtorEq, w0, w1, okW_hset, i0, i8])|((with_reducible first|refine jW ?hy ?_|refine jY ?hy ?_);case hy=>rfl)|((with_reducible first|refine jX ?hy ?_|refine jZ ?hy ?_);case hy=>rfl)|((with_reducible refine jF ?hy ?_);case hy=>decide))
    obtain ⟨b4, f4⟩ := store2 bn (.int .i64 0) (.int .i64 0)
    generalize hset _ _ _ = H4 at b4 f4 ⊢
    have f34 : Fr (fun _ => False) H3 H4 := fn.trans' f4 fun b hb (e : b = H3.size) => by omega
    repeat' (first|(with_reducible first|refine jA ?_|(refine hK _ _ ?_;clear hK K)|refine jJ fun K hK=>?_|refine jK ?_|refine jL ?_|refine jM ?_|refine jN ?_|refine jO ?_|refine jP ?_|refine jQ ?_|(refine jB ?_;clear hK K)|(refine jC ?_;clear hK K)|refine jD ?_|refine jE ?_|refine jG ?_|refine jH ?_|refine jI ?_)|((with_reducible refine jR ?hq ?_);case hq=>rfl)|((first|(with_reducible first|refine jS fun K hK=>?_|refine jT ?_|refine jU ?_)|((with_reducible refine jV ?hy fun K hK=>?_);case hy=>rfl));simp only [go_sem, Nat.reduceEqDiff, Nat.reduceAdd, Nat.reduceMul, Nat.reduceLeDiff, Nat.reduceLT, Int.reduceLT, Int.reduceLE, Int.reduceEq, Int.reduceNeg, Int.reduceToNat, Nat.reducePow, reduceIte, reduceCtorEq, i8, i0])|((with_reducible first|refine jW ?hy ?_|refine jY ?hy ?_);case hy=>rfl)|((with_reducible first|refine jX ?hy ?_|refine jZ ?hy ?_);case hy=>rfl)|((with_reducible refine jF ?hy ?_);case hy=>decide))
    refine vertex_ok (h3'.grow f34) hpn hR.ok.n64 ?_
    repeat' (first|(with_reducible first|refine jA ?_|(refine hK _ _ ?_;clear hK K)|refine jJ fun K hK=>?_|refine jK ?_|refine jL ?_|refine jM ?_|refine jN ?_|refine jO ?_|refine jP ?_|refine jQ ?_|(refine jB ?_;clear hK K)|(refine jC ?_;clear hK K)|refine jD ?_|refine jE ?_|refine jG ?_|refine jH ?_|refine jI ?_)|((with_reducible refine jR ?hq ?_);case hq=>rfl)|((first|(with_reducible first|refine jS fun K hK=>?_|refine jT ?_|refine jU ?_)|((with_reducible refine jV ?hy fun K hK=>?_);case hy=>rfl));simp only [go_sem, Nat.reduceEqDiff, Nat.reduceAdd, Nat.reduceMul, Nat.reduceLeDiff, Nat.reduceLT, Int.reduceLT, Int.reduceLE, Int.reduceEq, Int.reduceNeg, Int.reduceToNat, Nat.reducePow, reduceIte, reduceCtorEq])|((with_reducible first|refine jW ?hy ?_|refine jY ?hy ?_);case hy=>rfl)|((with_reducible first|refine jX ?hy ?_|refine jZ ?hy ?_);case hy=>rfl)|((with_reducible refine jF ?hy ?_);case hy=>decide))
    refine append_ir elems22 tl3 (ho.frame f34 fun _ _ h => h) rfl (by decide) (by rw [List.length_map]; have := List.length_filter_le (fun x : St => x.1 == x.2) ((Q.row a).take i); rw [List.length_take] at this; show 2 * _ * 8 ≤ 2 ^ 48; omega) rfl fun v' H5 B5 ho5 hf5 hB5 => ?_
    have hB5' : ∀ b, B5 = some b → H2.size ≤ b := fun b hb => by
     rcases hB5 with e | ⟨g, hg, hge⟩
     ·exact hBo b (by rw [← e]; exact hb)
     ·rw [hg] at hb
      obtain rfl := Option.some.inj hb
      have := hf3.size; have := f34.size; omega
    have hf25 : Fr (fun _ => False) H2 H5 := (hf3.trans f34).trans' hf5 fun b hb (e : Bo = some b) => by have := hBo b e; omega
    repeat' (first|(with_reducible first|refine jA ?_|(refine hK _ _ ?_;clear hK K)|refine jJ fun K hK=>?_|refine jK ?_|refine jL ?_|refine jM ?_|refine jN ?_|refine jO ?_|refine jP ?_|refine jQ ?_|(refine jB ?_;clear hK K)|(refine jC ?_;clear hK K)|refine jD ?_|refine jE ?_|refine jG ?_|refine jH ?_|refine jI ?_)|((with_reducible refine jR ?hq ?_);case hq=>rfl)|((first|(with_reducible first|refine jS fun K hK=>?_|refine jT ?_|refine jU ?_)|((with_reducible refine jV ?hy fun K hK=>?_);case hy=>rfl));simp only [go_sem, Nat.reduceEqDiff, Nat.reduceAdd, Nat.reduceMul, Nat.reduceLeDiff, Nat.reduceLT, Int.reduceLT, Int.reduceLE, Int.reduceEq, Int.reduceNeg, Int.reduceToNat, Nat.reducePow, reduceIte, reduceCtorEq, i35, ew])|((with_reducible first|refine jW ?hy ?_|refine jY ?hy ?_);case hy=>rfl)|((with_reducible first|refine jX ?hy ?_|refine jZ ?hy ?_);case hy=>rfl)|((with_reducible refine jF ?hy ?_);case hy=>decide))
    refine loop_normal (m' := (Q.row a).length - (i + 1)) (by omega) ⟨i + 1, B5, v', rfl, rfl, hlt, ?_, hB5', hf25, rfl⟩
    rw [wt]; exact ho5
   ·rw [if_neg hxx, List.append_nil] at wt
    rw [ekx, hR.pr_step ha hxm hxx]
    simp only [Option.map_some, gotV, arrK, if_true]
    repeat' (first|(with_reducible first|refine jA ?_|(refine hK _ _ ?_;clear hK K)|refine jJ fun K hK=>?_|refine jK ?_|refine jL ?_|refine jM ?_|refine jN ?_|refine jO ?_|refine jP ?_|refine jQ ?_|(refine jB ?_;clear hK K)|(refine jC ?_;clear hK K)|refine jD ?_|refine jE ?_|refine jG ?_|refine jH ?_|refine jI ?_)|((with_reducible refine jR ?hq ?_);case hq=>rfl)|((first|(with_reducible first|refine jS fun K hK=>?_|refine jT ?_|refine jU ?_)|((with_reducible refine jV ?hy fun K hK=>?_);case hy=>rfl));simp only [go_sem, Nat.reduceEqDiff, Nat.reduceAdd, Nat.reduceMul, Nat.reduceLeDiff, Nat.reduceLT, Int.reduceLT, Int.reduceLE, Int.reduceEq, Int.reduceNeg, Int.reduceToNat, Nat.reducePow, reduceIte, reduceCtorEq, w0, w1, okW_hset, i35, ew])|((with_reducible first|refine jW ?hy ?_|refine jY ?hy ?_);case hy=>rfl)|((with_reducible first|refine jX ?hy ?_|refine jZ ?hy ?_);case hy=>rfl)|((with_reducible refine jF ?hy ?_);case hy=>decide))
    obtain ⟨b4, f4⟩ := store2 bn (.int .i64 x.1) (.int .i64 x.2)
    generalize hset _ _ _ = H4 at b4 f4 ⊢
    have f34 : Fr (fun _ => False) H3 H4 := fn.trans' f4 fun b hb (e : b = H3.size) => by omega
    repeat' (first|(with_reducible first|refine jA ?_|(refine hK _ _ ?_;clear hK K)|refine jJ fun K hK=>?_|refine jK ?_|refine jL ?_|refine jM ?_|refine jN ?_|refine jO ?_|refine jP ?_|refine jQ ?_|(refine jB ?_;clear hK K)|(refine jC ?_;clear hK K)|refine jD ?_|refine jE ?_|refine jG ?_|refine jH ?_|refine jI ?_)|((with_reducible refine jR ?hq ?_);case hq=>rfl)|((first|(with_reducible first|refine jS fun K hK=>?_|refine jT ?_|refine jU ?_)|((with_reducible refine jV ?hy fun K hK=>?_);case hy=>rfl));simp only [go_sem, Nat.reduceEqDiff, Nat.reduceAdd, Nat.reduceMul, Nat.reduceLeDiff, Nat.reduceLT, Int.reduceLT, Int.reduceLE, Int.reduceEq, Int.reduceNeg, Int.reduceToNat, Nat.reducePow, reduceIte, reduceCtorEq, i35, ew])|((with_reducible first|refine jW ?hy ?_|refine jY ?hy ?_);case hy=>rfl)|((with_reducible first|refine jX ?hy ?_|refine jZ ?hy ?_);case hy=>rfl)|((with_reducible refine jF ?hy ?_);case hy=>decide))
    refine loop_normal (m' := (Q.row a).length - (i + 1)) (by omega) ⟨i + 1, Bo, vo, rfl, i8, hlt, ?_, hBo, hf3.trans f34, rfl⟩
    rw [wt]; exact ho.frame f34 fun _ _ h => h
  ·have t1 : (i < (Q.row a).length) = False := by simp [hlt]
   obtain rfl : i = (Q.row a).length := by omega
   repeat' (first|(with_reducible first|refine jA ?_|(refine hK _ _ ?_;clear hK K)|refine jJ fun K hK=>?_|refine jK ?_|refine jL ?_|refine jM ?_|refine jN ?_|refine jO ?_|refine jP ?_|refine jQ ?_|(refine jB ?_;clear hK K)|(refine jC ?_;clear hK K)|refine jD ?_|refine jE ?_|refine jG ?_|refine jH ?_|refine jI ?_)|((with_reducible refine jR ?hq ?_);case hq=>rfl)|((first|(with_reducible first|refine jS fun K hK=>?_|refine jT ?_|refine jU ?_)|((with_reducible refine jV ?hy fun K hK=>?_);case hy=>rfl));simp only [go_sem, Nat.reduceEqDiff, Nat.reduceAdd, Nat.reduceMul, Nat.reduceLeDiff, Nat.reduceLT, Int.reduceLT, Int.reduceLE, Int.reduceEq, Int.reduceNeg, Int.reduceToNat, Nat.reducePow, reduceIte, reduceCtorEq, i34, i35, t1, i8])|((with_reducible first|refine jW ?hy ?_|refine jY ?hy ?_);case hy=>rfl)|((with_reducible first|refine jX ?hy ?_|refine jZ ?hy ?_);case hy=>rfl)|((with_reducible refine jF ?hy ?_);case hy=>decide))
   rw [List.take_length] at ho
   have hfr : Fr (ToFt t Tf B r1 r2) H H3 := hff.trans (hf3.mono fun _ _ h => h.elim)
   have hs := hfr.size
   refine fin _ T Bo vo ⟨f, Tf, S, B, c, r1, r2, st, pr, h3', hR, h3, fun b hb => Nat.lt_of_lt_of_le (h4 b hb) hs⟩ ho (fun b hb => ?_) (hfr.mono fun b _ hb => h3 b hb) fun b hb => .inl hb
   have h5 := hBo b hb
   have h6 := hff.size
   exact ⟨by omega, fun hT => by have := h4 b hT; omega⟩
end
end Go.Proofs.Ytnlafhnbakipmaa
namespace Go.To
open Go Go.Hp Go.Sp Go.Proofs.Ytnlafhnbakipmaa
def startS (m : Nat) : Nat → Sq
 | 0 => Sq.new m
 | i + 1 => (startS m i).made ⟨0, true, 0⟩
theorem startS_spec (m : Nat) : ∀ i, (startS m i).top = i + 1 ∧ (startS m i).free = [] ∧ (startS m i).room = m ∧ (startS m i).next = i + 1 ∧ (startS m i).rows.flatten.length = i ∧
  (∀ xs, xs ∈ (startS m i).rows ↔ ∃ v, v < i ∧ xs = [v + 1]) ∧ (∀ v, v < i → (startS m i).it (v + 1) = ⟨0, true, 0⟩)
 | 0 => ⟨rfl, rfl, rfl, rfl, rfl, fun xs => by constructor; (intro h; cases h); (rintro ⟨v, h, _⟩; omega), fun v h => by omega⟩
 | i + 1 => by
  obtain ⟨h1, h2, h3, h4, h5, h6, h7⟩ := startS_spec m i
  refine ⟨?_, ?_, h3, ?_, ?_, fun xs => ?_, fun v hv => ?_⟩
  ·simp only [startS, Sq.made, h2, if_true, h1]
  ·simp only [startS, Sq.made, h2, List.tail_nil]
  ·simp only [startS, Sq.made, Sq.next, h2, List.tail_nil, List.headD_nil, if_true, h1]
  ·simp only [startS, Sq.made, List.flatten_cons, List.length_append, List.length_singleton, h5]; omega
  ·simp only [startS, Sq.made, List.mem_cons, h6, h4]
   constructor
   ·rintro (rfl | ⟨v, hv, rfl⟩)
    ·exact ⟨i, by omega, rfl⟩
    ·exact ⟨v, by omega, rfl⟩
   ·rintro ⟨v, hv, rfl⟩
    rcases Nat.lt_succ_iff_lt_or_eq.1 hv with h | rfl
    ·exact .inr ⟨v, h, rfl⟩
    ·exact .inl rfl
  ·simp only [startS, Sq.made, h4]
   by_cases e : v = i
   ·rw [if_pos (by omega)]
   ·rw [if_neg (by omega)]
    exact h7 v (by omega)
theorem Rel.start {n : Nat} (h1 : 1 ≤ n) (h2 : n ≤ 64) : Rel (startS (3 * n - 2) n) (Tq.new n) (fun _ => none) (fun _ => none) := by
 obtain ⟨s1, s2, s3, s4, s5, s6, s7⟩ := startS_spec (3 * n - 2) n
 refine ⟨Tq.Ok.new h1 h2, s3, fun p h e => (by cases e), fun u v hu huv hm => ?_, fun k p => ?_, fun xs => ?_, fun v hv => s7 v hv, fun u v h e => (by cases e)⟩
 ·simp only [Tq.new, List.mem_singleton, Prod.mk.injEq] at hm
  exact absurd hm.2.symm huv
 ·constructor
  ·intro e; cases e
  ·rintro ⟨_, _, e⟩; cases e
 ·rw [s6]
  simp only [Tq.new, List.map_cons, List.map_nil, hd_stop]
end Go.To
namespace Go.Proofs.Ytnlafhnbakipmaa
open Go Go.Hp Go.Sp Go.To
set_option linter.all false
set_option maxRecDepth 100000
set_option maxHeartbeats 1600000
section
variable {H H' : Heap} {K L : Value → Heap → Prop}
theorem tnew_no {n : Int} (hn : n < 1 ∨ 64 < n) (fin : L (.tuple #[.pointer none, .int .i64 1]) H) : CallsH Try.prog 9 #[.int .i64 n] H L := by
 refine call9 (by simp) ?_
 simp only [Try.f9, Option.getD_some]
 by_cases h0 : n < 1
 ·have e1 : (n < 1) = True := by simp [h0]
  repeat' (first|(with_reducible first|refine jA ?_|(refine hK _ _ ?_;clear hK K)|refine jJ fun K hK=>?_|refine jK ?_|refine jL ?_|refine jM ?_|refine jN ?_|refine jO ?_|refine jP ?_|refine jQ ?_|(refine jB ?_;clear hK K)|(refine jC ?_;clear hK K)|refine jD ?_|refine jE ?_|refine jG ?_|refine jH ?_|refine jI ?_)|((with_reducible refine jR ?hq ?_);case hq=>rfl)|((first|(with_reducible first|refine jS fun K hK=>?_|refine jT ?_|refine jU ?_)|((with_reducible refine jV ?hy fun K hK=>?_);case hy=>rfl));simp only [go_sem, Nat.reduceEqDiff, Nat.reduceAdd, Nat.reduceMul, Nat.reduceLeDiff, Nat.reduceLT, Int.reduceLT, Int.reduceLE, Int.reduceEq, Int.reduceNeg, Int.reduceToNat, Nat.reducePow, reduceIte, reduceCtorEq, e1])|((with_reducible first|refine jW ?hy ?_|refine jY ?hy ?_);case hy=>rfl)|((with_reducible first|refine jX ?hy ?_|refine jZ ?hy ?_);case hy=>rfl)|((with_reducible refine jF ?hy ?_);case hy=>decide))
  exact fin
 ·have e1 : (n < 1) = False := by simp [h0]
  have e2 : (64 < n) = True := by simp; omega
  repeat' (first|(with_reducible first|refine jA ?_|(refine hK _ _ ?_;clear hK K)|refine jJ fun K hK=>?_|refine jK ?_|refine jL ?_|refine jM ?_|refine jN ?_|refine jO ?_|refine jP ?_|refine jQ ?_|(refine jB ?_;clear hK K)|(refine jC ?_;clear hK K)|refine jD ?_|refine jE ?_|refine jG ?_|refine jH ?_|refine jI ?_)|((with_reducible refine jR ?hq ?_);case hq=>rfl)|((first|(with_reducible first|refine jS fun K hK=>?_|refine jT ?_|refine jU ?_)|((with_reducible refine jV ?hy fun K hK=>?_);case hy=>rfl));simp only [go_sem, Nat.reduceEqDiff, Nat.reduceAdd, Nat.reduceMul, Nat.reduceLeDiff, Nat.reduceLT, Int.reduceLT, Int.reduceLE, Int.reduceEq, Int.reduceNeg, Int.reduceToNat, Nat.reducePow, reduceIte, reduceCtorEq, e1, e2])|((with_reducible first|refine jW ?hy ?_|refine jY ?hy ?_);case hy=>rfl)|((with_reducible first|refine jX ?hy ?_|refine jZ ?hy ?_);case hy=>rfl)|((with_reducible refine jF ?hy ?_);case hy=>decide))
  exact fin
theorem tnew_ok {n : Nat} (h1 : 1 ≤ n) (h2 : n ≤ 64) (fin : ∀ H' t T, ToM H' t T (Tq.new n) → Fr (fun _ => False) H H' → (∀ b, T b → H.size ≤ b) → L (.tuple #[.pointer (some ⟨t, 0, none⟩), .int .i64 0]) H') :
  CallsH Try.prog 9 #[.int .i64 (n : Nat)] H L := by
 have e1 : ((n : Int) < 1) = False := by simp; omega
 have e2 : (64 < (n : Int)) = False := by simp; omega
 have e1' : (n < 1) = False := by simp; omega
 have e2' : (64 < n) = False := by simp; omega
 have ew1 : IntKind.i64.wrap (3 * (n : Int)) = ((3 * n : Nat) : Int) := by rw [wrap_i64] <;> omega
 have ew2 : IntKind.i64.wrap (((3 * n : Nat) : Int) - 2) = ((3 * n - 2 : Nat) : Int) := by rw [wrap_i64] <;> omega
 refine call9 (by simp) ?_
 simp only [Try.f9, Option.getD_some]
 repeat' (first|(with_reducible first|refine jA ?_|(refine hK _ _ ?_;clear hK K)|refine jJ fun K hK=>?_|refine jK ?_|refine jL ?_|refine jM ?_|refine jN ?_|refine jO ?_|refine jP ?_|refine jQ ?_|(refine jB ?_;clear hK K)|(refine jC ?_;clear hK K)|refine jD ?_|refine jE ?_|refine jG ?_|refine jH ?_|refine jI ?_)|((with_reducible refine jR ?hq ?_);case hq=>rfl)|((first|(with_reducible first|refine jS fun K hK=>?_|refine jT ?_|refine jU ?_)|((with_reducible refine jV ?hy fun K hK=>?_);case hy=>rfl));simp only [go_sem, Nat.reduceEqDiff, Nat.reduceAdd, Nat.reduceMul, Nat.reduceLeDiff, Nat.reduceLT, Int.reduceLT, Int.reduceLE, Int.reduceEq, Int.reduceNeg, Int.reduceToNat, Nat.reducePow, reduceIte, reduceCtorEq, e1, e2, e1', e2', ew1, ew2])|((with_reducible first|refine jW ?hy ?_|refine jY ?hy ?_);case hy=>rfl)|((with_reducible first|refine jX ?hy ?_|refine jZ ?hy ?_);case hy=>rfl)|((with_reducible refine jF ?hy ?_);case hy=>decide))
 refine new_ok (n := 3 * n - 2) (by omega) fun H1 f T1 hF1 hf1 hT1 hTf => ?_
 have t1 : ((0 : Int) != 0) = false := rfl
 repeat' (first|(with_reducible first|refine jA ?_|(refine hK _ _ ?_;clear hK K)|refine jJ fun K hK=>?_|refine jK ?_|refine jL ?_|refine jM ?_|refine jN ?_|refine jO ?_|refine jP ?_|refine jQ ?_|(refine jB ?_;clear hK K)|(refine jC ?_;clear hK K)|refine jD ?_|refine jE ?_|refine jG ?_|refine jH ?_|refine jI ?_)|((with_reducible refine jR ?hq ?_);case hq=>rfl)|((first|(with_reducible first|refine jS fun K hK=>?_|refine jT ?_|refine jU ?_)|((with_reducible refine jV ?hy fun K hK=>?_);case hy=>rfl));simp only [go_sem, Nat.reduceEqDiff, Nat.reduceAdd, Nat.reduceMul, Nat.reduceLeDiff, Nat.reduceLT, Int.reduceLT, Int.reduceLE, Int.reduceEq, Int.reduceNeg, Int.reduceToNat, Nat.reducePow, reduceIte, reduceCtorEq, t1])|((with_reducible first|refine jW ?hy ?_|refine jY ?hy ?_);case hy=>rfl)|((with_reducible first|refine jX ?hy ?_|refine jZ ?hy ?_);case hy=>rfl)|((with_reducible refine jF ?hy ?_);case hy=>decide))
 generalize hH2 : H1.push (Obj.map #[] 0) = H2
 generalize hH3 : H2.push (Obj.map #[] 0) = H3
 generalize hH4 : H3.push _ = H4
 have f12 : Fr (fun _ => False) H1 H2 := by rw [← hH2]; exact (Fr.refl _ _).push _
 have f23 : Fr (fun _ => False) H2 H3 := by rw [← hH3]; exact (Fr.refl _ _).push _
 have f34 : Fr (fun _ => False) H3 H4 := by rw [← hH4]; exact (Fr.refl _ _).push _
 have f14 := (f12.trans f23).trans f34
 have s2 : H2.size = H1.size + 1 := by rw [← hH2]; simp
 have s3 : H3.size = H2.size + 1 := by rw [← hH3]; simp
 have s4 : H4.size = H3.size + 1 := by rw [← hH4]; simp
 have b4 : Blk H4 H3.size [.pointer (some ⟨f, 0, none⟩), .slice none 0 0, .map (some H1.size), .map (some H2.size)] := by rw [← hH4]; exact Blk.new H3 [.pointer (some ⟨f, 0, none⟩), .slice none 0 0, .map (some H1.size), .map (some H2.size)] _
 have m1 : MapF arrK natV H4 H1.size (fun _ => none) 0 := by
  have : MapF arrK natV H2 H1.size (fun _ => none) 0 := by rw [← hH2]; exact MapF.make _ _ _
  exact (this.frame f23 fun h => h).frame f34 fun h => h
 have m2 : MapF intK arrK H4 H2.size (fun _ => none) 0 := by
  have : MapF intK arrK H3 H2.size (fun _ => none) 0 := by rw [← hH3]; exact MapF.make _ _ _
  exact this.frame f34 fun h => h
 clear hH2 hH3 hH4
 have hF4 := hF1.grow f14
 have z1 := hf1.size
 refine x_loop (fun m e' H' => ∃ (i : Nat) (B : Option Nat) (v : Value) (Tf : Nat → Prop), e' 31 = .int .i64 (i : Nat) ∧ i ≤ n ∧ m = n - i ∧ Blk H' H3.size [.pointer (some ⟨f, 0, none⟩), v, .map (some H1.size), .map (some H2.size)] ∧ FoM H' f Tf (startS (3 * n - 2) i) ∧
   IR H' B v ((List.range i).map fun v => ((v + 1 : Nat) : Int)) ∧ MapF arrK natV H' H1.size (fun _ => none) 0 ∧ MapF intK arrK H' H2.size (fun _ => none) 0 ∧ (∀ b, B = some b → H4.size ≤ b ∧ ¬ Tf b) ∧ (∀ b, Tf b → T1 b ∨ H4.size ≤ b) ∧ Fr (fun _ => False) H H' ∧ H4.size ≤ H'.size) n
  ⟨0, none, _, T1, rfl, Nat.zero_le _, rfl, b4, hF4, IR.nil _, m1, m2, fun b h => (by cases h), fun b h => .inl h, hf1.trans f14, Nat.le_refl _⟩ ?_
 rintro m e1 H5 ⟨i, B, v, Tf, i31, hi, rfl, hb, hF, hv, hm1, hm2, hB, hTf', hfr, hsz⟩ hoff
 have i4 : e1 4 = .pointer (some ⟨f, 0, none⟩) := (hoff 4 rfl).trans rfl
 have i6 : e1 6 = .pointer (some ⟨H3.size, 0, none⟩) := (hoff 6 rfl).trans rfl
 have i30 : e1 30 = .int .i64 (n : Nat) := (hoff 30 rfl).trans rfl
 clear hoff
 have noT : ∀ b, H1.size ≤ b → b < H4.size → ¬ Tf b := fun b g1 g2 hb => by
  rcases hTf' b hb with h | h
  ·have := hF1.lt h; omega
  ·omega
 by_cases hlt : i < n
 ·obtain ⟨p1, p2, p3, p4, p5, p6, p7⟩ := startS_spec (3 * n - 2) i
  have ew : IntKind.i64.wrap ((i : Int) + 1) = ((i + 1 : Nat) : Int) := by rw [wrap_i64] <;> omega
  repeat' (first|(with_reducible first|refine jA ?_|(refine hK _ _ ?_;clear hK K)|refine jJ fun K hK=>?_|refine jK ?_|refine jL ?_|refine jM ?_|refine jN ?_|refine jO ?_|refine jP ?_|refine jQ ?_|(refine jB ?_;clear hK K)|(refine jC ?_;clear hK K)|refine jD ?_|refine jE ?_|refine jG ?_|refine jH ?_|refine jI ?_)|((with_reducible refine jR ?hq ?_);case hq=>rfl)|((first|(with_reducible first|refine jS fun K hK=>?_|refine jT ?_|refine jU ?_)|((with_reducible refine jV ?hy fun K hK=>?_);case hy=>rfl));simp only [go_sem, Nat.reduceEqDiff, Nat.reduceAdd, Nat.reduceMul, Nat.reduceLeDiff, Nat.reduceLT, Int.reduceLT, Int.reduceLE, Int.reduceEq, Int.reduceNeg, Int.reduceToNat, Nat.reducePow, reduceIte, reduceCtorEq, i4, i6, i30, i31, hlt])|((with_reducible first|refine jW ?hy ?_|refine jY ?hy ?_);case hy=>rfl)|((with_reducible first|refine jX ?hy ?_|refine jZ ?hy ?_);case hy=>rfl)|((with_reducible refine jF ?hy ?_);case hy=>decide))
  refine make_ok (x := ⟨0, true, 0⟩) hF ⟨⟨by decide, by decide⟩, by decide, by decide⟩ ⟨by decide, by decide, by decide, by decide⟩ (by rw [p5, p3]; omega) fun H6 T6 hF6 hf6 hT6 _ => ?_
  rw [p4]
  have noT6 : ∀ b, H1.size ≤ b → b < H4.size → ¬ T6 b := fun b g1 g2 hb => by
   rcases hT6 b hb with h | h
   ·exact noT b g1 g2 h
   ·omega
  have hb6 := hb.frame hf6 (noT _ (by omega) (by omega))
  have hv6 := hv.frame hf6 fun g hg => (hB g hg).2
  have hm16 := hm1.frame hf6 (noT _ (by omega) (by omega))
  have hm26 := hm2.frame hf6 (noT _ (by omega) (by omega))
  have hfr6 : Fr (fun _ => False) H H6 := hfr.trans' hf6 fun b hb hx => by
   rcases hTf' b hx with h | h
   ·have := hT1 b h; omega
   ·omega
  have z6 := hf6.size
  have hBT6 : ∀ b, B = some b → ¬ T6 b := fun b hb hx => by
   rcases hT6 b hx with h | h
   ·exact (hB b hb).2 h
   ·have := hv.lt hb; omega
  have c1 := hb6.cellOf (i := 1) rfl
  obtain ⟨va, vc, rfl⟩ := hv6.slice
  repeat' (first|(with_reducible first|refine jA ?_|(refine hK _ _ ?_;clear hK K)|refine jJ fun K hK=>?_|refine jK ?_|refine jL ?_|refine jM ?_|refine jN ?_|refine jO ?_|refine jP ?_|refine jQ ?_|(refine jB ?_;clear hK K)|(refine jC ?_;clear hK K)|refine jD ?_|refine jE ?_|refine jG ?_|refine jH ?_|refine jI ?_)|((with_reducible refine jR ?hq ?_);case hq=>rfl)|((first|(with_reducible first|refine jS fun K hK=>?_|refine jT ?_|refine jU ?_)|((with_reducible refine jV ?hy fun K hK=>?_);case hy=>rfl));simp only [go_sem, Nat.reduceEqDiff, Nat.reduceAdd, Nat.reduceMul, Nat.reduceLeDiff, Nat.reduceLT, Int.reduceLT, Int.reduceLE, Int.reduceEq, Int.reduceNeg, Int.reduceToNat, Nat.reducePow, reduceIte, reduceCtorEq, i6, c1])|((with_reducible first|refine jW ?hy ?_|refine jY ?hy ?_);case hy=>rfl)|((with_reducible first|refine jX ?hy ?_|refine jZ ?hy ?_);case hy=>rfl)|((with_reducible refine jF ?hy ?_);case hy=>decide))
  refine append_ir elems22 tl3 hv6 rfl (by decide) (by rw [List.length_map, List.length_range]; show 2 * _ * 8 ≤ 2 ^ 48; omega) rfl fun v7 H7 B7 hv7 hf7 hB7 => ?_
  have z7 := hf7.size
  have hb7 := hb6.frame hf7 fun e => by have := (hB _ e).1; omega
  have hF7 := hF6.frame hf7 fun b hb e => hBT6 b e hb
  have hm17 := hm16.frame hf7 fun e => by have := (hB _ e).1; omega
  have hm27 := hm26.frame hf7 fun e => by have := (hB _ e).1; omega
  have w1 := hb7.okW (i := 1) (by simp)
  obtain ⟨va7, vc7, rfl⟩ := hv7.slice
  repeat' (first|(with_reducible first|refine jA ?_|(refine hK _ _ ?_;clear hK K)|refine jJ fun K hK=>?_|refine jK ?_|refine jL ?_|refine jM ?_|refine jN ?_|refine jO ?_|refine jP ?_|refine jQ ?_|(refine jB ?_;clear hK K)|(refine jC ?_;clear hK K)|refine jD ?_|refine jE ?_|refine jG ?_|refine jH ?_|refine jI ?_)|((with_reducible refine jR ?hq ?_);case hq=>rfl)|((first|(with_reducible first|refine jS fun K hK=>?_|refine jT ?_|refine jU ?_)|((with_reducible refine jV ?hy fun K hK=>?_);case hy=>rfl));simp only [go_sem, Nat.reduceEqDiff, Nat.reduceAdd, Nat.reduceMul, Nat.reduceLeDiff, Nat.reduceLT, Int.reduceLT, Int.reduceLE, Int.reduceEq, Int.reduceNeg, Int.reduceToNat, Nat.reducePow, reduceIte, reduceCtorEq, i6, w1, i31, ew])|((with_reducible first|refine jW ?hy ?_|refine jY ?hy ?_);case hy=>rfl)|((with_reducible first|refine jX ?hy ?_|refine jZ ?hy ?_);case hy=>rfl)|((with_reducible refine jF ?hy ?_);case hy=>decide))
  have hb8 := hb7.set_same 1 (.slice va7 (List.map (fun v => ((v + 1 : Nat) : Int)) (List.range i) ++ [((i + 1 : Nat) : Int)]).length vc7)
  have hf8 : Fr (· = H3.size) H7 (hset H7 ⟨H3.size, 1, none⟩ (.slice va7 (List.map (fun v => ((v + 1 : Nat) : Int)) (List.range i) ++ [((i + 1 : Nat) : Int)]).length vc7)) := Fr.set (S := (· = H3.size)) (a := ⟨H3.size, 1, none⟩) (Fr.refl _ _) (.inl rfl) _
  generalize hset H7 ⟨H3.size, 1, none⟩ _ = H8 at hb8 hf8 ⊢
  have hB7' : ∀ b, B7 = some b → H4.size ≤ b ∧ ¬ T6 b := fun b hb => by
   rcases hB7 with e | ⟨g, hg, hge⟩
   ·rw [e] at hb
    exact ⟨(hB b hb).1, hBT6 b hb⟩
   ·rw [hg] at hb
    obtain rfl := Option.some.inj hb
    exact ⟨by omega, fun h => by have := hF6.lt h; omega⟩
  have z8 := hf8.size
  skip
  refine loop_normal (m' := n - (i + 1)) (by omega) ⟨i + 1, B7, _, T6, rfl, hlt, rfl, hb8, hF7.frame hf8 fun b hb (e : b = H3.size) => noT6 b (by omega) (by omega) hb, ?_, hm17.frame hf8 (fun (e : H1.size = H3.size) => by omega), hm27.frame hf8 (fun (e : H2.size = H3.size) => by omega), hB7', fun b hb => ?_, ?_, by omega⟩
  ·have := hv7.frame hf8 fun g hg (e : g = H3.size) => by have := (hB7' g hg).1; omega
   rw [List.range_succ, List.map_append, List.map_singleton]
   exact this
  ·rcases hT6 b hb with h | h
   ·exact hTf' b h
   ·exact .inr (by omega)
  ·exact (hfr6.trans' hf7 fun b hb e => by have := (hB b e).1; omega).trans' hf8 fun b hb (e : b = H3.size) => by omega
 ·obtain rfl : i = n := by omega
  have t2 : (i < i) = False := by simp
  repeat' (first|(with_reducible first|refine jA ?_|(refine hK _ _ ?_;clear hK K)|refine jJ fun K hK=>?_|refine jK ?_|refine jL ?_|refine jM ?_|refine jN ?_|refine jO ?_|refine jP ?_|refine jQ ?_|(refine jB ?_;clear hK K)|(refine jC ?_;clear hK K)|refine jD ?_|refine jE ?_|refine jG ?_|refine jH ?_|refine jI ?_)|((with_reducible refine jR ?hq ?_);case hq=>rfl)|((first|(with_reducible first|refine jS fun K hK=>?_|refine jT ?_|refine jU ?_)|((with_reducible refine jV ?hy fun K hK=>?_);case hy=>rfl));simp only [go_sem, Nat.reduceEqDiff, Nat.reduceAdd, Nat.reduceMul, Nat.reduceLeDiff, Nat.reduceLT, Int.reduceLT, Int.reduceLE, Int.reduceEq, Int.reduceNeg, Int.reduceToNat, Nat.reducePow, reduceIte, reduceCtorEq, i30, i31, t2, i6])|((with_reducible first|refine jW ?hy ?_|refine jY ?hy ?_);case hy=>rfl)|((with_reducible first|refine jX ?hy ?_|refine jZ ?hy ?_);case hy=>rfl)|((with_reducible refine jF ?hy ?_);case hy=>decide))
  obtain ⟨g, c, rest, rfl, rfl, _, _, _⟩ := hv.row (by
   intro e
   have := congrArg List.length e
   simp at this
   omega)
  have hlen : ((List.range i).map fun v => ((v + 1 : Nat) : Int)).length = i := by simp
  rw [hlen] at hb hv
  have hg := hB g rfl
  refine fin _ _ (fun b => ToFt H3.size Tf g H1.size H2.size b) ⟨f, Tf, _, g, c, H1.size, H2.size, _, _, ⟨hb, hF, hv, ⟨0, hm1⟩, ⟨0, hm2⟩, noT _ (by omega) (by omega), hg.2, noT _ (by omega) (by omega), noT _ (by omega) (by omega), by omega, by omega, by omega, by omega, by omega, by omega⟩, Rel.start h1 h2, fun b h => h, fun b hb' => ?_⟩ hfr fun b hb' => ?_
  ·rcases hb' with rfl | rfl | rfl | rfl | h
   ·exact hb.lt
   ·exact hv.lt rfl
   ·exact hm1.lt
   ·exact hm2.lt
   ·exact hF.lt h
  ·rcases hb' with rfl | rfl | rfl | rfl | h
   ·omega
   ·omega
   ·omega
   ·omega
   ·rcases hTf' b h with h | h
    ·exact hT1 b h
    ·omega
end
end Go.Proofs.Ytnlafhnbakipmaa
namespace Go.Proofs.Ytnlafhnbakipmaa.Pkisthmuslaw04
open Go Go.Hp
set_option linter.all false
set_option maxRecDepth 100000

theorem pick_ok {H : Heap} {c n : Int} {K : Value → Heap → Prop} (h0 : -9223372036854775808 ≤ c) (h1 : c ≤ 9223372036854775807) (hn : 0 < n) (hk : K (.int .i64 (pickN c n)) H) :
  CallsH Try.prog 10 #[.int .i64 c, .int .i64 n] H K := by
 have en : (n = 0) = False := by simp; omega
 refine call10 (by simp) ?_
 simp only [Try.f10, Option.getD_some]
 by_cases hc : c < 0
 ·have e1 : (c < 0) = True := by simp [hc]
  have e2 : IntKind.i64.wrap (c + 1) = c + 1 := wrap_i64 (by omega) (by omega)
  have e3 : IntKind.i64.wrap (0 - (c + 1)) = -(c + 1) := by rw [wrap_i64] <;> omega
  have e4 : (-(c + 1)).tmod n = pickN c n := by
   unfold pickN
   rw [if_pos hc, Int.tmod_eq_emod_of_nonneg (by omega)]
  repeat' (first|(with_reducible first|refine jA ?_|(refine hK _ _ ?_;clear hK K)|refine jJ fun K hK=>?_|refine jK ?_|refine jL ?_|refine jM ?_|refine jN ?_|refine jO ?_|refine jP ?_|refine jQ ?_|(refine jB ?_;clear hK K)|(refine jC ?_;clear hK K)|refine jD ?_|refine jE ?_|refine jG ?_|refine jH ?_|refine jI ?_)|((with_reducible refine jR ?hq ?_);case hq=>rfl)|((first|(with_reducible first|refine jS fun K hK=>?_|refine jT ?_|refine jU ?_)|((with_reducible refine jV ?hy fun K hK=>?_);case hy=>rfl));simp only [go_sem, Nat.reduceEqDiff, Nat.reduceAdd, Nat.reduceMul, Nat.reduceLeDiff, Nat.reduceLT, Int.reduceLT, Int.reduceLE, Int.reduceEq, Int.reduceNeg, Int.reduceToNat, Nat.reducePow, reduceIte, reduceCtorEq, e1, e2, e3, e4, en])|((with_reducible first|refine jW ?hy ?_|refine jY ?hy ?_);case hy=>rfl)|((with_reducible first|refine jX ?hy ?_|refine jZ ?hy ?_);case hy=>rfl)|((with_reducible refine jF ?hy ?_);case hy=>decide))
  exact hk
 ·have e1 : (c < 0) = False := by simp [hc]
  have e4 : c.tmod n = pickN c n := by
   unfold pickN
   rw [if_neg hc, Int.tmod_eq_emod_of_nonneg (by omega)]
  repeat' (first|(with_reducible first|refine jA ?_|(refine hK _ _ ?_;clear hK K)|refine jJ fun K hK=>?_|refine jK ?_|refine jL ?_|refine jM ?_|refine jN ?_|refine jO ?_|refine jP ?_|refine jQ ?_|(refine jB ?_;clear hK K)|(refine jC ?_;clear hK K)|refine jD ?_|refine jE ?_|refine jG ?_|refine jH ?_|refine jI ?_)|((with_reducible refine jR ?hq ?_);case hq=>rfl)|((first|(with_reducible first|refine jS fun K hK=>?_|refine jT ?_|refine jU ?_)|((with_reducible refine jV ?hy fun K hK=>?_);case hy=>rfl));simp only [go_sem, Nat.reduceEqDiff, Nat.reduceAdd, Nat.reduceMul, Nat.reduceLeDiff, Nat.reduceLT, Int.reduceLT, Int.reduceLE, Int.reduceEq, Int.reduceNeg, Int.reduceToNat, Nat.reducePow, reduceIte, reduceCtorEq, e1, e4, en])|((with_reducible first|refine jW ?hy ?_|refine jY ?hy ?_);case hy=>rfl)|((with_reducible first|refine jX ?hy ?_|refine jZ ?hy ?_);case hy=>rfl)|((with_reducible refine jF ?hy ?_);case hy=>decide))
  exact hk
theorem same_ok {H : Heap} {B C : Option Nat} {v w : Value} {xs ys : List Int} {K : Value → Heap → Prop} (hv : Rds H B v xs) (hw : Rds H C w ys) (hl : xs.length ≤ 4611686018427387904) (fin : K (.bool (decide (xs = ys))) H) :
  CallsH Try.prog 15 #[v, w] H K := by
 obtain ⟨a, c, ev⟩ := hv.slice
 obtain ⟨a', c', ew⟩ := hw.slice
 refine call15 (by simp) ?_
 simp only [Try.f15, Option.getD_some]
 by_cases h : xs.length = ys.length
 ·have t1 : ((xs.length : Int) != (ys.length : Int)) = false := by simp [h]
  rw [ev, ew]
  repeat' (first|(with_reducible first|refine jA ?_|(refine hK _ _ ?_;clear hK K)|refine jJ fun K hK=>?_|refine jK ?_|refine jL ?_|refine jM ?_|refine jN ?_|refine jO ?_|refine jP ?_|refine jQ ?_|(refine jB ?_;clear hK K)|(refine jC ?_;clear hK K)|refine jD ?_|refine jE ?_|refine jG ?_|refine jH ?_|refine jI ?_)|((with_reducible refine jR ?hq ?_);case hq=>rfl)|((first|(with_reducible first|refine jS fun K hK=>?_|refine jT ?_|refine jU ?_)|((with_reducible refine jV ?hy fun K hK=>?_);case hy=>rfl));simp only [go_sem, Nat.reduceEqDiff, Nat.reduceAdd, Nat.reduceMul, Nat.reduceLeDiff, Nat.reduceLT, Int.reduceLT, Int.reduceLE, Int.reduceEq, Int.reduceNeg, Int.reduceToNat, Nat.reducePow, reduceIte, reduceCtorEq, t1])|((with_reducible first|refine jW ?hy ?_|refine jY ?hy ?_);case hy=>rfl)|((with_reducible first|refine jX ?hy ?_|refine jZ ?hy ?_);case hy=>rfl)|((with_reducible refine jF ?hy ?_);case hy=>decide))
  refine x_loop (fun m e' H' => ∃ i : Nat, H' = H ∧ e' 5 = .int .i64 (i : Nat) ∧ i ≤ xs.length ∧ xs.take i = ys.take i ∧ m = xs.length - i) xs.length ⟨0, rfl, rfl, Nat.zero_le _, rfl, rfl⟩ ?_
  rintro m e1 H1 ⟨i, rfl, i5, hi, heq, rfl⟩ hoff
  have i0 := (hoff 0 rfl).trans rfl
  have i1 := (hoff 1 rfl).trans rfl
  clear hoff
  by_cases hlt : i < xs.length
  ·obtain ⟨x, hx⟩ : ∃ x, xs[i]? = some x := ⟨_, List.getElem?_eq_getElem hlt⟩
   obtain ⟨y, hy⟩ : ∃ y, ys[i]? = some y := ⟨_, List.getElem?_eq_getElem (by omega)⟩
   obtain ⟨b, o, c1, _, hv1, cx⟩ := hv.read hx
   obtain ⟨b2, o2, c2, _, hw1, cy⟩ := hw.read hy
   have i0' := i0.trans (ev.symm.trans hv1)
   have i1' := i1.trans (ew.symm.trans hw1)
   have hlt' : (i < ys.length) = True := by simp; omega
   have ewr : IntKind.i64.wrap ((i : Int) + 1) = ((i + 1 : Nat) : Int) := by rw [wrap_i64] <;> omega
   by_cases hxy : x = y
   ·have t2 : (x != y) = false := by simp [hxy]
    repeat' (first|(with_reducible first|refine jA ?_|(refine hK _ _ ?_;clear hK K)|refine jJ fun K hK=>?_|refine jK ?_|refine jL ?_|refine jM ?_|refine jN ?_|refine jO ?_|refine jP ?_|refine jQ ?_|(refine jB ?_;clear hK K)|(refine jC ?_;clear hK K)|refine jD ?_|refine jE ?_|refine jG ?_|refine jH ?_|refine jI ?_)|((with_reducible refine jR ?hq ?_);case hq=>rfl)|((first|(with_reducible first|refine jS fun K hK=>?_|refine jT ?_|refine jU ?_)|((with_reducible refine jV ?hy fun K hK=>?_);case hy=>rfl));simp only [go_sem, Nat.reduceEqDiff, Nat.reduceAdd, Nat.reduceMul, Nat.reduceLeDiff, Nat.reduceLT, Int.reduceLT, Int.reduceLE, Int.reduceEq, Int.reduceNeg, Int.reduceToNat, Nat.reducePow, reduceIte, reduceCtorEq, i5, i0', i1', hlt, hlt', cx, cy, t2, ewr])|((with_reducible first|refine jW ?hy ?_|refine jY ?hy ?_);case hy=>rfl)|((with_reducible first|refine jX ?hy ?_|refine jZ ?hy ?_);case hy=>rfl)|((with_reducible refine jF ?hy ?_);case hy=>decide))
    refine loop_normal (m' := xs.length - (i + 1)) (by omega) ⟨i + 1, rfl, rfl, by omega, ?_, rfl⟩
    rw [List.take_add_one, List.take_add_one, heq, hx, hy, hxy]
   ·have t2 : (x != y) = true := by simp [hxy]
    repeat' (first|(with_reducible first|refine jA ?_|(refine hK _ _ ?_;clear hK K)|refine jJ fun K hK=>?_|refine jK ?_|refine jL ?_|refine jM ?_|refine jN ?_|refine jO ?_|refine jP ?_|refine jQ ?_|(refine jB ?_;clear hK K)|(refine jC ?_;clear hK K)|refine jD ?_|refine jE ?_|refine jG ?_|refine jH ?_|refine jI ?_)|((with_reducible refine jR ?hq ?_);case hq=>rfl)|((first|(with_reducible first|refine jS fun K hK=>?_|refine jT ?_|refine jU ?_)|((with_reducible refine jV ?hy fun K hK=>?_);case hy=>rfl));simp only [go_sem, Nat.reduceEqDiff, Nat.reduceAdd, Nat.reduceMul, Nat.reduceLeDiff, Nat.reduceLT, Int.reduceLT, Int.reduceLE, Int.reduceEq, Int.reduceNeg, Int.reduceToNat, Nat.reducePow, reduceIte, reduceCtorEq, i5, i0', i1', hlt, hlt', cx, cy, t2])|((with_reducible first|refine jW ?hy ?_|refine jY ?hy ?_);case hy=>rfl)|((with_reducible first|refine jX ?hy ?_|refine jZ ?hy ?_);case hy=>rfl)|((with_reducible refine jF ?hy ?_);case hy=>decide))
    have : decide (xs = ys) = false := by
     rw [decide_eq_false_iff_not]
     intro e
     rw [e, hy] at hx
     exact hxy (Option.some.inj hx).symm
    rw [this] at fin
    exact fin
  ·have hlt' : (i < xs.length) = False := by simp; omega
   repeat' (first|(with_reducible first|refine jA ?_|(refine hK _ _ ?_;clear hK K)|refine jJ fun K hK=>?_|refine jK ?_|refine jL ?_|refine jM ?_|refine jN ?_|refine jO ?_|refine jP ?_|refine jQ ?_|(refine jB ?_;clear hK K)|(refine jC ?_;clear hK K)|refine jD ?_|refine jE ?_|refine jG ?_|refine jH ?_|refine jI ?_)|((with_reducible refine jR ?hq ?_);case hq=>rfl)|((first|(with_reducible first|refine jS fun K hK=>?_|refine jT ?_|refine jU ?_)|((with_reducible refine jV ?hy fun K hK=>?_);case hy=>rfl));simp only [go_sem, Nat.reduceEqDiff, Nat.reduceAdd, Nat.reduceMul, Nat.reduceLeDiff, Nat.reduceLT, Int.reduceLT, Int.reduceLE, Int.reduceEq, Int.reduceNeg, Int.reduceToNat, Nat.reducePow, reduceIte, reduceCtorEq, i5, i0, i1, hlt'])|((with_reducible first|refine jW ?hy ?_|refine jY ?hy ?_);case hy=>rfl)|((with_reducible first|refine jX ?hy ?_|refine jZ ?hy ?_);case hy=>rfl)|((with_reducible refine jF ?hy ?_);case hy=>decide))
   have : decide (xs = ys) = true := by
    rw [decide_eq_true_iff]
    have hi' : i = xs.length := by omega
    rw [hi', List.take_length] at heq
    rw [heq, h, List.take_length]
   rw [this] at fin
   exact fin
 ·have t1 : ((xs.length : Int) != (ys.length : Int)) = true := by simp; omega
  have : decide (xs = ys) = false := by
   rw [decide_eq_false_iff_not]
   intro e; exact h (by rw [e])
  rw [this] at fin
  rw [ev, ew]
  repeat' (first|(with_reducible first|refine jA ?_|(refine hK _ _ ?_;clear hK K)|refine jJ fun K hK=>?_|refine jK ?_|refine jL ?_|refine jM ?_|refine jN ?_|refine jO ?_|refine jP ?_|refine jQ ?_|(refine jB ?_;clear hK K)|(refine jC ?_;clear hK K)|refine jD ?_|refine jE ?_|refine jG ?_|refine jH ?_|refine jI ?_)|((with_reducible refine jR ?hq ?_);case hq=>rfl)|((first|(with_reducible first|refine jS fun K hK=>?_|refine jT ?_|refine jU ?_)|((with_reducible refine jV ?hy fun K hK=>?_);case hy=>rfl));simp only [go_sem, Nat.reduceEqDiff, Nat.reduceAdd, Nat.reduceMul, Nat.reduceLeDiff, Nat.reduceLT, Int.reduceLT, Int.reduceLE, Int.reduceEq, Int.reduceNeg, Int.reduceToNat, Nat.reducePow, reduceIte, reduceCtorEq, t1])|((with_reducible first|refine jW ?hy ?_|refine jY ?hy ?_);case hy=>rfl)|((with_reducible first|refine jX ?hy ?_|refine jZ ?hy ?_);case hy=>rfl)|((with_reducible refine jF ?hy ?_);case hy=>decide))
  exact fin
end Go.Proofs.Ytnlafhnbakipmaa.Pkisthmuslaw04
namespace Go.Proofs.Ytnlafhnbakipmaa
open Go Go.Hp Go.Sp Go.To
set_option linter.all false
set_option maxRecDepth 100000
set_option maxHeartbeats 1600000
structure TS (H0 H : Heap) (t : Nat) (T : Nat → Prop) (Q : Tq) : Prop where
 to : ToM H t T Q
 fr : Fr (fun _ => False) H0 H
 own : ∀ b, T b → H0.size ≤ b
section
variable {H0 H H' : Heap} {t : Nat} {T T' : Nat → Prop} {Q Q' : Tq} {K L : Value → Heap → Prop}
theorem TS.op (h : TS H0 H t T Q) (hM : ToM H' t T' Q') (hf : Fr T H H') (hT : ∀ b, T' b → T b ∨ H.size ≤ b) : TS H0 H' t T' Q' :=
 ⟨hM, h.fr.trans' hf fun b hb hx => by have := h.own b hx; omega, fun b hb => by
  rcases hT b hb with e | e
  ·exact h.own b e
  ·exact Nat.le_trans h.fr.size e⟩
theorem TS.grow (h : TS H0 H t T Q) (hf : Fr (fun _ => False) H H') : TS H0 H' t T Q := ⟨h.to.grow hf, h.fr.trans hf, h.own⟩
theorem TS.base (h : TS H0 H t T Q) {H00 : Heap} (hf : Fr (fun _ => False) H00 H0) : TS H00 H t T Q := ⟨h.to, hf.trans h.fr, fun b hb => Nat.le_trans hf.size (h.own b hb)⟩
theorem TS.frame (h : TS H0 H t T Q) {S : Nat → Prop} (hf : Fr S H H') (h1 : ∀ b, S b → H0.size ≤ b) (h2 : ∀ b, S b → ¬ T b) : TS H0 H' t T Q :=
 ⟨h.to.frame hf fun b hb hs => h2 b hs hb, h.fr.trans' hf fun b hb hs => by have := h1 b hs; omega, h.own⟩
theorem TS.start (hM : ToM H' t T Q) (hf : Fr (fun _ => False) H H') (hT : ∀ b, T b → H.size ≤ b) : TS H H' t T Q := ⟨hM, hf, hT⟩
theorem ir_lit (H : Heap) (xs : List Int) (T : TypeId) (hx : xs ≠ []) : IR (H.push (.cells (xs.map (Value.int .i64)).toArray T)) (some H.size) (.slice (some ⟨H.size, 0, none⟩) xs.length xs.length) xs :=
 ⟨by simp, .inr ⟨H.size, xs.length, [], rfl, rfl, by rw [List.append_nil]; exact Blk.new H _ T, by simp, Nat.le_refl _⟩⟩
theorem awake_ok (fin : ∀ H', Fr (fun _ => False) H H' → L (.bool true) H') : CallsH Try.prog 8 #[] H L := by
 refine call8 (by simp) ?_
 simp only [Try.f8, Option.getD_some]
 repeat' (first|(with_reducible first|refine jA ?_|(refine hK _ _ ?_;clear hK K)|refine jJ fun K hK=>?_|refine jK ?_|refine jL ?_|refine jM ?_|refine jN ?_|refine jO ?_|refine jP ?_|refine jQ ?_|(refine jB ?_;clear hK K)|(refine jC ?_;clear hK K)|refine jD ?_|refine jE ?_|refine jG ?_|refine jH ?_|refine jI ?_)|((with_reducible refine jR ?hq ?_);case hq=>rfl)|((first|(with_reducible first|refine jS fun K hK=>?_|refine jT ?_|refine jU ?_)|((with_reducible refine jV ?hy fun K hK=>?_);case hy=>rfl));simp only [go_sem, Nat.reduceEqDiff, Nat.reduceAdd, Nat.reduceMul, Nat.reduceLeDiff, Nat.reduceLT, Int.reduceLT, Int.reduceLE, Int.reduceEq, Int.reduceNeg, Int.reduceToNat, Nat.reducePow, reduceIte, reduceCtorEq])|((with_reducible first|refine jW ?hy ?_|refine jY ?hy ?_);case hy=>rfl)|((with_reducible first|refine jX ?hy ?_|refine jZ ?hy ?_);case hy=>rfl)|((with_reducible refine jF ?hy ?_);case hy=>decide))
 refine tnew_ok (n := 4) (by omega) (by omega) fun H1 t T1 hM1 hf1 hT1 => ?_
 have S1 := TS.start hM1 hf1 hT1
 have z1 : ((0 : Int) != 0) = false := rfl
 have z2 : ((0 : Int) == 0) = true := rfl
 have z3 : ((41 : Int) == 41) = true := rfl
 repeat' (first|(with_reducible first|refine jA ?_|(refine hK _ _ ?_;clear hK K)|refine jJ fun K hK=>?_|refine jK ?_|refine jL ?_|refine jM ?_|refine jN ?_|refine jO ?_|refine jP ?_|refine jQ ?_|(refine jB ?_;clear hK K)|(refine jC ?_;clear hK K)|refine jD ?_|refine jE ?_|refine jG ?_|refine jH ?_|refine jI ?_)|((with_reducible refine jR ?hq ?_);case hq=>rfl)|((first|(with_reducible first|refine jS fun K hK=>?_|refine jT ?_|refine jU ?_)|((with_reducible refine jV ?hy fun K hK=>?_);case hy=>rfl));simp only [go_sem, Nat.reduceEqDiff, Nat.reduceAdd, Nat.reduceMul, Nat.reduceLeDiff, Nat.reduceLT, Int.reduceLT, Int.reduceLE, Int.reduceEq, Int.reduceNeg, Int.reduceToNat, Nat.reducePow, reduceIte, reduceCtorEq, z1])|((with_reducible first|refine jW ?hy ?_|refine jY ?hy ?_);case hy=>rfl)|((with_reducible first|refine jX ?hy ?_|refine jZ ?hy ?_);case hy=>rfl)|((with_reducible refine jF ?hy ?_);case hy=>decide))
 obtain ⟨Q1, eQ1⟩ : ∃ Q1, Q1 = ((Tq.new 4).linkQ 0 1).2 := ⟨_, rfl⟩
 have l1 : ((Tq.new 4).linkQ 0 1).1 = 0 := by decide +kernel
 refine tq_link (u := 0) (v := 1) S1.to fun H2 T2 hM2 hf2 hT2 => ?_
 rw [l1]
 have S2 := S1.op hM2 hf2 hT2
 rw [← eQ1] at S2
 repeat' (first|(with_reducible first|refine jA ?_|(refine hK _ _ ?_;clear hK K)|refine jJ fun K hK=>?_|refine jK ?_|refine jL ?_|refine jM ?_|refine jN ?_|refine jO ?_|refine jP ?_|refine jQ ?_|(refine jB ?_;clear hK K)|(refine jC ?_;clear hK K)|refine jD ?_|refine jE ?_|refine jG ?_|refine jH ?_|refine jI ?_)|((with_reducible refine jR ?hq ?_);case hq=>rfl)|((first|(with_reducible first|refine jS fun K hK=>?_|refine jT ?_|refine jU ?_)|((with_reducible refine jV ?hy fun K hK=>?_);case hy=>rfl));simp only [go_sem, Nat.reduceEqDiff, Nat.reduceAdd, Nat.reduceMul, Nat.reduceLeDiff, Nat.reduceLT, Int.reduceLT, Int.reduceLE, Int.reduceEq, Int.reduceNeg, Int.reduceToNat, Nat.reducePow, reduceIte, reduceCtorEq])|((with_reducible first|refine jW ?hy ?_|refine jY ?hy ?_);case hy=>rfl)|((with_reducible first|refine jX ?hy ?_|refine jZ ?hy ?_);case hy=>rfl)|((with_reducible refine jF ?hy ?_);case hy=>decide))
 obtain ⟨Q2, eQ2⟩ : ∃ Q2, Q2 = (Q1.linkQ 0 2).2 := ⟨_, rfl⟩
 have l2 : (Q1.linkQ 0 2).1 = 0 := by rw [eQ1]; decide +kernel
 refine tq_link (u := 0) (v := 2) S2.to fun H3 T3 hM3 hf3 hT3 => ?_
 rw [l2]
 have S3 := S2.op hM3 hf3 hT3
 rw [← eQ2] at S3
 repeat' (first|(with_reducible first|refine jA ?_|(refine hK _ _ ?_;clear hK K)|refine jJ fun K hK=>?_|refine jK ?_|refine jL ?_|refine jM ?_|refine jN ?_|refine jO ?_|refine jP ?_|refine jQ ?_|(refine jB ?_;clear hK K)|(refine jC ?_;clear hK K)|refine jD ?_|refine jE ?_|refine jG ?_|refine jH ?_|refine jI ?_)|((with_reducible refine jR ?hq ?_);case hq=>rfl)|((first|(with_reducible first|refine jS fun K hK=>?_|refine jT ?_|refine jU ?_)|((with_reducible refine jV ?hy fun K hK=>?_);case hy=>rfl));simp only [go_sem, Nat.reduceEqDiff, Nat.reduceAdd, Nat.reduceMul, Nat.reduceLeDiff, Nat.reduceLT, Int.reduceLT, Int.reduceLE, Int.reduceEq, Int.reduceNeg, Int.reduceToNat, Nat.reducePow, reduceIte, reduceCtorEq])|((with_reducible first|refine jW ?hy ?_|refine jY ?hy ?_);case hy=>rfl)|((with_reducible first|refine jX ?hy ?_|refine jZ ?hy ?_);case hy=>rfl)|((with_reducible refine jF ?hy ?_);case hy=>decide))
 have w1 : Q2.walkQ 2 = ([0, 2, 1], 0) := by rw [eQ2, eQ1]; decide +kernel
 refine tq_walk (v := 2) S3.to fun H4 T4 B4 v4 hM4 hi4 hB4 hf4 hT4 => ?_
 rw [w1] at hi4 ⊢
 have S4 := S3.op hM4 hf4 hT4
 obtain ⟨Q3, eQ3⟩ : ∃ Q3, Q3 = (Q2.linkQ 3 2).2 := ⟨_, rfl⟩
 have l3 : (Q2.linkQ 3 2).1 = 0 := by rw [eQ2, eQ1]; decide +kernel
 repeat' (first|(with_reducible first|refine jA ?_|(refine hK _ _ ?_;clear hK K)|refine jJ fun K hK=>?_|refine jK ?_|refine jL ?_|refine jM ?_|refine jN ?_|refine jO ?_|refine jP ?_|refine jQ ?_|(refine jB ?_;clear hK K)|(refine jC ?_;clear hK K)|refine jD ?_|refine jE ?_|refine jG ?_|refine jH ?_|refine jI ?_)|((with_reducible refine jR ?hq ?_);case hq=>rfl)|((first|(with_reducible first|refine jS fun K hK=>?_|refine jT ?_|refine jU ?_)|((with_reducible refine jV ?hy fun K hK=>?_);case hy=>rfl));simp only [go_sem, Nat.reduceEqDiff, Nat.reduceAdd, Nat.reduceMul, Nat.reduceLeDiff, Nat.reduceLT, Int.reduceLT, Int.reduceLE, Int.reduceEq, Int.reduceNeg, Int.reduceToNat, Nat.reducePow, reduceIte, reduceCtorEq])|((with_reducible first|refine jW ?hy ?_|refine jY ?hy ?_);case hy=>rfl)|((with_reducible first|refine jX ?hy ?_|refine jZ ?hy ?_);case hy=>rfl)|((with_reducible refine jF ?hy ?_);case hy=>decide))
 refine tq_link (u := 3) (v := 2) S4.to fun H5 T5 hM5 hf5 hT5 => ?_
 rw [l3]
 have S5 := S4.op hM5 hf5 hT5
 rw [← eQ3] at S5
 have hi5 := hi4.frame hf5 fun g hg => (hB4 g hg).2
 have b4 : ∀ b, B4 = some b → ¬ T5 b ∧ b < H5.size ∧ H.size ≤ b := fun b hb => by
  have h1 := hi4.lt hb
  refine ⟨fun hx => ?_, hi5.lt hb, Nat.le_trans S3.fr.size (hB4 b hb).1⟩
  rcases hT5 b hx with h | h
  ·exact (hB4 b hb).2 h
  ·omega
 repeat' (first|(with_reducible first|refine jA ?_|(refine hK _ _ ?_;clear hK K)|refine jJ fun K hK=>?_|refine jK ?_|refine jL ?_|refine jM ?_|refine jN ?_|refine jO ?_|refine jP ?_|refine jQ ?_|(refine jB ?_;clear hK K)|(refine jC ?_;clear hK K)|refine jD ?_|refine jE ?_|refine jG ?_|refine jH ?_|refine jI ?_)|((with_reducible refine jR ?hq ?_);case hq=>rfl)|((first|(with_reducible first|refine jS fun K hK=>?_|refine jT ?_|refine jU ?_)|((with_reducible refine jV ?hy fun K hK=>?_);case hy=>rfl));simp only [go_sem, Nat.reduceEqDiff, Nat.reduceAdd, Nat.reduceMul, Nat.reduceLeDiff, Nat.reduceLT, Int.reduceLT, Int.reduceLE, Int.reduceEq, Int.reduceNeg, Int.reduceToNat, Nat.reducePow, reduceIte, reduceCtorEq])|((with_reducible first|refine jW ?hy ?_|refine jY ?hy ?_);case hy=>rfl)|((with_reducible first|refine jX ?hy ?_|refine jZ ?hy ?_);case hy=>rfl)|((with_reducible refine jF ?hy ?_);case hy=>decide))
 have w2 : Q3.walkQ 0 = ([3, 2, 1, 0], 0) := by rw [eQ3, eQ2, eQ1]; decide +kernel
 refine tq_walk (v := 0) S5.to fun H6 T6 B6 v6 hM6 hi6 hB6 hf6 hT6 => ?_
 rw [w2] at hi6 ⊢
 have S6 := S5.op hM6 hf6 hT6
 have hi46 := hi5.frame hf6 fun g hg => (b4 g hg).1
 have b46 : ∀ b, B4 = some b → ¬ T6 b := fun b hb hx => by
  rcases hT6 b hx with h | h
  ·exact (b4 b hb).1 h
  ·have := (b4 b hb).2.1; omega
 have l4 : (Q3.linkQ 1 3).1 = 41 := by rw [eQ3, eQ2, eQ1]; decide +kernel
 repeat' (first|(with_reducible first|refine jA ?_|(refine hK _ _ ?_;clear hK K)|refine jJ fun K hK=>?_|refine jK ?_|refine jL ?_|refine jM ?_|refine jN ?_|refine jO ?_|refine jP ?_|refine jQ ?_|(refine jB ?_;clear hK K)|(refine jC ?_;clear hK K)|refine jD ?_|refine jE ?_|refine jG ?_|refine jH ?_|refine jI ?_)|((with_reducible refine jR ?hq ?_);case hq=>rfl)|((first|(with_reducible first|refine jS fun K hK=>?_|refine jT ?_|refine jU ?_)|((with_reducible refine jV ?hy fun K hK=>?_);case hy=>rfl));simp only [go_sem, Nat.reduceEqDiff, Nat.reduceAdd, Nat.reduceMul, Nat.reduceLeDiff, Nat.reduceLT, Int.reduceLT, Int.reduceLE, Int.reduceEq, Int.reduceNeg, Int.reduceToNat, Nat.reducePow, reduceIte, reduceCtorEq])|((with_reducible first|refine jW ?hy ?_|refine jY ?hy ?_);case hy=>rfl)|((with_reducible first|refine jX ?hy ?_|refine jZ ?hy ?_);case hy=>rfl)|((with_reducible refine jF ?hy ?_);case hy=>decide))
 refine tq_link (u := 1) (v := 3) S6.to fun H7 T7 hM7 hf7 hT7 => ?_
 rw [l4]
 have S7 := S6.op hM7 hf7 hT7
 have hi47 := hi46.frame hf7 fun g hg => b46 g hg
 have hi67 := hi6.frame hf7 fun g hg => (hB6 g hg).2
 repeat' (first|(with_reducible first|refine jA ?_|(refine hK _ _ ?_;clear hK K)|refine jJ fun K hK=>?_|refine jK ?_|refine jL ?_|refine jM ?_|refine jN ?_|refine jO ?_|refine jP ?_|refine jQ ?_|(refine jB ?_;clear hK K)|(refine jC ?_;clear hK K)|refine jD ?_|refine jE ?_|refine jG ?_|refine jH ?_|refine jI ?_)|((with_reducible refine jR ?hq ?_);case hq=>rfl)|((first|(with_reducible first|refine jS fun K hK=>?_|refine jT ?_|refine jU ?_)|((with_reducible refine jV ?hy fun K hK=>?_);case hy=>rfl));simp only [go_sem, Nat.reduceEqDiff, Nat.reduceAdd, Nat.reduceMul, Nat.reduceLeDiff, Nat.reduceLT, Int.reduceLT, Int.reduceLE, Int.reduceEq, Int.reduceNeg, Int.reduceToNat, Nat.reducePow, reduceIte, reduceCtorEq])|((with_reducible first|refine jW ?hy ?_|refine jY ?hy ?_);case hy=>rfl)|((with_reducible first|refine jX ?hy ?_|refine jZ ?hy ?_);case hy=>rfl)|((with_reducible refine jF ?hy ?_);case hy=>decide))
 have fl : Fr (fun _ => False) H7 (H7.push (.cells ([0, 2, 1].map (Value.int .i64)).toArray 3)) := (Fr.refl _ _).push _
 have il := ir_lit H7 [0, 2, 1] 3 (by simp)
 refine Pkisthmuslaw04.same_ok (hi47.frame fl fun _ _ h => h).rds il.rds (by simp) ?_
 rw [decide_eq_true rfl]
 repeat' (first|(with_reducible first|refine jA ?_|(refine hK _ _ ?_;clear hK K)|refine jJ fun K hK=>?_|refine jK ?_|refine jL ?_|refine jM ?_|refine jN ?_|refine jO ?_|refine jP ?_|refine jQ ?_|(refine jB ?_;clear hK K)|(refine jC ?_;clear hK K)|refine jD ?_|refine jE ?_|refine jG ?_|refine jH ?_|refine jI ?_)|((with_reducible refine jR ?hq ?_);case hq=>rfl)|((first|(with_reducible first|refine jS fun K hK=>?_|refine jT ?_|refine jU ?_)|((with_reducible refine jV ?hy fun K hK=>?_);case hy=>rfl));simp only [go_sem, Nat.reduceEqDiff, Nat.reduceAdd, Nat.reduceMul, Nat.reduceLeDiff, Nat.reduceLT, Int.reduceLT, Int.reduceLE, Int.reduceEq, Int.reduceNeg, Int.reduceToNat, Nat.reducePow, reduceIte, reduceCtorEq])|((with_reducible first|refine jW ?hy ?_|refine jY ?hy ?_);case hy=>rfl)|((with_reducible first|refine jX ?hy ?_|refine jZ ?hy ?_);case hy=>rfl)|((with_reducible refine jF ?hy ?_);case hy=>decide))
 have fl2 : Fr (fun _ => False) (H7.push (.cells ([0, 2, 1].map (Value.int .i64)).toArray 3)) ((H7.push (.cells ([0, 2, 1].map (Value.int .i64)).toArray 3)).push (.cells ([3, 2, 1, 0].map (Value.int .i64)).toArray 3)) := (Fr.refl _ _).push _
 have il2 := ir_lit (H7.push (.cells ([0, 2, 1].map (Value.int .i64)).toArray 3)) [3, 2, 1, 0] 3 (by simp)
 refine Pkisthmuslaw04.same_ok ((hi67.frame fl fun _ _ h => h).frame fl2 fun _ _ h => h).rds il2.rds (by simp) ?_
 rw [decide_eq_true rfl]
 repeat' (first|(with_reducible first|refine jA ?_|(refine hK _ _ ?_;clear hK K)|refine jJ fun K hK=>?_|refine jK ?_|refine jL ?_|refine jM ?_|refine jN ?_|refine jO ?_|refine jP ?_|refine jQ ?_|(refine jB ?_;clear hK K)|(refine jC ?_;clear hK K)|refine jD ?_|refine jE ?_|refine jG ?_|refine jH ?_|refine jI ?_)|((with_reducible refine jR ?hq ?_);case hq=>rfl)|((first|(with_reducible first|refine jS fun K hK=>?_|refine jT ?_|refine jU ?_)|((with_reducible refine jV ?hy fun K hK=>?_);case hy=>rfl));simp only [go_sem, Nat.reduceEqDiff, Nat.reduceAdd, Nat.reduceMul, Nat.reduceLeDiff, Nat.reduceLT, Int.reduceLT, Int.reduceLE, Int.reduceEq, Int.reduceNeg, Int.reduceToNat, Nat.reducePow, reduceIte, reduceCtorEq, z2, z3])|((with_reducible first|refine jW ?hy ?_|refine jY ?hy ?_);case hy=>rfl)|((with_reducible first|refine jX ?hy ?_|refine jZ ?hy ?_);case hy=>rfl)|((with_reducible refine jF ?hy ?_);case hy=>decide))
 exact fin _ ((S7.fr.trans fl).trans fl2)
end
end Go.Proofs.Ytnlafhnbakipmaa
namespace Go.To
open Go Go.Hp Go.Sp Go.Proofs.Ytnlafhnbakipmaa
def wl (l : List St) : List Nat := (l.filter fun x => x.1 == x.2).map Prod.fst
theorem wl_append (a b : List St) : wl (a ++ b) = wl a ++ wl b := by unfold wl; rw [List.filter_append, List.map_append]
theorem wl_stop (v : Nat) (l : List St) : wl ((v, v) :: l) = v :: wl l := by unfold wl; simp
theorem mem_wl {l : List St} {v : Nat} : v ∈ wl l ↔ (v, v) ∈ l := by
 unfold wl
 rw [List.mem_map]
 constructor
 ·rintro ⟨⟨a, b⟩, h, rfl⟩
  rw [List.mem_filter] at h
  obtain ⟨h1, h2⟩ := h
  obtain rfl : a = b := by simpa using h2
  exact h1
 ·intro h
  exact ⟨(v, v), List.mem_filter.2 ⟨h, by simp⟩, rfl⟩
theorem wl_nodup {l : List St} (h : l.Nodup) : (wl l).Nodup := by
 unfold wl
 have h2 := List.filter_sublist (p := fun x : St => x.1 == x.2) |>.nodup h
 refine List.pairwise_map.2 (h2.imp_of_mem ?_)
 rintro ⟨a, b⟩ ⟨c, d⟩ h3 h4 hne e
 rw [List.mem_filter] at h3 h4
 have e1 : a = b := by simpa using h3.2
 have e2 : c = d := by simpa using h4.2
 simp only at e
 exact hne (by rw [← e1, ← e2, e])
theorem walkL_eq (Q : Tq) (v : Nat) : Q.walkL v = (wl (Q.row v)).map Int.ofNat := by
 unfold Tq.walkL wl
 rw [List.map_map]
 rfl
theorem wl_turned {l : List St} {v : Nat} (hn : l.Nodup) (hv : (v, v) ∈ l) : wl (turnedL l v) = (wl l).drop ((wl l).idxOf v) ++ (wl l).take ((wl l).idxOf v) := by
 obtain ⟨h1, _⟩ := split_idx hv
 rw [turnedL_eq hn h1]
 conv => rhs; rw [h1]
 generalize List.take (List.idxOf (v, v) l) l = a at h1 ⊢
 generalize List.drop (List.idxOf (v, v) l + 1) l = b at h1 ⊢
 have hva : v ∉ wl a := fun hm => by
  rw [mem_wl] at hm
  rw [h1] at hn
  exact (List.nodup_append.1 hn).2.2 _ hm _ (.head _) rfl
 rw [wl_append, wl_append, wl_stop, List.idxOf_append, if_neg hva]
 simp
theorem rot_get {α : Type} (a : List α) (k i : Nat) (hk : k < a.length) (hi : i < a.length) : (a.drop k ++ a.take k)[i]? = a[(k + i) % a.length]? := by
 rcases Nat.lt_or_ge i (a.length - k) with h | h
 ·rw [List.getElem?_append_left (by simpa using h), List.getElem?_drop, Nat.mod_eq_of_lt (by omega)]
 ·rw [List.getElem?_append_right (by simpa using h), List.length_drop, List.getElem?_take_of_lt (by omega)]
  congr 1
  rw [show k + i = (i - (a.length - k)) + a.length by omega, Nat.add_mod_right, Nat.mod_eq_of_lt (by omega)]
structure Grown (Q : Tq) (i : Nat) : Prop where
 one : ∀ w, w < i → ∀ x, (x, x) ∈ Q.row w ↔ x < i
 rest : ∀ w, i ≤ w → w < Q.n → Q.row w = [(w, w)]
theorem Grown.start {n : Nat} : Grown (Tq.new n) 1 where
 one w hw x := by
  simp only [Tq.new, List.mem_singleton, Prod.mk.injEq]
  omega
 rest w _ _ := rfl
theorem Grown.link {Q : Tq} {i u v : Nat} (h : Grown Q i) (hok : Q.Ok) (hi : i < Q.n) (huv : (u < i ∧ v = i) ∨ (u = i ∧ v < i)) : (v, v) ∉ Q.row u ∧ Grown (Q.lay (Q.linkRow u v)) (i + 1) := by
 have hun : u < Q.n := by omega
 have hne : u ≠ v := by omega
 have mrow : ∀ w, w < i + 1 → ∀ x, (x, x) ∈ Q.row w ↔ ((w < i ∧ x < i) ∨ (w = i ∧ x = i)) := fun w hw x => by
  rcases Nat.lt_succ_iff_lt_or_eq.1 hw with h1 | h1
  ·rw [h.one w h1]; omega
  ·rw [h.rest w (by omega) (by omega)]
   simp only [List.mem_singleton, Prod.mk.injEq]
   omega
 refine ⟨by rw [mrow u (by omega)]; omega, ?_⟩
 have hm : ∀ x, (x, x) ∈ Q.linkRow u v ↔ x < i + 1 := fun x => by
  rw [Tq.mem_linkRow (hok.self u hun), mrow u (by omega), mrow v (by omega)]
  simp only [Prod.mk.injEq]
  omega
 refine ⟨fun w hw x => ?_, fun w hw hwn => ?_⟩
 ·show (x, x) ∈ (if (w, w) ∈ Q.linkRow u v then Q.linkRow u v else Q.row w) ↔ _
  rw [if_pos ((hm w).2 hw), hm]
 ·show (if (w, w) ∈ Q.linkRow u v then Q.linkRow u v else Q.row w) = _
  rw [if_neg (fun h => by have := (hm w).1 h; omega)]
  exact h.rest w (by omega) hwn
theorem Grown.whole {Q : Tq} (h : Grown Q Q.n) (hok : Q.Ok) {v w : Nat} (hv : v < Q.n) (hw : w < Q.n) : Q.row v = Q.row w := ((hok.same w hw v ((h.one w hw v).2 hv)).2)
theorem Grown.wl_len {Q : Tq} (h : Grown Q Q.n) (hok : Q.Ok) {v : Nat} (hv : v < Q.n) {l : List St} (hl : l.Perm (Q.row v)) : (wl l).length = Q.n := by
 have hp : (wl l).Perm (List.range Q.n) := by
  rw [List.perm_ext_iff_of_nodup (wl_nodup (hl.nodup_iff.2 (hok.nd v hv))) List.nodup_range]
  intro x
  rw [mem_wl, hl.mem_iff, h.one v hv, List.mem_range]
 rw [hp.length_eq, List.length_range]
theorem turned_perm (l : List St) (v : Nat) : (turnedL l v).Perm l := by
 unfold turnedL
 exact List.perm_append_comm.trans (List.Perm.of_eq (List.take_append_drop _ l))
end Go.To
namespace Go.Proofs.Ytnlafhnbakipmaa
open Go Go.Hp Go.Sp Go.To
set_option linter.all false
set_option maxRecDepth 100000
set_option maxHeartbeats 1600000
theorem walkQ_ok {Q : Tq} {v : Nat} (hv : v < Q.n) : Q.walkQ (v : Int) = ((wl (Q.row v)).map Int.ofNat, 0) := by
 unfold Tq.walkQ
 rw [inB_of hv, if_pos rfl, Int.toNat_natCast, walkL_eq]
theorem rerootQ_ok {Q : Tq} {v : Nat} (hv : v < Q.n) : Q.rerootQ (v : Int) = (0, Q.lay (turnedL (Q.row v) v)) := by
 unfold Tq.rerootQ
 rw [inB_of hv, if_pos rfl, Int.toNat_natCast]
theorem sameQ_ok {Q : Tq} {u v : Nat} (hu : u < Q.n) (hv : v < Q.n) : Q.sameQ (u : Int) (v : Int) = (decide ((v, v) ∈ Q.row u), 0) := by
 unfold Tq.sameQ
 rw [inB_of hu, inB_of hv, Bool.and_self, if_pos rfl, Int.toNat_natCast, Int.toNat_natCast]
theorem wl_len {Q : Tq} (hok : Q.Ok) {v : Nat} (hv : v < Q.n) : (wl (Q.row v)).length ≤ 64 := by
 have h := (wl_nodup (hok.nd v hv)).length_le_of_subset (l₂ := List.range Q.n) (fun x hx => by
  rw [mem_wl] at hx
  rw [List.mem_range]
  exact (hok.same v hv x hx).1)
 have := hok.n64
 rw [List.length_range] at h
 omega
theorem map_inj {xs ys : List Nat} : xs.map Int.ofNat = ys.map Int.ofNat ↔ xs = ys := by
 constructor
 ·intro h
  have := congrArg (List.map Int.toNat) h
  simpa [List.map_map, Function.comp_def] using this
 ·intro h; rw [h]
def KR (H : Heap) (T : Nat → Prop) (B : Option Nat) (v : Value) (xs : List Int) : Prop := IR H B v xs ∧ ∀ b, B = some b → b < H.size ∧ ¬ T b
section
variable {H0 H H' : Heap} {e : Env} {Z : HX → Env → Heap → Prop} {t : Nat} {T T' : Nat → Prop} {Q : Tq} {B : Option Nat} {v : Value} {xs : List Int}
theorem KR.op (h : KR H T B v xs) (hf : Fr T H H') (hT : ∀ b, T' b → T b ∨ H.size ≤ b) : KR H' T' B v xs :=
 ⟨h.1.frame hf fun g hg => (h.2 g hg).2, fun b hb => ⟨Nat.lt_of_lt_of_le (h.2 b hb).1 hf.size, fun hx => by
  rcases hT b hx with h' | h'
  ·exact (h.2 b hb).2 h'
  ·have := (h.2 b hb).1; omega⟩⟩
theorem KR.grow (h : KR H T B v xs) (hf : Fr (fun _ => False) H H') : KR H' T B v xs := ⟨h.1.frame hf fun _ _ h => h, fun b hb => ⟨Nat.lt_of_lt_of_le (h.2 b hb).1 hf.size, (h.2 b hb).2⟩⟩
theorem KR.new (hi : IR H' B v xs) (hB : ∀ b, B = some b → H.size ≤ b ∧ ¬ T b) : KR H' T B v xs := ⟨hi, fun b hb => ⟨hi.lt hb, (hB b hb).2⟩⟩
theorem KR.sl (h : KR H T B v xs) {n : Nat} (hn : xs.length = n) : ∃ a c, v = .slice a n c := by
 obtain ⟨a, c, hv⟩ := h.1.slice
 exact ⟨a, c, by rw [hv, hn]⟩
theorem tdiv3 (z : Int) (h1 : -9223372036854775808 ≤ z) (h2 : z ≤ 9223372036854775807) : -9223372036854775808 ≤ z.tdiv 3 ∧ z.tdiv 3 ≤ 9223372036854775807 := by
 rcases Int.lt_or_le z 0 with h | h
 ·have : z.tdiv 3 = -((-z) / 3) := by rw [← Int.tdiv_eq_ediv_of_nonneg (by omega), Int.neg_tdiv, Int.neg_neg]
  omega
 ·rw [Int.tdiv_eq_ediv_of_nonneg h]; omega
end
end Go.Proofs.Ytnlafhnbakipmaa
