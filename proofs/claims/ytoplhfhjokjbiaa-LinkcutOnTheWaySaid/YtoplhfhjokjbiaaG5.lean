/-
  LinkcutOnTheWay: the trees that it builds, beside their list of edges; what holds at each vertex of a way.
  LinkcutOnTheWay: along the way, vertex by vertex.
  LinkcutOnTheWay returns true, whatever it is given, and writes nothing that was there.
-/
import Derived.Test.YtoplhfhjokjbiaaG4
namespace Go.Li
open Go Go.Hp
section
variable {S : Ls}
theorem IsMost.join {E : Es} {P Q : List Nat} {a b : Ed} (hu : Uniq E) (ha : IsMost E P a) (hb : IsMost E Q b) : IsMost E (P ++ Q) (if heavy b a = true then b else a) := by
 obtain ⟨x, h1, h2, h3⟩ := ha
 obtain ⟨y, h4, h5, h6⟩ := hb
 by_cases h : heavy b a = true
 ·rw [if_pos h]
  refine ⟨y, List.mem_append_right _ h4, h5, fun z hz e he => ?_⟩
  rcases List.mem_append.1 hz with hz | hz
  ·rcases h3 z hz e he with rfl | h7
   ·rw [h2] at he
    obtain rfl := Option.some.inj he
    exact .inr h
   ·exact .inr (heavy_trans h h7)
  ·exact h6 z hz e he
 ·rw [if_neg h]
  refine ⟨x, List.mem_append_left _ h1, h2, fun z hz e he => ?_⟩
  rcases List.mem_append.1 hz with hz | hz
  ·exact h3 z hz e he
  ·have key : y = x ∨ heavy a b = true := by
    by_cases hab : a.id = b.id
    ·exact .inl (hu y x b a h5 h2 hab.symm)
    ·exact .inr (heavy_total (fun e => hab e.symm) h)
   rcases h6 z hz e he with rfl | h7
   ·rw [h5] at he
    obtain rfl := Option.some.inj he
    exact key
   ·rcases key with rfl | h8
    ·rw [h2] at h5
     obtain rfl := Option.some.inj h5
     exact .inr h7
    ·exact .inr (heavy_trans h8 h7)
theorem Ls.Ok.next (k : S.Ok) {u v w : Nat} {P1 P2 : List Nat} (hv : v < S.n) (h : SP S.par (u + 1) (v + 1) (P1 ++ (w + 1) :: P2)) (hw : w < S.n) (h2 : P2 ≠ []) :
  ∃ g e w' P3, P2 = g :: (w' + 1) :: P3 ∧ S.E g = some e ∧ w' < S.n ∧ ((e.u = (w : Nat) ∧ e.v = (w' : Nat)) ∨ (e.u = (w' : Nat) ∧ e.v = (w : Nat))) := by
 obtain ⟨k1, k2, k3, k4⟩ := h
 have hwk := k4.right
 cases P2 with
 | nil => exact absurd rfl h2
 | cons g P3 =>
  have hE := k.vx (w + 1) g (by omega) (by omega) hwk.1
  obtain ⟨e, he⟩ := Option.isSome_iff_exists.1 hE
  obtain ⟨q1, q2, q3, q4, q5⟩ := k.en g e he
  have hw1 := (k.ad g e (w + 1) he).1 hwk.1.symm
  cases P3 with
  | nil =>
   simp at k2
   omega
  | cons y P4 =>
   have hy := (k.ad g e y he).1 hwk.2.1
   have hne : y ≠ w + 1 := fun e => by
    subst e
    rw [List.nodup_append] at k3
    have := k3.2.1
    simp at this
   refine ⟨g, e, y - 1, P4, ?_, he, by omega, by omega⟩
   rw [show y - 1 + 1 = y by omega]
theorem SP.left {par : Par} {a b x : Nat} {P1 P2 : List Nat} (h : SP par a b (P1 ++ x :: P2)) : SP par a x (P1 ++ [x]) := by
 obtain ⟨k1, k2, k3, k4⟩ := h
 have e : P1 ++ x :: P2 = (P1 ++ [x]) ++ P2 := by simp
 rw [e] at k1 k3 k4
 refine ⟨?_, by simp, (List.nodup_append.1 k3).1, k4.left⟩
 cases P1 with
 | nil => simpa using k1
 | cons z r => simpa using k1
theorem SP.right {par : Par} {a b x : Nat} {P1 P2 : List Nat} (h : SP par a b (P1 ++ x :: P2)) : SP par x b (x :: P2) := by
 obtain ⟨k1, k2, k3, k4⟩ := h
 refine ⟨rfl, ?_, (List.nodup_append.1 k3).2.1, k4.right⟩
 rw [List.getLast?_append] at k2
 cases h : (x :: P2).getLast? with
 | none => simp at h
 | some z => rw [h] at k2; simpa using k2
end
end Go.Li
namespace Go.Proofs.Ytoplhfhjokjbiaa
open Go Go.Hp Go.Li
set_option linter.all false
set_option maxRecDepth 100000
set_option maxHeartbeats 1600000
section
variable {H0 H : Heap} {e : Env} {Z : HX → Env → Heap → Prop} {t : Nat} {T : Nat → Prop} {S : Ls}
theorem owA {a : Option Addr} {len cap n : Nat} {zs : Nat → Int} (hin : InInts H0 a len zs) (hn : n = 2 + min len 62) (hS : LS H0 H t T (Ls.new n))
  (e0 : e 0 = .slice a len cap) (e8 : e 8 = .int .i64 (n : Nat)) (e9 : e 9 = .pointer (some ⟨t, 0, none⟩)) (e11 : e 11 = .slice none 0 0) (e12 : e 12 = .int .i64 1)
  (hQ : ∀ e' H' T' S' B v es, e' 1 = e 1 → e' 2 = e 2 → e' 8 = .int .i64 (n : Nat) → e' 9 = .pointer (some ⟨t, 0, none⟩) → e' 11 = v → LS H0 H' t T' S' → Grow S' n → S'.n = n → Has S' es → SR Ed.cells 4 H' B v es → es.length < n → (∀ b, B = some b → ¬ T' b ∧ H0.size ≤ b) → Z .normal e' H') :
  codeX Try.prog [46] (loopAt Try.f3.body 0) (blockQ 0 Z) e H := by
 refine x_loop (fun m e' H' => ∃ (i : Nat) (T' : Nat → Prop) (S' : Ls) (B : Option Nat) (v : Value) (es : List Ed), e' 12 = .int .i64 (i : Nat) ∧ e' 11 = v ∧ 1 ≤ i ∧ i ≤ n ∧ LS H0 H' t T' S' ∧ Grow S' i ∧ S'.n = n ∧ Has S' es ∧ SR Ed.cells 4 H' B v es ∧ es.length + 1 = i ∧ (∀ b, B = some b → ¬ T' b ∧ H0.size ≤ b) ∧ (∀ x ∈ es, x.id < i) ∧ m = n - i) (n - 1)
  ⟨1, T, Ls.new n, none, _, [], e12, e11, Nat.le_refl _, by omega, hS, Grow.new n, rfl, Has.new n, SR.nil _ _ _, rfl, nofun, nofun, rfl⟩ ?_
 rintro m e1 H1 ⟨i, T1, S1, B, vl, es, i12, i11, hi1, hi, hS1, hG, hn1, hes, hl1, hel, hB1, hid, rfl⟩ hoff
 have i0 := (hoff 0 rfl).trans e0
 have i8 := (hoff 8 rfl).trans e8
 have i9 := (hoff 9 rfl).trans e9
 have keep : e1 1 = e 1 ∧ e1 2 = e 2 := ⟨hoff 1 rfl, hoff 2 rfl⟩
 clear hoff e0 e8 e9 e11 e12
 obtain ⟨sa, sc, rfl⟩ := hl1.slice
 by_cases hlt : i < n
 ·have ew : IntKind.i64.wrap ((i : Int) - 1) = ((i - 1 : Nat) : Int) := by rw [wrap_i64] <;> omega
  have ew2 : IntKind.i64.wrap ((i : Int) + 1) = ((i + 1 : Nat) : Int) := by rw [wrap_i64] <;> omega
  repeat' (first|(with_reducible first|refine jA ?_|(refine hK _ _ ?_;clear hK K)|refine jJ fun K hK=>?_|refine jK ?_|refine jL ?_|refine jM ?_|refine jN ?_|refine jO ?_|refine jP ?_|refine jQ ?_|(refine jB ?_;clear hK K)|(refine jC ?_;clear hK K)|refine jD ?_|refine jE ?_|refine jG ?_|refine jH ?_|refine jI ?_)|((with_reducible refine jR ?hq ?_);case hq=>rfl)|((first|(with_reducible first|refine jS fun K hK=>?_|refine jT ?_|refine jU ?_)|((with_reducible refine jV ?hy fun K hK=>?_);case hy=>rfl));simp only [go_sem, Nat.reduceEqDiff, Nat.reduceAdd, Nat.reduceMul, Nat.reduceLeDiff, Nat.reduceLT, Int.reduceLT, Int.reduceLE, Int.reduceEq, Int.reduceNeg, Int.reduceToNat, Nat.reducePow, reduceIte, reduceCtorEq, i0, i8, i9, i12, hlt, ew])|((with_reducible first|refine jW ?hy ?_|refine jY ?hy ?_);case hy=>rfl)|((with_reducible first|refine jX ?hy ?_|refine jZ ?hy ?_);case hy=>rfl)|((with_reducible refine jF ?hy ?_);case hy=>decide))
  obtain ⟨rt, hrt⟩ := hG.one
  have hself := hG.self (by omega)
  have z0 : ((0 : Int) != 0) = false := rfl
  have tail : ∀ (e' : Env) (z : Int), e' 8 = .int .i64 (n : Nat) → e' 9 = .pointer (some ⟨t, 0, none⟩) → e' 11 = .slice sa es.length sc → e' 12 = .int .i64 (i : Nat) → e' 13 = .int .i64 z → -9223372036854775808 ≤ z ∧ z ≤ 9223372036854775807 → K e' H1 := by
   intro e' z j8 j9 j11 j12 j13 hz
   refine hK _ _ ?_
   clear hK K
   have d8 := tdivB z 8 (by omega) hz.1 hz.2
   have ewd8 : IntKind.i64.wrap (z.tdiv 8) = z.tdiv 8 := by rw [wrap_i64] <;> omega
   have z8 : ((8 : Int) = 0) = False := by simp
   repeat' (first|(with_reducible first|refine jA ?_|(refine hK _ _ ?_;clear hK K)|refine jJ fun K hK=>?_|refine jK ?_|refine jL ?_|refine jM ?_|refine jN ?_|refine jO ?_|refine jP ?_|refine jQ ?_|(refine jB ?_;clear hK K)|(refine jC ?_;clear hK K)|refine jD ?_|refine jE ?_|refine jG ?_|refine jH ?_|refine jI ?_)|((with_reducible refine jR ?hq ?_);case hq=>rfl)|((first|(with_reducible first|refine jS fun K hK=>?_|refine jT ?_|refine jU ?_)|((with_reducible refine jV ?hy fun K hK=>?_);case hy=>rfl));simp only [go_sem, Nat.reduceEqDiff, Nat.reduceAdd, Nat.reduceMul, Nat.reduceLeDiff, Nat.reduceLT, Int.reduceLT, Int.reduceLE, Int.reduceEq, Int.reduceNeg, Int.reduceToNat, Nat.reducePow, reduceIte, reduceCtorEq, j12, j13, ewd8, z8])|((with_reducible first|refine jW ?hy ?_|refine jY ?hy ?_);case hy=>rfl)|((with_reducible first|refine jX ?hy ?_|refine jZ ?hy ?_);case hy=>rfl)|((with_reducible refine jF ?hy ?_);case hy=>decide))
   refine pick_nat d8 (by omega) fun k hk1 hk => ?_
   have hne := hG.apart (by omega) hk (hrt k hk)
   repeat' (first|(with_reducible first|refine jA ?_|(refine hK _ _ ?_;clear hK K)|refine jJ fun K hK=>?_|refine jK ?_|refine jL ?_|refine jM ?_|refine jN ?_|refine jO ?_|refine jP ?_|refine jQ ?_|(refine jB ?_;clear hK K)|(refine jC ?_;clear hK K)|refine jD ?_|refine jE ?_|refine jG ?_|refine jH ?_|refine jI ?_)|((with_reducible refine jR ?hq ?_);case hq=>rfl)|((first|(with_reducible first|refine jS fun K hK=>?_|refine jT ?_|refine jU ?_)|((with_reducible refine jV ?hy fun K hK=>?_);case hy=>rfl));simp only [go_sem, Nat.reduceEqDiff, Nat.reduceAdd, Nat.reduceMul, Nat.reduceLeDiff, Nat.reduceLT, Int.reduceLT, Int.reduceLE, Int.reduceEq, Int.reduceNeg, Int.reduceToNat, Nat.reducePow, reduceIte, reduceCtorEq, j12, j13])|((with_reducible first|refine jW ?hy ?_|refine jY ?hy ?_);case hy=>rfl)|((with_reducible first|refine jX ?hy ?_|refine jZ ?hy ?_);case hy=>rfl)|((with_reducible refine jF ?hy ?_);case hy=>decide))
   refine pick_nat (n := 8) hz (by omega) fun w hw1 hw2 => ?_
   obtain ⟨ed, hed⟩ : ∃ ed : Ed, ed = ⟨(i : Int), (i : Int), (k : Int), (w : Int)⟩ := ⟨_, rfl⟩
   repeat' (first|(with_reducible first|refine jA ?_|(refine hK _ _ ?_;clear hK K)|refine jJ fun K hK=>?_|refine jK ?_|refine jL ?_|refine jM ?_|refine jN ?_|refine jO ?_|refine jP ?_|refine jQ ?_|(refine jB ?_;clear hK K)|(refine jC ?_;clear hK K)|refine jD ?_|refine jE ?_|refine jG ?_|refine jH ?_|refine jI ?_)|((with_reducible refine jR ?hq ?_);case hq=>rfl)|((first|(with_reducible first|refine jS fun K hK=>?_|refine jT ?_|refine jU ?_)|((with_reducible refine jV ?hy fun K hK=>?_);case hy=>rfl));simp only [go_sem, Nat.reduceEqDiff, Nat.reduceAdd, Nat.reduceMul, Nat.reduceLeDiff, Nat.reduceLT, Int.reduceLT, Int.reduceLE, Int.reduceEq, Int.reduceNeg, Int.reduceToNat, Nat.reducePow, reduceIte, reduceCtorEq, j9, hcell_push, hcell_top, okW_push, okW_top, hcell_hset_ne, hcell_hset_off, hcell_hset_eq, okW_hset, hset_size, Array.size_push, Nat.lt_add_one, ne_add_one, add_one_ne, Nat.add_assoc, add_same, add_lt_same, Nat.reduceEqDiff, lt_add_k, add_k_ne, ne_add_k])|((with_reducible first|refine jW ?hy ?_|refine jY ?hy ?_);case hy=>rfl)|((with_reducible first|refine jX ?hy ?_|refine jZ ?hy ?_);case hy=>rfl)|((with_reducible refine jF ?hy ?_);case hy=>decide))
   obtain ⟨b2, f12⟩ := most_box (H := H1) (⟨(i : Int), (i : Int), (k : Int), (w : Int)⟩ : Ed) (T0 := 31)
   generalize hset _ _ _ = H2 at b2 f12 ⊢
   have hS2 := hS1.grow f12
   have hl2 := hl1.frame f12 fun _ _ h => h
   have nb2 : ¬ T1 H1.size := fun hx => by have := hS1.m.below _ hx; omega
   have bl2 := b2.lt
   refine m_link (u := i) (v := k) (id := (i : Int)) (w := (w : Int)) hS2.m (by omega) (by omega) (okArg_of (by omega) (by omega) (by omega) (by omega)) (hes.id fun x hx => by have := hid x hx; omega) hself (hrt k hk) (Ne.symm hne) fun H3 T3 S3 hM3 hK3 hf3 hT3 => ?_
   have hS3 := hS2.op hM3 hf3 hT3
   have hl3 := hl2.frame hf3 fun b hb => (hB1 b hb).1
   have b3 := b2.frame hf3 nb2
   have c0 := b3.cellOf (i := 0) rfl
   have c1 := b3.cellOf (i := 1) rfl
   have c2 := b3.cellOf (i := 2) rfl
   have c3 := b3.cellOf (i := 3) rfl
   have s12 := f12.size
   have nB3 : ∀ b, B = some b → ¬ T3 b ∧ H0.size ≤ b := fun b hb => ⟨fun hx => by
    rcases hT3 b hx with h | h
    ·exact (hB1 b hb).1 h
    ·have := hl1.lt hb; omega, (hB1 b hb).2⟩
   have hbs : 2 * (es.length + 1) * 32 ≤ 2 ^ 48 := by omega
   repeat' (first|(with_reducible first|refine jA ?_|(refine hK _ _ ?_;clear hK K)|refine jJ fun K hK=>?_|refine jK ?_|refine jL ?_|refine jM ?_|refine jN ?_|refine jO ?_|refine jP ?_|refine jQ ?_|(refine jB ?_;clear hK K)|(refine jC ?_;clear hK K)|refine jD ?_|refine jE ?_|refine jG ?_|refine jH ?_|refine jI ?_)|((with_reducible refine jR ?hq ?_);case hq=>rfl)|((first|(with_reducible first|refine jS fun K hK=>?_|refine jT ?_|refine jU ?_)|((with_reducible refine jV ?hy fun K hK=>?_);case hy=>rfl));simp only [go_sem, Nat.reduceEqDiff, Nat.reduceAdd, Nat.reduceMul, Nat.reduceLeDiff, Nat.reduceLT, Int.reduceLT, Int.reduceLE, Int.reduceEq, Int.reduceNeg, Int.reduceToNat, Nat.reducePow, reduceIte, reduceCtorEq, z0, j11, c0, c1, c2, c3])|((with_reducible first|refine jW ?hy ?_|refine jY ?hy ?_);case hy=>rfl)|((with_reducible first|refine jX ?hy ?_|refine jZ ?hy ?_);case hy=>rfl)|((with_reducible refine jF ?hy ?_);case hy=>decide))
   refine append_sr (x := (⟨(i : Int), (i : Int), (k : Int), (w : Int)⟩ : Ed)) edC_len edC_plain elems28 tl31 hl3 rfl (by decide) hbs rfl ?_
   intro v' H4 B' hl4 hf4 hB4
   have f34 : Fr (fun b => B = some b) H3 H4 := hf4
   have hS4 : LS H0 H4 t T3 S3 := ⟨hS3.m.frame hf4 fun b hb hx => (nB3 b hx).1 hb, hS3.fr.trans' hf4 fun b hb hx => by have := (nB3 b hx).2; omega, hS3.new⟩
   have hfz := hS3.fr.size
   repeat' (first|(with_reducible first|refine jA ?_|(refine hK _ _ ?_;clear hK K)|refine jJ fun K hK=>?_|refine jK ?_|refine jL ?_|refine jM ?_|refine jN ?_|refine jO ?_|refine jP ?_|refine jQ ?_|(refine jB ?_;clear hK K)|(refine jC ?_;clear hK K)|refine jD ?_|refine jE ?_|refine jG ?_|refine jH ?_|refine jI ?_)|((with_reducible refine jR ?hq ?_);case hq=>rfl)|((first|(with_reducible first|refine jS fun K hK=>?_|refine jT ?_|refine jU ?_)|((with_reducible refine jV ?hy fun K hK=>?_);case hy=>rfl));simp only [go_sem, Nat.reduceEqDiff, Nat.reduceAdd, Nat.reduceMul, Nat.reduceLeDiff, Nat.reduceLT, Int.reduceLT, Int.reduceLE, Int.reduceEq, Int.reduceNeg, Int.reduceToNat, Nat.reducePow, reduceIte, reduceCtorEq, j12, ew2])|((with_reducible first|refine jW ?hy ?_|refine jY ?hy ?_);case hy=>rfl)|((with_reducible first|refine jX ?hy ?_|refine jZ ?hy ?_);case hy=>rfl)|((with_reducible refine jF ?hy ?_);case hy=>decide))
   refine loop_normal (m' := n - (i + 1)) (by omega) ⟨i + 1, T3, S3, B', v', es ++ [⟨(i : Int), (i : Int), (k : Int), (w : Int)⟩], rfl, rfl, by omega, hlt, hS4, hG.up (by omega) hK3 (.inl ⟨rfl, hk⟩), hK3.n.trans hn1, hK3.has hes, hl4, by simp; omega, fun b hb => ?_, fun x hx => ?_, rfl⟩
   ·rcases hB4 with h | ⟨y, h1, h2⟩
    ·exact nB3 b (by rw [← h]; exact hb)
    ·rw [h1] at hb
     obtain rfl := Option.some.inj hb
     exact ⟨fun hx => by have := hS3.m.below _ hx; omega, by omega⟩
   ·rcases List.mem_append.1 hx with hx | hx
    ·have := hid x hx; omega
    ·obtain rfl := List.mem_singleton.1 hx
     simp only []; omega
  by_cases hl1 : i - 1 < len
  ·obtain ⟨p, rfl, cz, hz1, hz2⟩ := (hin.frame hS1.fr) (i - 1) (by omega)
   simp only [hl1, decide_true]
   repeat' (first|(with_reducible first|refine jA ?_|(refine hK _ _ ?_;clear hK K)|refine jJ fun K hK=>?_|refine jK ?_|refine jL ?_|refine jM ?_|refine jN ?_|refine jO ?_|refine jP ?_|refine jQ ?_|(refine jB ?_;clear hK K)|(refine jC ?_;clear hK K)|refine jD ?_|refine jE ?_|refine jG ?_|refine jH ?_|refine jI ?_)|((with_reducible refine jR ?hq ?_);case hq=>rfl)|((first|(with_reducible first|refine jS fun K hK=>?_|refine jT ?_|refine jU ?_)|((with_reducible refine jV ?hy fun K hK=>?_);case hy=>rfl));simp only [go_sem, Nat.reduceEqDiff, Nat.reduceAdd, Nat.reduceMul, Nat.reduceLeDiff, Nat.reduceLT, Int.reduceLT, Int.reduceLE, Int.reduceEq, Int.reduceNeg, Int.reduceToNat, Nat.reducePow, reduceIte, reduceCtorEq, i0, i12, ew, hl1, cz])|((with_reducible first|refine jW ?hy ?_|refine jY ?hy ?_);case hy=>rfl)|((with_reducible first|refine jX ?hy ?_|refine jZ ?hy ?_);case hy=>rfl)|((with_reducible refine jF ?hy ?_);case hy=>decide))
   refine tail _ _ ?_ ?_ ?_ ?_ rfl ⟨hz1, hz2⟩
   ·exact i8
   ·exact i9
   ·exact i11
   ·exact i12
  ·simp only [hl1, decide_false]
   repeat' (first|(with_reducible first|refine jA ?_|(refine hK _ _ ?_;clear hK K)|refine jJ fun K hK=>?_|refine jK ?_|refine jL ?_|refine jM ?_|refine jN ?_|refine jO ?_|refine jP ?_|refine jQ ?_|(refine jB ?_;clear hK K)|(refine jC ?_;clear hK K)|refine jD ?_|refine jE ?_|refine jG ?_|refine jH ?_|refine jI ?_)|((with_reducible refine jR ?hq ?_);case hq=>rfl)|((first|(with_reducible first|refine jS fun K hK=>?_|refine jT ?_|refine jU ?_)|((with_reducible refine jV ?hy fun K hK=>?_);case hy=>rfl));simp only [go_sem, Nat.reduceEqDiff, Nat.reduceAdd, Nat.reduceMul, Nat.reduceLeDiff, Nat.reduceLT, Int.reduceLT, Int.reduceLE, Int.reduceEq, Int.reduceNeg, Int.reduceToNat, Nat.reducePow, reduceIte, reduceCtorEq])|((with_reducible first|refine jW ?hy ?_|refine jY ?hy ?_);case hy=>rfl)|((with_reducible first|refine jX ?hy ?_|refine jZ ?hy ?_);case hy=>rfl)|((with_reducible refine jF ?hy ?_);case hy=>decide))
   refine tail _ 0 ?_ ?_ ?_ ?_ rfl ⟨by decide, by decide⟩
   ·exact i8
   ·exact i9
   ·exact i11
   ·exact i12
 ·obtain rfl : i = n := by omega
  have t1 : (i < i) = False := by simp
  repeat' (first|(with_reducible first|refine jA ?_|(refine hK _ _ ?_;clear hK K)|refine jJ fun K hK=>?_|refine jK ?_|refine jL ?_|refine jM ?_|refine jN ?_|refine jO ?_|refine jP ?_|refine jQ ?_|(refine jB ?_;clear hK K)|(refine jC ?_;clear hK K)|refine jD ?_|refine jE ?_|refine jG ?_|refine jH ?_|refine jI ?_)|((with_reducible refine jR ?hq ?_);case hq=>rfl)|((first|(with_reducible first|refine jS fun K hK=>?_|refine jT ?_|refine jU ?_)|((with_reducible refine jV ?hy fun K hK=>?_);case hy=>rfl));simp only [go_sem, Nat.reduceEqDiff, Nat.reduceAdd, Nat.reduceMul, Nat.reduceLeDiff, Nat.reduceLT, Int.reduceLT, Int.reduceLE, Int.reduceEq, Int.reduceNeg, Int.reduceToNat, Nat.reducePow, reduceIte, reduceCtorEq, i8, i12, t1])|((with_reducible first|refine jW ?hy ?_|refine jY ?hy ?_);case hy=>rfl)|((with_reducible first|refine jX ?hy ?_|refine jZ ?hy ?_);case hy=>rfl)|((with_reducible refine jF ?hy ?_);case hy=>decide))
  exact hQ _ _ _ _ _ _ _ keep.1 keep.2 i8 i9 i11 hS1 hG hn1 hes hl1 (by omega) hB1
end
end Go.Proofs.Ytoplhfhjokjbiaa
namespace Go.Proofs.Ytoplhfhjokjbiaa
open Go Go.Hp Go.Li
set_option linter.all false
set_option maxRecDepth 100000
set_option maxHeartbeats 1600000
theorem IR.sub {H : Heap} {g n c a m : Nat} {xs : List Int} (h : IR H (some g) (.slice (some ⟨g, 0, none⟩) n c) xs) (hm : a + m ≤ xs.length) : Rds H (some g) (.slice (some ⟨g, a, none⟩) m (c - a)) ((xs.drop a).take m) := by
 refine ⟨_, c - a, by rw [List.length_take, List.length_drop, Nat.min_eq_left (by omega)], fun i x hi => ?_⟩
 have hi' : i < m := by
  have := (List.getElem?_eq_some_iff.1 hi).1
  rw [List.length_take] at this
  omega
 rw [List.getElem?_take_of_lt hi', List.getElem?_drop] at hi
 exact ⟨g, a, rfl, rfl, h.cell hi⟩
section
variable {H0 H : Heap} {e : Env} {Z : HX → Env → Heap → Prop} {t : Nat} {T : Nat → Prop} {S : Ls}
structure Ow (H0 H : Heap) (t : Nat) (T : Nat → Prop) (S : Ls) (B : Option Nat) (vp : Value) (xs : List Int) (bm : Nat) (em : Ed) (Be : Option Nat) (ve : Value) (es : List Ed) : Prop where
 s : LS H0 H t T S
 p : IR H B vp xs
 m : Blk H bm em.cells
 e : SR Ed.cells 4 H Be ve es
 np : ∀ b, B = some b → ¬ T b
 nm : ¬ T bm
 ne : ∀ b, Be = some b → ¬ T b
theorem Ow.keep {H' : Heap} {B : Option Nat} {vp : Value} {xs : List Int} {bm : Nat} {em : Ed} {Be : Option Nat} {ve : Value} {es : List Ed} (h : Ow H0 H t T S B vp xs bm em Be ve es) (hm : LtM H' t T S) (hf : Fr T H H') : Ow H0 H' t T S B vp xs bm em Be ve es :=
 ⟨h.s.keep hm hf, h.p.frame hf h.np, h.m.frame hf h.nm, h.e.frame hf h.ne, h.np, h.nm, h.ne⟩
theorem Ow.grow {H' : Heap} {B : Option Nat} {vp : Value} {xs : List Int} {bm : Nat} {em : Ed} {Be : Option Nat} {ve : Value} {es : List Ed} (h : Ow H0 H t T S B vp xs bm em Be ve es) (hf : Fr (fun _ => False) H H') : Ow H0 H' t T S B vp xs bm em Be ve es :=
 ⟨h.s.grow hf, h.p.frame hf fun _ _ h => h, h.m.frame hf fun h => h, h.e.frame hf fun _ _ h => h, h.np, h.nm, h.ne⟩
theorem Ow.frameB {H' : Heap} {B : Option Nat} {vp : Value} {xs : List Int} {bm b0 : Nat} {em : Ed} {Be : Option Nat} {ve : Value} {es : List Ed} (h : Ow H0 H t T S B vp xs bm em Be ve es) (hf : Fr (· = b0) H H') (h0 : H0.size ≤ b0) (hT : ¬ T b0) (hB : B ≠ some b0) (hm : bm ≠ b0) (hE : Be ≠ some b0) : Ow H0 H' t T S B vp xs bm em Be ve es :=
 ⟨⟨h.s.m.frame hf fun b hb (e : b = b0) => hT (e ▸ hb), h.s.fr.trans' hf fun b hb (e : b = b0) => by omega, h.s.new⟩, h.p.frame hf fun b hb (e : b = b0) => hB (by rw [hb, e]), h.m.frame hf hm, h.e.frame hf fun b hb (e : b = b0) => hE (by rw [hb, e]), h.np, h.nm, h.ne⟩
theorem owB {n u v w0 r : Nat} {P : List Nat} {B Be : Option Nat} {vp ve : Value} {bm : Nat} {em : Ed} {es : List Ed} (hO : Ow H0 H t T S B vp (outI S.E P) bm em Be ve es) (hn : S.n = n) (hr : ∀ a, a < n → RootOf S.par (a + 1) r) (hP : SP S.par (u + 1) (v + 1) P) (hu : u < n) (hv : v < n) (hmo : IsMost S.E P em) (hes : Has S es) (hel : es.length < n)
  (e1 : e 1 = .int .i64 (u : Nat)) (e2 : e 2 = .int .i64 (v : Nat)) (e8 : e 8 = .int .i64 (n : Nat)) (e9 : e 9 = .pointer (some ⟨t, 0, none⟩)) (e11 : e 11 = ve) (e15 : e 15 = vp) (e17 : e 17 = .pointer (some ⟨bm, 0, none⟩)) (e19 : e 19 = .int .i64 (u : Nat)) (e20 : e 20 = .int .i64 0)
  (hQ : ∀ e' H', e' 2 = e 2 → e' 19 = .int .i64 (v : Nat) → LS H0 H' t T S → Z .normal e' H') :
  codeX Try.prog [46] (loopAt Try.f3.body 1) (blockQ 2 Z) e H := by
 have ok := hO.s.m.ok
 have hn64 := ok.n64
 obtain ⟨P0, hP0⟩ : ∃ P0, P = (u + 1) :: P0 := by
  cases P with
  | nil => cases hP.head
  | cons x q =>
   have e : x = u + 1 := by simpa using hP.head
   exact ⟨q, by rw [e]⟩
 have hPl := hO.s.m.sp_len (Ls.vtx (v := u) (by omega)) hP
 refine x_loop (fun m e' H' => ∃ (w : Nat) (P1 P2 : List Nat), P = P1 ++ (w + 1) :: P2 ∧ w < n ∧ e' 19 = .int .i64 (w : Nat) ∧ e' 20 = .int .i64 ((outI S.E P1).length : Nat) ∧ Ow H0 H' t T S B vp (outI S.E P) bm em Be ve es ∧ m = P2.length) P0.length
  ⟨u, [], P0, hP0, hu, e19, e20, hO, rfl⟩ ?_
 rintro m e1' H1 ⟨w, P1, P2, hPe, hw, i19, i20, hO1, rfl⟩ hoff
 have i1 := (hoff 1 rfl).trans e1
 have i2 := (hoff 2 rfl).trans e2
 have i8 := (hoff 8 rfl).trans e8
 have i9 := (hoff 9 rfl).trans e9
 have i11 := (hoff 11 rfl).trans e11
 have i15 := (hoff 15 rfl).trans e15
 have i17 := (hoff 17 rfl).trans e17
 have k2 : e1' 2 = e 2 := hoff 2 rfl
 clear hoff e1 e2 e8 e9 e11 e15 e17 e19 e20 hP0 hO
 have ew1 : S.E (w + 1) = none := ok.eno (by omega)
 have hxs : outI S.E P = outI S.E P1 ++ outI S.E P2 := by
  rw [hPe, outI_append]
  congr 1
  simp [outI, ew1]
 have hx1 : outI S.E (P1 ++ [w + 1]) = outI S.E P1 := by
  rw [outI_append]
  simp [outI, ew1]
 have hx2 : outI S.E ((w + 1) :: P2) = outI S.E P2 := by simp [outI, ew1]
 have hol : (outI S.E P).length ≤ 130 := Nat.le_trans (outI_len _ _) hPl
 obtain ⟨sp, cp, rfl⟩ := hO1.p.slice
 by_cases hnil : P2 = []
 ·subst hnil
  have hle : (outI S.E P1).length = (outI S.E P).length := by rw [hxs]; simp [outI]
  have hwv : w = v := by
   have := hP.last
   rw [hPe] at this
   simpa using this
  subst hwv
  rw [hle] at i20
  have t1 : ((outI S.E P).length < (outI S.E P).length) = False := by simp
  repeat' (first|(with_reducible first|refine jA ?_|(refine hK _ _ ?_;clear hK K)|refine jJ fun K hK=>?_|refine jK ?_|refine jL ?_|refine jM ?_|refine jN ?_|refine jO ?_|refine jP ?_|refine jQ ?_|(refine jB ?_;clear hK K)|(refine jC ?_;clear hK K)|refine jD ?_|refine jE ?_|refine jG ?_|refine jH ?_|refine jI ?_)|((with_reducible refine jR ?hq ?_);case hq=>rfl)|((first|(with_reducible first|refine jS fun K hK=>?_|refine jT ?_|refine jU ?_)|((with_reducible refine jV ?hy fun K hK=>?_);case hy=>rfl));simp only [go_sem, Nat.reduceEqDiff, Nat.reduceAdd, Nat.reduceMul, Nat.reduceLeDiff, Nat.reduceLT, Int.reduceLT, Int.reduceLE, Int.reduceEq, Int.reduceNeg, Int.reduceToNat, Nat.reducePow, reduceIte, reduceCtorEq, i15, i20, t1])|((with_reducible first|refine jW ?hy ?_|refine jY ?hy ?_);case hy=>rfl)|((with_reducible first|refine jX ?hy ?_|refine jZ ?hy ?_);case hy=>rfl)|((with_reducible refine jF ?hy ?_);case hy=>decide))
  exact hQ _ _ k2 i19 hO1.s
 ·rw [hPe] at hP
  obtain ⟨g, ed, w', P3, hP2, hge, hw', hends⟩ := ok.next (by omega) hP (by omega) hnil
  have hxg : outI S.E P2 = ed.id :: outI S.E P3 := by
   have : S.E (w' + 1) = none := ok.eno (by omega)
   rw [hP2]
   simp [outI, hge, this]
  obtain ⟨i, hi⟩ : ∃ i, i = (outI S.E P1).length := ⟨_, rfl⟩
  have hil : i < (outI S.E P).length := by rw [hxs, hxg, hi]; simp
  rw [← hi] at i20
  have tk : (outI S.E P).take i = outI S.E P1 := by rw [hxs, hi]; simp
  have td : (outI S.E P).drop i = outI S.E P2 := by rw [hxs, hi]; simp
  have hgi : (outI S.E P)[i]? = some ed.id := by rw [hxs, hi, hxg]; simp
  repeat' (first|(with_reducible first|refine jA ?_|(refine hK _ _ ?_;clear hK K)|refine jJ fun K hK=>?_|refine jK ?_|refine jL ?_|refine jM ?_|refine jN ?_|refine jO ?_|refine jP ?_|refine jQ ?_|(refine jB ?_;clear hK K)|(refine jC ?_;clear hK K)|refine jD ?_|refine jE ?_|refine jG ?_|refine jH ?_|refine jI ?_)|((with_reducible refine jR ?hq ?_);case hq=>rfl)|((first|(with_reducible first|refine jS fun K hK=>?_|refine jT ?_|refine jU ?_)|((with_reducible refine jV ?hy fun K hK=>?_);case hy=>rfl));simp only [go_sem, Nat.reduceEqDiff, Nat.reduceAdd, Nat.reduceMul, Nat.reduceLeDiff, Nat.reduceLT, Int.reduceLT, Int.reduceLE, Int.reduceEq, Int.reduceNeg, Int.reduceToNat, Nat.reducePow, reduceIte, reduceCtorEq, i1, i9, i15, i19, i20, hil])|((with_reducible first|refine jW ?hy ?_|refine jY ?hy ?_);case hy=>rfl)|((with_reducible first|refine jX ?hy ?_|refine jZ ?hy ?_);case hy=>rfl)|((with_reducible refine jF ?hy ?_);case hy=>decide))
  refine m_path hO1.s.m (by omega) (by omega) (hr u hu) (hr w hw) fun H2 Pa Ba wa hPa hia hBa hM2 hf2 => ?_
  have hO2 := hO1.keep hM2 hf2
  obtain rfl := ok.sp (Ls.vtx (v := u) (by omega)) hPa hP.left
  rw [hx1] at hia
  have nBa : ∀ b, Ba = some b → ¬ T b := fun b hb hx => by have := hO1.s.m.below b hx; have := hBa b hb; omega
  repeat' (first|(with_reducible first|refine jA ?_|(refine hK _ _ ?_;clear hK K)|refine jJ fun K hK=>?_|refine jK ?_|refine jL ?_|refine jM ?_|refine jN ?_|refine jO ?_|refine jP ?_|refine jQ ?_|(refine jB ?_;clear hK K)|(refine jC ?_;clear hK K)|refine jD ?_|refine jE ?_|refine jG ?_|refine jH ?_|refine jI ?_)|((with_reducible refine jR ?hq ?_);case hq=>rfl)|((first|(with_reducible first|refine jS fun K hK=>?_|refine jT ?_|refine jU ?_)|((with_reducible refine jV ?hy fun K hK=>?_);case hy=>rfl));simp only [go_sem, Nat.reduceEqDiff, Nat.reduceAdd, Nat.reduceMul, Nat.reduceLeDiff, Nat.reduceLT, Int.reduceLT, Int.reduceLE, Int.reduceEq, Int.reduceNeg, Int.reduceToNat, Nat.reducePow, reduceIte, reduceCtorEq, i2, i9, i19])|((with_reducible first|refine jW ?hy ?_|refine jY ?hy ?_);case hy=>rfl)|((with_reducible first|refine jX ?hy ?_|refine jZ ?hy ?_);case hy=>rfl)|((with_reducible refine jF ?hy ?_);case hy=>decide))
  refine m_path hO2.s.m (by omega) (by omega) (hr w hw) (hr v hv) fun H3 Pb Bb wb hPb hib hBb hM3 hf3 => ?_
  have hO3 := hO2.keep hM3 hf3
  obtain rfl := ok.sp (Ls.vtx (v := w) (by omega)) hPb hP.right
  rw [hx2] at hib
  have hia3 := hia.frame hf3 nBa
  have nBb : ∀ b, Bb = some b → ¬ T b := fun b hb hx => by have := hO2.s.m.below b hx; have := hBb b hb; omega
  obtain ⟨gp, cp', _, rfl, hv', _, _, hcp⟩ := hO3.p.row (by intro h; rw [h] at hil; simp at hil)
  simp only [Value.slice.injEq] at hv'
  obtain ⟨rfl, _, rfl⟩ := hv'
  have z0 : ((0 : Int) != 0) = false := rfl
  have d1 := IR.sub hO3.p (a := 0) (m := i) (by omega)
  have d2 := IR.sub hO3.p (a := i) (m := (outI S.E P).length - i) (by omega)
  rw [List.drop_zero, tk] at d1
  rw [td, List.take_of_length_le (by rw [← td]; simp)] at d2
  have y1 : (i ≤ cp) = True := by simp; omega
  have y2 : (i ≤ (outI S.E P).length) = True := by simp; omega
  have y3 : ((outI S.E P).length ≤ cp) = True := by simp; omega
  have y4 : (cp = i) = False := by simp; omega
  have y5 : (i = cp) = False := by simp; omega
  have y6 : (cp - i = 0) = False := by simp; omega
  repeat' (first|(with_reducible first|refine jA ?_|(refine hK _ _ ?_;clear hK K)|refine jJ fun K hK=>?_|refine jK ?_|refine jL ?_|refine jM ?_|refine jN ?_|refine jO ?_|refine jP ?_|refine jQ ?_|(refine jB ?_;clear hK K)|(refine jC ?_;clear hK K)|refine jD ?_|refine jE ?_|refine jG ?_|refine jH ?_|refine jI ?_)|((with_reducible refine jR ?hq ?_);case hq=>rfl)|((first|(with_reducible first|refine jS fun K hK=>?_|refine jT ?_|refine jU ?_)|((with_reducible refine jV ?hy fun K hK=>?_);case hy=>rfl));simp only [go_sem, Nat.reduceEqDiff, Nat.reduceAdd, Nat.reduceMul, Nat.reduceLeDiff, Nat.reduceLT, Int.reduceLT, Int.reduceLE, Int.reduceEq, Int.reduceNeg, Int.reduceToNat, Nat.reducePow, reduceIte, reduceCtorEq, i15, i20, ite_self, Nat.sub_zero, Nat.zero_add, y1, y2, y3, y4, y5, y6, Nat.le_refl])|((with_reducible first|refine jW ?hy ?_|refine jY ?hy ?_);case hy=>rfl)|((with_reducible first|refine jX ?hy ?_|refine jZ ?hy ?_);case hy=>rfl)|((with_reducible refine jF ?hy ?_);case hy=>decide))
  have hl1 : (outI S.E P1).length ≤ 130 := by omega
  have hl2 : (outI S.E P2).length ≤ 130 := by rw [← td]; simp; omega
  refine Pkisthmuslaw05.same_ok hia3.rds d1 (by omega) ?_
  rw [decide_eq_true rfl]
  repeat' (first|(with_reducible first|refine jA ?_|(refine hK _ _ ?_;clear hK K)|refine jJ fun K hK=>?_|refine jK ?_|refine jL ?_|refine jM ?_|refine jN ?_|refine jO ?_|refine jP ?_|refine jQ ?_|(refine jB ?_;clear hK K)|(refine jC ?_;clear hK K)|refine jD ?_|refine jE ?_|refine jG ?_|refine jH ?_|refine jI ?_)|((with_reducible refine jR ?hq ?_);case hq=>rfl)|((first|(with_reducible first|refine jS fun K hK=>?_|refine jT ?_|refine jU ?_)|((with_reducible refine jV ?hy fun K hK=>?_);case hy=>rfl));simp only [go_sem, Nat.reduceEqDiff, Nat.reduceAdd, Nat.reduceMul, Nat.reduceLeDiff, Nat.reduceLT, Int.reduceLT, Int.reduceLE, Int.reduceEq, Int.reduceNeg, Int.reduceToNat, Nat.reducePow, reduceIte, reduceCtorEq, i15, i20, ite_self, Nat.sub_zero, Nat.zero_add, y1, y2, y3, y4, y5, y6, Nat.le_refl])|((with_reducible first|refine jW ?hy ?_|refine jY ?hy ?_);case hy=>rfl)|((with_reducible first|refine jX ?hy ?_|refine jZ ?hy ?_);case hy=>rfl)|((with_reducible refine jF ?hy ?_);case hy=>decide))
  refine Pkisthmuslaw05.same_ok hib.rds d2 (by omega) ?_
  rw [decide_eq_true rfl]
  obtain ⟨k0, hk0, hk1⟩ := idL_of ((hes ed).1 ⟨g, hge⟩) fun y hy hyi => by
   obtain ⟨g', hg'⟩ := (hes y).2 hy
   have := ok.uq g' g y ed hg' hge hyi
   rw [this, hge] at hg'
   exact (Option.some.inj hg').symm
  have hkl := (List.getElem?_eq_some_iff.1 hk1).1
  have hOe := hO3.e
  obtain ⟨se, ce, rfl⟩ := hOe.slice
  repeat' (first|(with_reducible first|refine jA ?_|(refine hK _ _ ?_;clear hK K)|refine jJ fun K hK=>?_|refine jK ?_|refine jL ?_|refine jM ?_|refine jN ?_|refine jO ?_|refine jP ?_|refine jQ ?_|(refine jB ?_;clear hK K)|(refine jC ?_;clear hK K)|refine jD ?_|refine jE ?_|refine jG ?_|refine jH ?_|refine jI ?_)|((with_reducible refine jR ?hq ?_);case hq=>rfl)|((first|(with_reducible first|refine jS fun K hK=>?_|refine jT ?_|refine jU ?_)|((with_reducible refine jV ?hy fun K hK=>?_);case hy=>rfl));simp only [go_sem, Nat.reduceEqDiff, Nat.reduceAdd, Nat.reduceMul, Nat.reduceLeDiff, Nat.reduceLT, Int.reduceLT, Int.reduceLE, Int.reduceEq, Int.reduceNeg, Int.reduceToNat, Nat.reducePow, reduceIte, reduceCtorEq, z0, i20])|((with_reducible first|refine jW ?hy ?_|refine jY ?hy ?_);case hy=>rfl)|((with_reducible first|refine jX ?hy ?_|refine jZ ?hy ?_);case hy=>rfl)|((with_reducible refine jF ?hy ?_);case hy=>decide))
  have tail : ∀ (e' : Env) (H4 : Heap), e' 8 = .int .i64 (n : Nat) → e' 11 = .slice se es.length ce → e' 15 = .slice (some ⟨gp, 0, none⟩) (outI S.E P).length cp → e' 19 = .int .i64 (w : Nat) → e' 20 = .int .i64 (i : Nat) → Ow H0 H4 t T S (some gp) (.slice (some ⟨gp, 0, none⟩) (outI S.E P).length cp) (outI S.E P) bm em Be (.slice se es.length ce) es → K e' H4 := by
   intro e' H4 j8 j11 j15 j19 j20 hO4
   refine hK _ _ ?_
   clear hK K
   have cp4 := hO4.p.cell hgi
   repeat' (first|(with_reducible first|refine jA ?_|(refine hK _ _ ?_;clear hK K)|refine jJ fun K hK=>?_|refine jK ?_|refine jL ?_|refine jM ?_|refine jN ?_|refine jO ?_|refine jP ?_|refine jQ ?_|(refine jB ?_;clear hK K)|(refine jC ?_;clear hK K)|refine jD ?_|refine jE ?_|refine jG ?_|refine jH ?_|refine jI ?_)|((with_reducible refine jR ?hq ?_);case hq=>rfl)|((first|(with_reducible first|refine jS fun K hK=>?_|refine jT ?_|refine jU ?_)|((with_reducible refine jV ?hy fun K hK=>?_);case hy=>rfl));simp only [go_sem, Nat.reduceEqDiff, Nat.reduceAdd, Nat.reduceMul, Nat.reduceLeDiff, Nat.reduceLT, Int.reduceLT, Int.reduceLE, Int.reduceEq, Int.reduceNeg, Int.reduceToNat, Nat.reducePow, reduceIte, reduceCtorEq, j11, j15, j20, hil, cp4])|((with_reducible first|refine jW ?hy ?_|refine jY ?hy ?_);case hy=>rfl)|((with_reducible first|refine jX ?hy ?_|refine jZ ?hy ?_);case hy=>rfl)|((with_reducible refine jF ?hy ?_);case hy=>decide))
   refine id_ok hO4.e (by omega) ?_
   rw [hk0]
   simp only [idI]
   obtain ⟨ge, ce', rfl, hv, _, hc⟩ := hO4.e.at edC_len hk1
   simp only [Value.slice.injEq] at hv
   obtain ⟨rfl, _, rfl⟩ := hv
   have c1 := hc 1 (.int .i64 ed.u) rfl
   have c2 := hc 2 (.int .i64 ed.v) rfl
   have t1 : ((k0 : Int) < 0) = False := by simp
   have ea : IntKind.i64.wrap (ed.u + ed.v) = ed.u + ed.v := by rw [wrap_i64] <;> omega
   have eb : IntKind.i64.wrap (ed.u + ed.v - (w : Int)) = (w' : Nat) := by
    have : ed.u + ed.v - (w : Int) = (w' : Nat) := by omega
    rw [this, wrap_i64] <;> omega
   have t2 : ((w' : Int) < 0) = False := by simp
   have t3 : ((n : Int) ≤ (w' : Int)) = False := by simp; omega
   have t3' : (n ≤ w') = False := by simp; omega
   have ew : IntKind.i64.wrap ((i : Int) + 1) = ((i + 1 : Nat) : Int) := by rw [wrap_i64] <;> omega
   repeat' (first|(with_reducible first|refine jA ?_|(refine hK _ _ ?_;clear hK K)|refine jJ fun K hK=>?_|refine jK ?_|refine jL ?_|refine jM ?_|refine jN ?_|refine jO ?_|refine jP ?_|refine jQ ?_|(refine jB ?_;clear hK K)|(refine jC ?_;clear hK K)|refine jD ?_|refine jE ?_|refine jG ?_|refine jH ?_|refine jI ?_)|((with_reducible refine jR ?hq ?_);case hq=>rfl)|((first|(with_reducible first|refine jS fun K hK=>?_|refine jT ?_|refine jU ?_)|((with_reducible refine jV ?hy fun K hK=>?_);case hy=>rfl));simp only [go_sem, Nat.reduceEqDiff, Nat.reduceAdd, Nat.reduceMul, Nat.reduceLeDiff, Nat.reduceLT, Int.reduceLT, Int.reduceLE, Int.reduceEq, Int.reduceNeg, Int.reduceToNat, Nat.reducePow, reduceIte, reduceCtorEq, j8, j11, j19, j20, hkl, c1, c2, t1, ea, eb, t2, t3, t3', ew])|((with_reducible first|refine jW ?hy ?_|refine jY ?hy ?_);case hy=>rfl)|((with_reducible first|refine jX ?hy ?_|refine jZ ?hy ?_);case hy=>rfl)|((with_reducible refine jF ?hy ?_);case hy=>decide))
   refine loop_normal (m' := P3.length) (by rw [hP2]; simp; omega) ⟨w', P1 ++ [w + 1, g], P3, by rw [hPe, hP2]; simp, by omega, rfl, ?_, hO4, rfl⟩
   show Value.int .i64 ((i + 1 : Nat) : Int) = _
   have : outI S.E (P1 ++ [w + 1, g]) = outI S.E P1 ++ [ed.id] := by
    rw [outI_append]
    simp [outI, ew1, hge]
   rw [this, List.length_append, ← hi]
   rfl
  have hfin : ∀ b, Be = some b → True := fun _ _ => trivial
  by_cases hi0 : i = 0
  ·have q1 : ((0 : Int) < (i : Nat)) = False := by simp; omega
   have q1' : (0 < i) = False := by simp; omega
   simp only [q1, q1', decide_false]
   repeat' (first|(with_reducible first|refine jA ?_|(refine hK _ _ ?_;clear hK K)|refine jJ fun K hK=>?_|refine jK ?_|refine jL ?_|refine jM ?_|refine jN ?_|refine jO ?_|refine jP ?_|refine jQ ?_|(refine jB ?_;clear hK K)|(refine jC ?_;clear hK K)|refine jD ?_|refine jE ?_|refine jG ?_|refine jH ?_|refine jI ?_)|((with_reducible refine jR ?hq ?_);case hq=>rfl)|((first|(with_reducible first|refine jS fun K hK=>?_|refine jT ?_|refine jU ?_)|((with_reducible refine jV ?hy fun K hK=>?_);case hy=>rfl));simp only [go_sem, Nat.reduceEqDiff, Nat.reduceAdd, Nat.reduceMul, Nat.reduceLeDiff, Nat.reduceLT, Int.reduceLT, Int.reduceLE, Int.reduceEq, Int.reduceNeg, Int.reduceToNat, Nat.reducePow, reduceIte, reduceCtorEq])|((with_reducible first|refine jW ?hy ?_|refine jY ?hy ?_);case hy=>rfl)|((with_reducible first|refine jX ?hy ?_|refine jZ ?hy ?_);case hy=>rfl)|((with_reducible refine jF ?hy ?_);case hy=>decide))
   refine tail _ _ ?_ ?_ ?_ ?_ ?_ hO3
   ·exact i8
   ·exact i11
   ·exact i15
   ·exact i19
   ·exact i20
  ·have q1 : ((0 : Int) < (i : Nat)) = True := by simp; omega
   have q1' : (0 < i) = True := by simp; omega
   simp only [q1, q1', decide_true]
   have huw : u ≠ w := fun e => by
    subst e
    have h1 := hP.head
    have h2 := hP.nd
    cases P1 with
    | nil => simp [outI] at hi; exact hi0 hi
    | cons x q =>
     have : x = u + 1 := by simpa using h1
     subst this
     simp at h2
   have hwv : w ≠ v := fun e => by
    subst e
    have h1 := hP.right.last
    have h2 := hP.right.nd
    rw [List.nodup_cons] at h2
    cases P2 with
    | nil => exact hnil rfl
    | cons x q =>
     rw [List.getLast?_cons_cons] at h1
     exact h2.1 (List.mem_of_getLast? h1)
   repeat' (first|(with_reducible first|refine jA ?_|(refine hK _ _ ?_;clear hK K)|refine jJ fun K hK=>?_|refine jK ?_|refine jL ?_|refine jM ?_|refine jN ?_|refine jO ?_|refine jP ?_|refine jQ ?_|(refine jB ?_;clear hK K)|(refine jC ?_;clear hK K)|refine jD ?_|refine jE ?_|refine jG ?_|refine jH ?_|refine jI ?_)|((with_reducible refine jR ?hq ?_);case hq=>rfl)|((first|(with_reducible first|refine jS fun K hK=>?_|refine jT ?_|refine jU ?_)|((with_reducible refine jV ?hy fun K hK=>?_);case hy=>rfl));simp only [go_sem, Nat.reduceEqDiff, Nat.reduceAdd, Nat.reduceMul, Nat.reduceLeDiff, Nat.reduceLT, Int.reduceLT, Int.reduceLE, Int.reduceEq, Int.reduceNeg, Int.reduceToNat, Nat.reducePow, reduceIte, reduceCtorEq, i1, i9, i19])|((with_reducible first|refine jW ?hy ?_|refine jY ?hy ?_);case hy=>rfl)|((with_reducible first|refine jX ?hy ?_|refine jZ ?hy ?_);case hy=>rfl)|((with_reducible refine jF ?hy ?_);case hy=>decide))
   refine m_most hO3.s.m (by omega) (by omega) huw (hr u hu) (hr w hw) fun H4 Pc ea hPc hma hM4 hf4 => ?_
   have hO4 := hO3.keep hM4 hf4
   obtain rfl := ok.sp (Ls.vtx (v := u) (by omega)) hPc hP.left
   simp only [Ed.val]
   repeat' (first|(with_reducible first|refine jA ?_|(refine hK _ _ ?_;clear hK K)|refine jJ fun K hK=>?_|refine jK ?_|refine jL ?_|refine jM ?_|refine jN ?_|refine jO ?_|refine jP ?_|refine jQ ?_|(refine jB ?_;clear hK K)|(refine jC ?_;clear hK K)|refine jD ?_|refine jE ?_|refine jG ?_|refine jH ?_|refine jI ?_)|((with_reducible refine jR ?hq ?_);case hq=>rfl)|((first|(with_reducible first|refine jS fun K hK=>?_|refine jT ?_|refine jU ?_)|((with_reducible refine jV ?hy fun K hK=>?_);case hy=>rfl));simp only [go_sem, Nat.reduceEqDiff, Nat.reduceAdd, Nat.reduceMul, Nat.reduceLeDiff, Nat.reduceLT, Int.reduceLT, Int.reduceLE, Int.reduceEq, Int.reduceNeg, Int.reduceToNat, Nat.reducePow, reduceIte, reduceCtorEq, i2, i9, i19, hcell_push, hcell_top, okW_push, okW_top, hcell_hset_ne, hcell_hset_off, hcell_hset_eq, okW_hset, hset_size, Array.size_push, Nat.lt_add_one, ne_add_one, add_one_ne, Nat.add_assoc, add_same, add_lt_same, Nat.reduceEqDiff, lt_add_k, add_k_ne, ne_add_k])|((with_reducible first|refine jW ?hy ?_|refine jY ?hy ?_);case hy=>rfl)|((with_reducible first|refine jX ?hy ?_|refine jZ ?hy ?_);case hy=>rfl)|((with_reducible refine jF ?hy ?_);case hy=>decide))
   obtain ⟨b5, f45⟩ := most_box (H := H4) ea (T0 := 31)
   generalize hset _ _ _ = H5 at b5 f45 ⊢
   have hO5 := hO4.grow f45
   have nb5 : ¬ T H4.size := fun hx => by have := hO4.s.m.below _ hx; omega
   refine m_most hO5.s.m (by omega) (by omega) hwv (hr w hw) (hr v hv) fun H6 Pd eb hPd hmb hM6 hf6 => ?_
   have hO6 := hO5.keep hM6 hf6
   obtain rfl := ok.sp (Ls.vtx (v := w) (by omega)) hPd hP.right
   have b6 := b5.frame hf6 nb5
   have hz6 := hf6.size
   have l5 := b5.lt
   simp only [Ed.val]
   have n1 : ¬ H4.size = H6.size := by omega
   have n2 : ¬ H6.size = H4.size := by omega
   have d0 := b6.cellOf (i := 0) rfl
   have d1' := b6.cellOf (i := 1) rfl
   have d2' := b6.cellOf (i := 2) rfl
   have d3 := b6.cellOf (i := 3) rfl
   have l6 : H4.size < H6.size := by omega
   have hhm := IsMost.join ok.uq hma hmb
   have hmem : ∀ y, y ∈ (P1 ++ [w + 1]) ++ (w + 1) :: P2 ↔ y ∈ P := fun y => by
    rw [hPe]; simp only [List.mem_append, List.mem_cons, List.not_mem_nil, or_false]
    constructor
    ·rintro ((h | h) | h | h)
     ·exact .inl h
     ·exact .inr (.inl h)
     ·exact .inr (.inl h)
     ·exact .inr (.inr h)
    ·rintro (h | h | h)
     ·exact .inl (.inl h)
     ·exact .inl (.inr h)
     ·exact .inr (.inr h)
   have hem := hhm.uniq hmem hmo
   repeat' (first|(with_reducible first|refine jA ?_|(refine hK _ _ ?_;clear hK K)|refine jJ fun K hK=>?_|refine jK ?_|refine jL ?_|refine jM ?_|refine jN ?_|refine jO ?_|refine jP ?_|refine jQ ?_|(refine jB ?_;clear hK K)|(refine jC ?_;clear hK K)|refine jD ?_|refine jE ?_|refine jG ?_|refine jH ?_|refine jI ?_)|((with_reducible refine jR ?hq ?_);case hq=>rfl)|((first|(with_reducible first|refine jS fun K hK=>?_|refine jT ?_|refine jU ?_)|((with_reducible refine jV ?hy fun K hK=>?_);case hy=>rfl));simp only [go_sem, Nat.reduceEqDiff, Nat.reduceAdd, Nat.reduceMul, Nat.reduceLeDiff, Nat.reduceLT, Int.reduceLT, Int.reduceLE, Int.reduceEq, Int.reduceNeg, Int.reduceToNat, Nat.reducePow, reduceIte, reduceCtorEq, n1, n2, l6, d0, d1', d2', d3, hcell_push, hcell_top, okW_push, okW_top, hcell_hset_ne, hcell_hset_off, hcell_hset_eq, okW_hset, hset_size, Array.size_push, Nat.lt_add_one, ne_add_one, add_one_ne, Nat.add_assoc, add_same, add_lt_same, Nat.reduceEqDiff, lt_add_k, add_k_ne, ne_add_k])|((with_reducible first|refine jW ?hy ?_|refine jY ?hy ?_);case hy=>rfl)|((with_reducible first|refine jX ?hy ?_|refine jZ ?hy ?_);case hy=>rfl)|((with_reducible refine jF ?hy ?_);case hy=>decide))
   obtain ⟨b7, f67⟩ := most_box (H := H6) eb (T0 := 31)
   generalize hset _ _ _ = H7 at b7 f67 ⊢
   have hO7 := hO6.grow f67
   have b67 := b6.frame f67 fun h => h
   refine lheavier_ok (a := eb) (b := ea) fun H8 f78 => ?_
   have hO8 := hO7.grow f78
   have b8 := b67.frame f78 fun h => h
   have bb8 := b7.frame f78 fun h => h
   have g0 := bb8.cellOf (i := 0) rfl
   have g1 := bb8.cellOf (i := 1) rfl
   have g2 := bb8.cellOf (i := 2) rfl
   have g3 := bb8.cellOf (i := 3) rfl
   have u0 := b8.okW (i := 0) (by simp [Ed.cells])
   have u1 := b8.okW (i := 1) (by simp [Ed.cells])
   have u2 := b8.okW (i := 2) (by simp [Ed.cells])
   have u3 := b8.okW (i := 3) (by simp [Ed.cells])
   have m0 := hO8.m.cellOf (i := 0) rfl
   have m1 := hO8.m.cellOf (i := 1) rfl
   have m2 := hO8.m.cellOf (i := 2) rfl
   have m3 := hO8.m.cellOf (i := 3) rfl
   have lm := hO4.m.lt
   have n3 : ¬ H4.size = bm := by omega
   have n4 : ¬ bm = H4.size := by omega
   have lp := hO4.p.lt rfl
   have h04 := hO4.s.fr.size
   have hBe : Be ≠ some H4.size := fun e => by have := hO4.e.lt e; omega
   have a0 := b8.cellOf (i := 0) rfl
   have a1 := b8.cellOf (i := 1) rfl
   have a2 := b8.cellOf (i := 2) rfl
   have a3 := b8.cellOf (i := 3) rfl
   by_cases hh : heavy eb ea = true
   ·rw [if_pos hh] at hem
    rw [hh]
    subst hem
    obtain ⟨b9, f9⟩ := store4 b8 (.int .i64 eb.id) (.int .i64 eb.u) (.int .i64 eb.v) (.int .i64 eb.w)
    have hO9 := hO8.frameB f9 h04 nb5 (fun e => by have := Option.some.inj e; omega) (by omega) hBe
    repeat' (first|(with_reducible first|refine jA ?_|(refine hK _ _ ?_;clear hK K)|refine jJ fun K hK=>?_|refine jK ?_|refine jL ?_|refine jM ?_|refine jN ?_|refine jO ?_|refine jP ?_|refine jQ ?_|(refine jB ?_;clear hK K)|(refine jC ?_;clear hK K)|refine jD ?_|refine jE ?_|refine jG ?_|refine jH ?_|refine jI ?_)|((with_reducible refine jR ?hq ?_);case hq=>rfl)|((first|(with_reducible first|refine jS fun K hK=>?_|refine jT ?_|refine jU ?_)|((with_reducible refine jV ?hy fun K hK=>?_);case hy=>rfl));simp only [go_sem, Nat.reduceEqDiff, Nat.reduceAdd, Nat.reduceMul, Nat.reduceLeDiff, Nat.reduceLT, Int.reduceLT, Int.reduceLE, Int.reduceEq, Int.reduceNeg, Int.reduceToNat, Nat.reducePow, reduceIte, reduceCtorEq, z0, i17, g0, g1, g2, g3, u0, u1, u2, u3, okW_hset, n3, n4, m0, m1, m2, m3, hcell_push, hcell_top, okW_push, okW_top, hcell_hset_ne, hcell_hset_off, hcell_hset_eq, okW_hset, hset_size, Array.size_push, Nat.lt_add_one, ne_add_one, add_one_ne, Nat.add_assoc, add_same, add_lt_same, Nat.reduceEqDiff, lt_add_k, add_k_ne, ne_add_k])|((with_reducible first|refine jW ?hy ?_|refine jY ?hy ?_);case hy=>rfl)|((with_reducible first|refine jX ?hy ?_|refine jZ ?hy ?_);case hy=>rfl)|((with_reducible refine jF ?hy ?_);case hy=>decide))
    refine edge_eq (op := .neq) (ox := .tmp 199) (oy := .tmp 200) (a := eb) (b := eb) ?_
    simp only [decide_true, Bool.not_true]
    repeat' (first|(with_reducible first|refine jA ?_|(refine hK _ _ ?_;clear hK K)|refine jJ fun K hK=>?_|refine jK ?_|refine jL ?_|refine jM ?_|refine jN ?_|refine jO ?_|refine jP ?_|refine jQ ?_|(refine jB ?_;clear hK K)|(refine jC ?_;clear hK K)|refine jD ?_|refine jE ?_|refine jG ?_|refine jH ?_|refine jI ?_)|((with_reducible refine jR ?hq ?_);case hq=>rfl)|((first|(with_reducible first|refine jS fun K hK=>?_|refine jT ?_|refine jU ?_)|((with_reducible refine jV ?hy fun K hK=>?_);case hy=>rfl));simp only [go_sem, Nat.reduceEqDiff, Nat.reduceAdd, Nat.reduceMul, Nat.reduceLeDiff, Nat.reduceLT, Int.reduceLT, Int.reduceLE, Int.reduceEq, Int.reduceNeg, Int.reduceToNat, Nat.reducePow, reduceIte, reduceCtorEq])|((with_reducible first|refine jW ?hy ?_|refine jY ?hy ?_);case hy=>rfl)|((with_reducible first|refine jX ?hy ?_|refine jZ ?hy ?_);case hy=>rfl)|((with_reducible refine jF ?hy ?_);case hy=>decide))
    refine tail _ _ ?_ ?_ ?_ ?_ ?_ hO9
    ·exact i8
    ·exact i11
    ·exact i15
    ·exact i19
    ·exact i20
   ·rw [if_neg hh] at hem
    rw [Bool.eq_false_iff.2 hh]
    subst hem
    repeat' (first|(with_reducible first|refine jA ?_|(refine hK _ _ ?_;clear hK K)|refine jJ fun K hK=>?_|refine jK ?_|refine jL ?_|refine jM ?_|refine jN ?_|refine jO ?_|refine jP ?_|refine jQ ?_|(refine jB ?_;clear hK K)|(refine jC ?_;clear hK K)|refine jD ?_|refine jE ?_|refine jG ?_|refine jH ?_|refine jI ?_)|((with_reducible refine jR ?hq ?_);case hq=>rfl)|((first|(with_reducible first|refine jS fun K hK=>?_|refine jT ?_|refine jU ?_)|((with_reducible refine jV ?hy fun K hK=>?_);case hy=>rfl));simp only [go_sem, Nat.reduceEqDiff, Nat.reduceAdd, Nat.reduceMul, Nat.reduceLeDiff, Nat.reduceLT, Int.reduceLT, Int.reduceLE, Int.reduceEq, Int.reduceNeg, Int.reduceToNat, Nat.reducePow, reduceIte, reduceCtorEq, z0, i17, a0, a1, a2, a3, m0, m1, m2, m3])|((with_reducible first|refine jW ?hy ?_|refine jY ?hy ?_);case hy=>rfl)|((with_reducible first|refine jX ?hy ?_|refine jZ ?hy ?_);case hy=>rfl)|((with_reducible refine jF ?hy ?_);case hy=>decide))
    refine edge_eq (op := .neq) (ox := .tmp 199) (oy := .tmp 200) (a := ea) (b := ea) ?_
    simp only [decide_true, Bool.not_true]
    repeat' (first|(with_reducible first|refine jA ?_|(refine hK _ _ ?_;clear hK K)|refine jJ fun K hK=>?_|refine jK ?_|refine jL ?_|refine jM ?_|refine jN ?_|refine jO ?_|refine jP ?_|refine jQ ?_|(refine jB ?_;clear hK K)|(refine jC ?_;clear hK K)|refine jD ?_|refine jE ?_|refine jG ?_|refine jH ?_|refine jI ?_)|((with_reducible refine jR ?hq ?_);case hq=>rfl)|((first|(with_reducible first|refine jS fun K hK=>?_|refine jT ?_|refine jU ?_)|((with_reducible refine jV ?hy fun K hK=>?_);case hy=>rfl));simp only [go_sem, Nat.reduceEqDiff, Nat.reduceAdd, Nat.reduceMul, Nat.reduceLeDiff, Nat.reduceLT, Int.reduceLT, Int.reduceLE, Int.reduceEq, Int.reduceNeg, Int.reduceToNat, Nat.reducePow, reduceIte, reduceCtorEq])|((with_reducible first|refine jW ?hy ?_|refine jY ?hy ?_);case hy=>rfl)|((with_reducible first|refine jX ?hy ?_|refine jZ ?hy ?_);case hy=>rfl)|((with_reducible refine jF ?hy ?_);case hy=>decide))
    refine tail _ _ ?_ ?_ ?_ ?_ ?_ hO8
    ·exact i8
    ·exact i11
    ·exact i15
    ·exact i19
    ·exact i20
end
end Go.Proofs.Ytoplhfhjokjbiaa
namespace Go.Proofs.Ytoplhfhjokjbiaa
open Go Go.Hp Go.Li
set_option linter.all false
set_option maxRecDepth 100000
set_option maxHeartbeats 3200000
theorem linkcutOnTheWay {H : Heap} {a : Option Addr} {len cap : Nat} {zs : Nat → Int} {u v : Int} {L : Value → Heap → Prop} (hin : InInts H a len zs) (hl : len ≤ 9223372036854775807) (u0 : -9223372036854775808 ≤ u) (u1 : u ≤ 9223372036854775807) (v0 : -9223372036854775808 ≤ v) (v1 : v ≤ 9223372036854775807)
  (fin : ∀ H', Fr (fun _ => False) H H' → L (.bool true) H') : CallsH Try.prog 3 #[.slice a len cap, .int .i64 u, .int .i64 v] H L := by
 obtain ⟨n, hn⟩ : ∃ n, n = 2 + min len 62 := ⟨_, rfl⟩
 have hn64 : n ≤ 64 := by omega
 have hn1 : 1 ≤ n := by omega
 have emin : (if (62 : Int) < (len : Int) then (62 : Int) else (len : Int)) = ((min len 62 : Nat) : Int) := by
  split <;> omega
 have ew : IntKind.i64.wrap (2 + ((min len 62 : Nat) : Int)) = (n : Int) := by rw [wrap_i64] <;> omega
 have z0 : ((0 : Int) != 0) = false := rfl
 refine call3 (by simp) ?_
 simp only [Try.f3, Option.getD_some]
 repeat' (first|(with_reducible first|refine jA ?_|(refine hK _ _ ?_;clear hK K)|refine jJ fun K hK=>?_|refine jK ?_|refine jL ?_|refine jM ?_|refine jN ?_|refine jO ?_|refine jP ?_|refine jQ ?_|(refine jB ?_;clear hK K)|(refine jC ?_;clear hK K)|refine jD ?_|refine jE ?_|refine jG ?_|refine jH ?_|refine jI ?_)|((with_reducible refine jR ?hq ?_);case hq=>rfl)|((first|(with_reducible first|refine jS fun K hK=>?_|refine jT ?_|refine jU ?_)|((with_reducible refine jV ?hy fun K hK=>?_);case hy=>rfl));simp only [go_sem, Nat.reduceEqDiff, Nat.reduceAdd, Nat.reduceMul, Nat.reduceLeDiff, Nat.reduceLT, Int.reduceLT, Int.reduceLE, Int.reduceEq, Int.reduceNeg, Int.reduceToNat, Nat.reducePow, reduceIte, reduceCtorEq])|((with_reducible first|refine jW ?hy ?_|refine jY ?hy ?_);case hy=>rfl)|((with_reducible first|refine jX ?hy ?_|refine jZ ?hy ?_);case hy=>rfl)|((with_reducible refine jF ?hy ?_);case hy=>decide))
 refine awake_ok fun H1 hf1 => ?_
 repeat' (first|(with_reducible first|refine jA ?_|(refine hK _ _ ?_;clear hK K)|refine jJ fun K hK=>?_|refine jK ?_|refine jL ?_|refine jM ?_|refine jN ?_|refine jO ?_|refine jP ?_|refine jQ ?_|(refine jB ?_;clear hK K)|(refine jC ?_;clear hK K)|refine jD ?_|refine jE ?_|refine jG ?_|refine jH ?_|refine jI ?_)|((with_reducible refine jR ?hq ?_);case hq=>rfl)|((first|(with_reducible first|refine jS fun K hK=>?_|refine jT ?_|refine jU ?_)|((with_reducible refine jV ?hy fun K hK=>?_);case hy=>rfl));simp only [go_sem, Nat.reduceEqDiff, Nat.reduceAdd, Nat.reduceMul, Nat.reduceLeDiff, Nat.reduceLT, Int.reduceLT, Int.reduceLE, Int.reduceEq, Int.reduceNeg, Int.reduceToNat, Nat.reducePow, reduceIte, reduceCtorEq, emin, ew])|((with_reducible first|refine jW ?hy ?_|refine jY ?hy ?_);case hy=>rfl)|((with_reducible first|refine jX ?hy ?_|refine jZ ?hy ?_);case hy=>rfl)|((with_reducible refine jF ?hy ?_);case hy=>decide))
 refine lnew_ok hn1 hn64 fun H2 t T2 hM2 hf2 hT2 => ?_
 have hS2 : LS H H2 t T2 (Ls.new n) := ⟨hM2, hf1.trans hf2, fun b hb => Nat.le_trans hf1.size (hT2 b hb)⟩
 repeat' (first|(with_reducible first|refine jA ?_|(refine hK _ _ ?_;clear hK K)|refine jJ fun K hK=>?_|refine jK ?_|refine jL ?_|refine jM ?_|refine jN ?_|refine jO ?_|refine jP ?_|refine jQ ?_|(refine jB ?_;clear hK K)|(refine jC ?_;clear hK K)|refine jD ?_|refine jE ?_|refine jG ?_|refine jH ?_|refine jI ?_)|((with_reducible refine jR ?hq ?_);case hq=>rfl)|((first|(with_reducible first|refine jS fun K hK=>?_|refine jT ?_|refine jU ?_)|((with_reducible refine jV ?hy fun K hK=>?_);case hy=>rfl));simp only [go_sem, Nat.reduceEqDiff, Nat.reduceAdd, Nat.reduceMul, Nat.reduceLeDiff, Nat.reduceLT, Int.reduceLT, Int.reduceLE, Int.reduceEq, Int.reduceNeg, Int.reduceToNat, Nat.reducePow, reduceIte, reduceCtorEq, z0])|((with_reducible first|refine jW ?hy ?_|refine jY ?hy ?_);case hy=>rfl)|((with_reducible first|refine jX ?hy ?_|refine jZ ?hy ?_);case hy=>rfl)|((with_reducible refine jF ?hy ?_);case hy=>decide))
 refine owA hin hn hS2 rfl rfl rfl rfl rfl ?_
 intro e' H3 T S Be ve es i1 i2 i8 i9 i11 hS3 hG hSn hes hE3 hel hBe
 have i1 : e' 1 = .int .i64 u := i1.trans rfl
 have i2 : e' 2 = .int .i64 v := i2.trans rfl
 repeat' (first|(with_reducible first|refine jA ?_|(refine hK _ _ ?_;clear hK K)|refine jJ fun K hK=>?_|refine jK ?_|refine jL ?_|refine jM ?_|refine jN ?_|refine jO ?_|refine jP ?_|refine jQ ?_|(refine jB ?_;clear hK K)|(refine jC ?_;clear hK K)|refine jD ?_|refine jE ?_|refine jG ?_|refine jH ?_|refine jI ?_)|((with_reducible refine jR ?hq ?_);case hq=>rfl)|((first|(with_reducible first|refine jS fun K hK=>?_|refine jT ?_|refine jU ?_)|((with_reducible refine jV ?hy fun K hK=>?_);case hy=>rfl));simp only [go_sem, Nat.reduceEqDiff, Nat.reduceAdd, Nat.reduceMul, Nat.reduceLeDiff, Nat.reduceLT, Int.reduceLT, Int.reduceLE, Int.reduceEq, Int.reduceNeg, Int.reduceToNat, Nat.reducePow, reduceIte, reduceCtorEq, i1, i2, i8])|((with_reducible first|refine jW ?hy ?_|refine jY ?hy ?_);case hy=>rfl)|((with_reducible first|refine jX ?hy ?_|refine jZ ?hy ?_);case hy=>rfl)|((with_reducible refine jF ?hy ?_);case hy=>decide))
 refine pick_nat ⟨u0, u1⟩ (by omega) fun p _ hp => ?_
 repeat' (first|(with_reducible first|refine jA ?_|(refine hK _ _ ?_;clear hK K)|refine jJ fun K hK=>?_|refine jK ?_|refine jL ?_|refine jM ?_|refine jN ?_|refine jO ?_|refine jP ?_|refine jQ ?_|(refine jB ?_;clear hK K)|(refine jC ?_;clear hK K)|refine jD ?_|refine jE ?_|refine jG ?_|refine jH ?_|refine jI ?_)|((with_reducible refine jR ?hq ?_);case hq=>rfl)|((first|(with_reducible first|refine jS fun K hK=>?_|refine jT ?_|refine jU ?_)|((with_reducible refine jV ?hy fun K hK=>?_);case hy=>rfl));simp only [go_sem, Nat.reduceEqDiff, Nat.reduceAdd, Nat.reduceMul, Nat.reduceLeDiff, Nat.reduceLT, Int.reduceLT, Int.reduceLE, Int.reduceEq, Int.reduceNeg, Int.reduceToNat, Nat.reducePow, reduceIte, reduceCtorEq, i2, i8])|((with_reducible first|refine jW ?hy ?_|refine jY ?hy ?_);case hy=>rfl)|((with_reducible first|refine jX ?hy ?_|refine jZ ?hy ?_);case hy=>rfl)|((with_reducible refine jF ?hy ?_);case hy=>decide))
 refine pick_nat ⟨v0, v1⟩ (by omega) fun q _ hq => ?_
 obtain ⟨r, hr⟩ := hG.one
 have ok := hS3.m.ok
 by_cases hpq : p = q
 ·have t1 : ((p : Int) == (q : Int)) = true := by simp [hpq]
  repeat' (first|(with_reducible first|refine jA ?_|(refine hK _ _ ?_;clear hK K)|refine jJ fun K hK=>?_|refine jK ?_|refine jL ?_|refine jM ?_|refine jN ?_|refine jO ?_|refine jP ?_|refine jQ ?_|(refine jB ?_;clear hK K)|(refine jC ?_;clear hK K)|refine jD ?_|refine jE ?_|refine jG ?_|refine jH ?_|refine jI ?_)|((with_reducible refine jR ?hq ?_);case hq=>rfl)|((first|(with_reducible first|refine jS fun K hK=>?_|refine jT ?_|refine jU ?_)|((with_reducible refine jV ?hy fun K hK=>?_);case hy=>rfl));simp only [go_sem, Nat.reduceEqDiff, Nat.reduceAdd, Nat.reduceMul, Nat.reduceLeDiff, Nat.reduceLT, Int.reduceLT, Int.reduceLE, Int.reduceEq, Int.reduceNeg, Int.reduceToNat, Nat.reducePow, reduceIte, reduceCtorEq, t1])|((with_reducible first|refine jW ?hy ?_|refine jY ?hy ?_);case hy=>rfl)|((with_reducible first|refine jX ?hy ?_|refine jZ ?hy ?_);case hy=>rfl)|((with_reducible refine jF ?hy ?_);case hy=>decide))
  exact fin _ hS3.fr
 ·have t1 : ((p : Int) == (q : Int)) = false := by simp; omega
  repeat' (first|(with_reducible first|refine jA ?_|(refine hK _ _ ?_;clear hK K)|refine jJ fun K hK=>?_|refine jK ?_|refine jL ?_|refine jM ?_|refine jN ?_|refine jO ?_|refine jP ?_|refine jQ ?_|(refine jB ?_;clear hK K)|(refine jC ?_;clear hK K)|refine jD ?_|refine jE ?_|refine jG ?_|refine jH ?_|refine jI ?_)|((with_reducible refine jR ?hq ?_);case hq=>rfl)|((first|(with_reducible first|refine jS fun K hK=>?_|refine jT ?_|refine jU ?_)|((with_reducible refine jV ?hy fun K hK=>?_);case hy=>rfl));simp only [go_sem, Nat.reduceEqDiff, Nat.reduceAdd, Nat.reduceMul, Nat.reduceLeDiff, Nat.reduceLT, Int.reduceLT, Int.reduceLE, Int.reduceEq, Int.reduceNeg, Int.reduceToNat, Nat.reducePow, reduceIte, reduceCtorEq, t1, i9])|((with_reducible first|refine jW ?hy ?_|refine jY ?hy ?_);case hy=>rfl)|((with_reducible first|refine jX ?hy ?_|refine jZ ?hy ?_);case hy=>rfl)|((with_reducible refine jF ?hy ?_);case hy=>decide))
  refine m_path hS3.m (by omega) (by omega) (hr p hp) (hr q hq) fun H5 P B5 w5 hP hi5 hB5 hM5 hf5 => ?_
  have hS5 := hS3.keep hM5 hf5
  have hE5 := hE3.frame hf5 fun b hb => (hBe b hb).1
  have nB5 : ∀ b, B5 = some b → ¬ T b := fun b hb hx => by have := hS3.m.below b hx; have := hB5 b hb; omega
  repeat' (first|(with_reducible first|refine jA ?_|(refine hK _ _ ?_;clear hK K)|refine jJ fun K hK=>?_|refine jK ?_|refine jL ?_|refine jM ?_|refine jN ?_|refine jO ?_|refine jP ?_|refine jQ ?_|(refine jB ?_;clear hK K)|(refine jC ?_;clear hK K)|refine jD ?_|refine jE ?_|refine jG ?_|refine jH ?_|refine jI ?_)|((with_reducible refine jR ?hq ?_);case hq=>rfl)|((first|(with_reducible first|refine jS fun K hK=>?_|refine jT ?_|refine jU ?_)|((with_reducible refine jV ?hy fun K hK=>?_);case hy=>rfl));simp only [go_sem, Nat.reduceEqDiff, Nat.reduceAdd, Nat.reduceMul, Nat.reduceLeDiff, Nat.reduceLT, Int.reduceLT, Int.reduceLE, Int.reduceEq, Int.reduceNeg, Int.reduceToNat, Nat.reducePow, reduceIte, reduceCtorEq, i9])|((with_reducible first|refine jW ?hy ?_|refine jY ?hy ?_);case hy=>rfl)|((with_reducible first|refine jX ?hy ?_|refine jZ ?hy ?_);case hy=>rfl)|((with_reducible refine jF ?hy ?_);case hy=>decide))
  refine m_most hS5.m (by omega) (by omega) hpq (hr p hp) (hr q hq) fun H6 Pm em hPm hMo hM6 hf6 => ?_
  have hS6 := hS5.keep hM6 hf6
  have hi6 := hi5.frame hf6 nB5
  have hE6 := hE5.frame hf6 fun b hb => (hBe b hb).1
  obtain rfl := ok.sp (Ls.vtx (v := p) (by omega)) hPm hP
  simp only [Ed.val]
  have hlen : ¬ (outI S.E Pm).length = 0 := by rw [ok.outI_nil (v := q) (by omega) hP]; exact hpq
  obtain ⟨sa, sc, rfl⟩ := hi6.slice
  have t2 : (((outI S.E Pm).length : Int) == 0) = false := by simp; intro h; exact hlen (by rw [h]; rfl)
  repeat' (first|(with_reducible first|refine jA ?_|(refine hK _ _ ?_;clear hK K)|refine jJ fun K hK=>?_|refine jK ?_|refine jL ?_|refine jM ?_|refine jN ?_|refine jO ?_|refine jP ?_|refine jQ ?_|(refine jB ?_;clear hK K)|(refine jC ?_;clear hK K)|refine jD ?_|refine jE ?_|refine jG ?_|refine jH ?_|refine jI ?_)|((with_reducible refine jR ?hq ?_);case hq=>rfl)|((first|(with_reducible first|refine jS fun K hK=>?_|refine jT ?_|refine jU ?_)|((with_reducible refine jV ?hy fun K hK=>?_);case hy=>rfl));simp only [go_sem, Nat.reduceEqDiff, Nat.reduceAdd, Nat.reduceMul, Nat.reduceLeDiff, Nat.reduceLT, Int.reduceLT, Int.reduceLE, Int.reduceEq, Int.reduceNeg, Int.reduceToNat, Nat.reducePow, reduceIte, reduceCtorEq, z0, t2, i9, hcell_push, hcell_top, okW_push, okW_top, hcell_hset_ne, hcell_hset_off, hcell_hset_eq, okW_hset, hset_size, Array.size_push, Nat.lt_add_one, ne_add_one, add_one_ne, Nat.add_assoc, add_same, add_lt_same, Nat.reduceEqDiff, lt_add_k, add_k_ne, ne_add_k])|((with_reducible first|refine jW ?hy ?_|refine jY ?hy ?_);case hy=>rfl)|((with_reducible first|refine jX ?hy ?_|refine jZ ?hy ?_);case hy=>rfl)|((with_reducible refine jF ?hy ?_);case hy=>decide))
  obtain ⟨b7, f67⟩ := most_box (H := H6) em (T0 := 31)
  generalize hset _ _ _ = H7 at b7 f67 ⊢
  have hO : Ow H H7 t T S B5 _ (outI S.E Pm) H6.size em Be ve es := ⟨hS6.grow f67, hi6.frame f67 fun _ _ h => h, b7, hE6.frame f67 fun _ _ h => h, nB5, fun hx => by have := hS6.m.below _ hx; omega, fun b hb => (hBe b hb).1⟩
  refine owB (w0 := 0) hO hSn hr hP hp hq hMo hes hel ?_ ?_ ?_ ?_ ?_ ?_ ?_ ?_ ?_ ?_
  ·rfl
  ·rfl
  ·exact i8
  ·exact i9
  ·exact i11
  ·rfl
  ·rfl
  ·rfl
  ·rfl
  intro e8 H8 k2 k19 hS8
  have k2 : e8 2 = .int .i64 (q : Nat) := k2.trans rfl
  have t3 : ((q : Int) == (q : Int)) = true := by simp
  repeat' (first|(with_reducible first|refine jA ?_|(refine hK _ _ ?_;clear hK K)|refine jJ fun K hK=>?_|refine jK ?_|refine jL ?_|refine jM ?_|refine jN ?_|refine jO ?_|refine jP ?_|refine jQ ?_|(refine jB ?_;clear hK K)|(refine jC ?_;clear hK K)|refine jD ?_|refine jE ?_|refine jG ?_|refine jH ?_|refine jI ?_)|((with_reducible refine jR ?hq ?_);case hq=>rfl)|((first|(with_reducible first|refine jS fun K hK=>?_|refine jT ?_|refine jU ?_)|((with_reducible refine jV ?hy fun K hK=>?_);case hy=>rfl));simp only [go_sem, Nat.reduceEqDiff, Nat.reduceAdd, Nat.reduceMul, Nat.reduceLeDiff, Nat.reduceLT, Int.reduceLT, Int.reduceLE, Int.reduceEq, Int.reduceNeg, Int.reduceToNat, Nat.reducePow, reduceIte, reduceCtorEq, k2, k19, t3])|((with_reducible first|refine jW ?hy ?_|refine jY ?hy ?_);case hy=>rfl)|((with_reducible first|refine jX ?hy ?_|refine jZ ?hy ?_);case hy=>rfl)|((with_reducible refine jF ?hy ?_);case hy=>decide))
  exact fin _ hS8.fr
end Go.Proofs.Ytoplhfhjokjbiaa
