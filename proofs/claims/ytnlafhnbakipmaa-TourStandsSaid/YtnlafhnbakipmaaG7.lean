/-
  Lists of edges: who is joined with whom; the place of an edge; a list without one.
  Lists of edges against tours (plain).
  TourMarks: its state in memory; its script.
  Link, Cut and MarkEdge beside lists of edges.
  TourStands: what a book says of a tree, summed up along a walk.
  TourStands: who is of one tree; a book against tours.
  TourStands: the book stands.
  TourStands: a book and tours, changed together.
-/
import Derived.Test.YtnlafhnbakipmaaG6
import Derived.Test.YtnlafhnbakipmaaHpCR
import Derived.Test.YtnlafhnbakipmaaHpW
namespace Go.To
open Go Go.Hp Go.Sp Go.Proofs.Ytnlafhnbakipmaa
def EdgeL (l : List St) (a b : Nat) : Prop := (a, b) ∈ l ∨ (b, a) ∈ l
def RchL (l : List St) (a b : Nat) : Prop := Way (EdgeL l) a b
def falses (bs : List Bool) : Nat := bs.countP (! ·)
theorem falses_set : ∀ (bs : List Bool) (i : Nat), falses (bs.set i true) ≤ falses bs ∧ (bs[i]? = some false → falses (bs.set i true) + 1 = falses bs)
 | [], i => ⟨Nat.le_refl _, fun h => by cases h⟩
 | b :: bs, 0 => by
  cases b <;> simp [falses]
 | b :: bs, i + 1 => by
  obtain ⟨h1, h2⟩ := falses_set bs i
  unfold falses at h1 h2 ⊢
  simp only [List.set_cons_succ, List.countP_cons, List.getElem?_cons_succ]
  exact ⟨by omega, fun h => by have := h2 h; omega⟩
theorem RchL.step_or {l : List St} {a x y : Nat} (h : RchL l a x) (e : (x, y) ∈ l ∨ (y, x) ∈ l) : RchL l a y := Way.step h e
theorem reach_closed {l : List St} {a : Nat} {P : Nat → Prop} (h0 : P a) (hc : ∀ p ∈ l, P p.1 ↔ P p.2) {x : Nat} (h : RchL l a x) : P x := by
 induction h with
 | refl => exact h0
 | step _ e ih =>
  rcases e with e | e
  ·exact (hc _ e).1 ih
  ·exact (hc _ e).2 ih
def placeL (l : List St) (u v : Nat) : Option Nat := l.findIdx? fun p => decide (p = (u, v) ∨ p = (v, u))
def withoutL (l : List St) : Option Nat → List St
 | none => l
 | some k => l.take k ++ l.drop (k + 1)
theorem placeL_some {l : List St} {u v k : Nat} (h : placeL l u v = some k) : ∃ p, l[k]? = some p ∧ (p = (u, v) ∨ p = (v, u)) ∧ k < l.length := by
 unfold placeL at h
 rw [List.findIdx?_eq_some_iff_getElem] at h
 obtain ⟨hk, h1, _⟩ := h
 exact ⟨l[k], List.getElem?_eq_getElem hk, by simpa using h1, hk⟩
theorem placeL_none {l : List St} {u v : Nat} : placeL l u v = none ↔ (u, v) ∉ l ∧ (v, u) ∉ l := by
 unfold placeL
 rw [List.findIdx?_eq_none_iff]
 constructor
 ·intro h
  exact ⟨fun hm => by have := h _ hm; simp at this, fun hm => by have := h _ hm; simp at this⟩
 ·rintro ⟨h1, h2⟩ p hp
  simp only [decide_eq_false_iff_not, not_or]
  exact ⟨fun e => h1 (by rw [← e]; exact hp), fun e => h2 (by rw [← e]; exact hp)⟩
end Go.To
namespace Go.Proofs.Ytnlafhnbakipmaa
open Go Go.Hp Go.Sp Go.To
set_option linter.all false
set_option maxRecDepth 100000
set_option maxHeartbeats 1600000
def pairC (p : St) : List Value := [.int .i64 p.1, .int .i64 p.2]
theorem pairC_len (p : St) : (pairC p).length = 2 := rfl
theorem pairC_plain (p : St) : ∀ u ∈ pairC p, plainVal u = true := by
 intro u hu
 simp only [pairC, List.mem_cons, List.not_mem_nil, or_false] at hu
 rcases hu with rfl | rfl <;> rfl
section
variable {H0 H H' : Heap} {e : Env} {Z : HX → Env → Heap → Prop} {K L : Value → Heap → Prop}
theorem repL_bool (n : Nat) : repL n [Value.bool false] = (List.replicate n false).map Value.bool := by
 induction n with
 | zero => rfl
 | succ n ih => rw [List.replicate_succ, List.map_cons, ← ih]; rfl
theorem br_new (H : Heap) (n : Nat) (T : TypeId) (hn : 0 < n) : BR (H.push (.cells (repL n [Value.bool false]).toArray T)) (some H.size) (.slice (some ⟨H.size, 0, none⟩) n n) (List.replicate n false) := by
 refine ⟨by simp, .inr ⟨H.size, n, [], rfl, by simp, ?_, by simp, by simp⟩⟩
 rw [List.append_nil, repL_bool]
 exact Blk.new H _ T
theorem passL {g n : Nat} {B : Option Nat} {vl : Value} {l : List St} {bs0 : List Bool} {fr : Nat} (hl : SR pairC 2 H B vl l) (hB : B ≠ some g) (hll : l.length ≤ 9223372036854775806) (hends : ∀ p ∈ l, p.1 < n ∧ p.2 < n)
  (hb : BR H (some g) (.slice (some ⟨g, 0, none⟩) n n) bs0) (hlen : bs0.length = n) (hs : ∀ x, bs0[x]? = some true → RchL l fr x) (hf : bs0[fr]? = some true)
  (e1 : e 1 = vl) (e7 : e 7 = .slice (some ⟨g, 0, none⟩) n n) (e8 : e 8 = .bool false) (e9 : e 9 = .int .i64 0)
  (hQ : ∀ e' H' bs more, e' 1 = vl → e' 7 = .slice (some ⟨g, 0, none⟩) n n → e' 8 = .bool more → BR H' (some g) (.slice (some ⟨g, 0, none⟩) n n) bs → bs.length = n → (∀ x, bs[x]? = some true → RchL l fr x) → bs[fr]? = some true → Fr (· = g) H H' →
   falses bs ≤ falses bs0 → (more = true → falses bs < falses bs0) → (more = false → ∀ p ∈ l, bs[p.1]? = bs[p.2]?) → Z .normal e' H') :
  codeX Try.prog [9] (loopAt Try.f17.body 1) (blockQ 2 Z) e H := by
 refine x_loop (fun m e' H' => ∃ (i : Nat) (bs : List Bool) (more : Bool), e' 9 = .int .i64 (i : Nat) ∧ e' 8 = .bool more ∧ i ≤ l.length ∧ BR H' (some g) (.slice (some ⟨g, 0, none⟩) n n) bs ∧ bs.length = n ∧ (∀ x, bs[x]? = some true → RchL l fr x) ∧ bs[fr]? = some true ∧ Fr (· = g) H H' ∧
   falses bs ≤ falses bs0 ∧ (more = true → falses bs < falses bs0) ∧ (more = false → ∀ j p, j < i → l[j]? = some p → bs[p.1]? = bs[p.2]?) ∧ m = l.length - i) l.length
  ⟨0, bs0, false, e9, e8, Nat.zero_le _, hb, hlen, hs, hf, Fr.refl _ _, Nat.le_refl _, fun h => (by cases h), fun _ j p h => (by omega), rfl⟩ ?_
 rintro m e1' H1 ⟨i, bs, more, i9, i8, hi, hb1, hlen1, hs1, hf1, hfr, hle, hm1, hm2, rfl⟩ hoff
 have i1 := (hoff 1 rfl).trans e1
 have i7 := (hoff 7 rfl).trans e7
 clear hoff
 obtain ⟨al, cl, rfl⟩ := hl.slice
 by_cases hlt : i < l.length
 ·obtain ⟨⟨p, q⟩, hp⟩ : ∃ p, l[i]? = some p := ⟨_, List.getElem?_eq_getElem hlt⟩
  have hpm := List.mem_of_getElem? hp
  obtain ⟨hpn, hqn⟩ := hends _ hpm
  simp only at hpn hqn
  have hl1 := hl.frame hfr fun b hb' e' => hB (by rw [hb', e'])
  obtain ⟨gl, cl', rfl, hv, _, hc⟩ := hl1.at pairC_len hp
  simp only [Value.slice.injEq] at hv
  obtain ⟨rfl, _, rfl⟩ := hv
  have c0 := hc 0 (.int .i64 p) rfl
  have c1 := hc 1 (.int .i64 q) rfl
  rw [Nat.add_zero] at c0
  obtain ⟨b1, hb1'⟩ : ∃ b, bs[p]? = some b := ⟨_, List.getElem?_eq_getElem (by omega)⟩
  obtain ⟨b2, hb2'⟩ : ∃ b, bs[q]? = some b := ⟨_, List.getElem?_eq_getElem (by omega)⟩
  have d1 := hb1.cell hb1'
  have d2 := hb1.cell hb2'
  have ew : IntKind.i64.wrap ((i : Int) + 1) = ((i + 1 : Nat) : Int) := by rw [wrap_i64] <;> omega
  by_cases hbb : b1 = b2
  ·subst hbb
   have t1 : (b1 != b1) = false := by simp
   repeat' (first|(with_reducible first|refine jA ?_|(refine hK _ _ ?_;clear hK K)|refine jJ fun K hK=>?_|refine jK ?_|refine jL ?_|refine jM ?_|refine jN ?_|refine jO ?_|refine jP ?_|refine jQ ?_|(refine jB ?_;clear hK K)|(refine jC ?_;clear hK K)|refine jD ?_|refine jE ?_|refine jG ?_|refine jH ?_|refine jI ?_)|((with_reducible refine jR ?hq ?_);case hq=>rfl)|((first|(with_reducible first|refine jS fun K hK=>?_|refine jT ?_|refine jU ?_)|((with_reducible refine jV ?hy fun K hK=>?_);case hy=>rfl));simp only [go_sem, Nat.reduceEqDiff, Nat.reduceAdd, Nat.reduceMul, Nat.reduceLeDiff, Nat.reduceLT, Int.reduceLT, Int.reduceLE, Int.reduceEq, Int.reduceNeg, Int.reduceToNat, Nat.reducePow, reduceIte, reduceCtorEq, i1, i7, i9, hlt, hpn, hqn, c0, c1, d1, d2, t1, ew])|((with_reducible first|refine jW ?hy ?_|refine jY ?hy ?_);case hy=>rfl)|((with_reducible first|refine jX ?hy ?_|refine jZ ?hy ?_);case hy=>rfl)|((with_reducible refine jF ?hy ?_);case hy=>decide))
   refine loop_normal (m' := l.length - (i + 1)) (by omega) ⟨i + 1, bs, more, rfl, i8, hlt, hb1, hlen1, hs1, hf1, hfr, hle, hm1, fun hm j p' hj hp' => ?_, rfl⟩
   rcases Nat.lt_succ_iff_lt_or_eq.1 hj with h | rfl
   ·exact hm2 hm j p' h hp'
   ·rw [hp] at hp'
    obtain rfl := Option.some.inj hp'
    rw [hb1', hb2']
  ·have t1 : (b1 == b2) = false := by simp [hbb]
   obtain ⟨w1, hb3⟩ := hb1.write (i := p) (by omega) true
   obtain ⟨w2, hb4⟩ := hb3.write (i := q) (by simp; omega) true
   have hfr2 : Fr (· = g) H1 (hset (hset H1 ⟨g, p, none⟩ (.bool true)) ⟨g, q, none⟩ (.bool true)) := Fr.set (S := (· = g)) (a := ⟨g, q, none⟩) (Fr.set (S := (· = g)) (a := ⟨g, p, none⟩) (Fr.refl _ H1) (.inl rfl) _) (.inl rfl) _
   have hgg : gl ≠ g := fun e' => hB (by rw [e'])
   have hl2 := hl1.frame (Fr.set (S := (· = g)) (a := ⟨g, p, none⟩) (Fr.refl _ H1) (.inl rfl) (.bool true)) fun b hb' e' => hgg (by rw [Option.some.inj hb', e'])
   have c1' := hl2.cell pairC_len hp (j := 1) (u := .int .i64 q) rfl
   repeat' (first|(with_reducible first|refine jA ?_|(refine hK _ _ ?_;clear hK K)|refine jJ fun K hK=>?_|refine jK ?_|refine jL ?_|refine jM ?_|refine jN ?_|refine jO ?_|refine jP ?_|refine jQ ?_|(refine jB ?_;clear hK K)|(refine jC ?_;clear hK K)|refine jD ?_|refine jE ?_|refine jG ?_|refine jH ?_|refine jI ?_)|((with_reducible refine jR ?hq ?_);case hq=>rfl)|((first|(with_reducible first|refine jS fun K hK=>?_|refine jT ?_|refine jU ?_)|((with_reducible refine jV ?hy fun K hK=>?_);case hy=>rfl));simp only [go_sem, Nat.reduceEqDiff, Nat.reduceAdd, Nat.reduceMul, Nat.reduceLeDiff, Nat.reduceLT, Int.reduceLT, Int.reduceLE, Int.reduceEq, Int.reduceNeg, Int.reduceToNat, Nat.reducePow, reduceIte, reduceCtorEq, i1, i7, i9, hlt, hpn, hqn, c0, c1, d1, d2, t1, w1, w2, c1', ew])|((with_reducible first|refine jW ?hy ?_|refine jY ?hy ?_);case hy=>rfl)|((with_reducible first|refine jX ?hy ?_|refine jZ ?hy ?_);case hy=>rfl)|((with_reducible refine jF ?hy ?_);case hy=>decide))
   obtain ⟨f1, f2⟩ := falses_set bs p
   obtain ⟨f3, f4⟩ := falses_set (bs.set p true) q
   have hdec : falses ((bs.set p true).set q true) < falses bs := by
    cases b1 with
    | false => have := f2 hb1'; omega
    | true =>
     cases b2 with
     | true => exact absurd rfl hbb
     | false =>
      have hpq : p ≠ q := by rintro rfl; rw [hb1'] at hb2'; cases hb2'
      have := f4 (by rw [List.getElem?_set_ne hpq]; exact hb2')
      omega
   have hsound : ∀ x, ((bs.set p true).set q true)[x]? = some true → RchL l fr x := by
    have hor : RchL l fr p ∧ RchL l fr q := by
     cases b1 with
     | true => exact ⟨hs1 p hb1', (hs1 p hb1').step_or (.inl hpm)⟩
     | false =>
      cases b2 with
      | false => exact absurd rfl hbb
      | true => exact ⟨(hs1 q hb2').step_or (.inr hpm), hs1 q hb2'⟩
    intro x hx
    rw [List.getElem?_set] at hx
    by_cases hxq : q = x
    ·rw [← hxq]; exact hor.2
    ·rw [if_neg hxq, List.getElem?_set] at hx
     by_cases hxp : p = x
     ·rw [← hxp]; exact hor.1
     ·rw [if_neg hxp] at hx; exact hs1 x hx
   have hf3 : ((bs.set p true).set q true)[fr]? = some true := by
    rw [List.getElem?_set]
    by_cases h1 : q = fr
    ·rw [if_pos h1, if_pos (by simp; omega)]
    ·rw [if_neg h1, List.getElem?_set]
     by_cases h2 : p = fr
     ·rw [if_pos h2, if_pos (by omega)]
     ·rw [if_neg h2]; exact hf1
   exact loop_normal (m' := l.length - (i + 1)) (by omega) ⟨i + 1, _, true, rfl, rfl, hlt, hb4, by simp [hlen1], hsound, hf3, hfr.trans hfr2, by omega, fun _ => by omega, fun h => (by cases h), rfl⟩
 ·have t1 : (i < l.length) = False := by simp [hlt]
  repeat' (first|(with_reducible first|refine jA ?_|(refine hK _ _ ?_;clear hK K)|refine jJ fun K hK=>?_|refine jK ?_|refine jL ?_|refine jM ?_|refine jN ?_|refine jO ?_|refine jP ?_|refine jQ ?_|(refine jB ?_;clear hK K)|(refine jC ?_;clear hK K)|refine jD ?_|refine jE ?_|refine jG ?_|refine jH ?_|refine jI ?_)|((with_reducible refine jR ?hq ?_);case hq=>rfl)|((first|(with_reducible first|refine jS fun K hK=>?_|refine jT ?_|refine jU ?_)|((with_reducible refine jV ?hy fun K hK=>?_);case hy=>rfl));simp only [go_sem, Nat.reduceEqDiff, Nat.reduceAdd, Nat.reduceMul, Nat.reduceLeDiff, Nat.reduceLT, Int.reduceLT, Int.reduceLE, Int.reduceEq, Int.reduceNeg, Int.reduceToNat, Nat.reducePow, reduceIte, reduceCtorEq, i1, i9, t1])|((with_reducible first|refine jW ?hy ?_|refine jY ?hy ?_);case hy=>rfl)|((with_reducible first|refine jX ?hy ?_|refine jZ ?hy ?_);case hy=>rfl)|((with_reducible refine jF ?hy ?_);case hy=>decide))
  refine hQ _ _ bs more i1 i7 i8 hb1 hlen1 hs1 hf1 hfr hle hm1 fun hm p hp => ?_
  obtain ⟨j, hj, rfl⟩ := List.mem_iff_getElem.1 hp
  exact hm2 hm j _ (by omega) (List.getElem?_eq_getElem hj)
theorem joined_ok {n fr : Nat} {B : Option Nat} {vl : Value} {l : List St} (hl : SR pairC 2 H B vl l) (hll : l.length ≤ 9223372036854775806) (hends : ∀ p ∈ l, p.1 < n ∧ p.2 < n) (hfr : fr < n) (hn : n ≤ 1000)
  (fin : ∀ H' g bs, BR H' (some g) (.slice (some ⟨g, 0, none⟩) n n) bs → bs.length = n → (∀ x, bs[x]? = some true ↔ x < n ∧ RchL l fr x) → H.size ≤ g → Fr (fun _ => False) H H' → L (.slice (some ⟨g, 0, none⟩) n n) H') :
  CallsH Try.prog 17 #[.int .i64 (n : Nat), vl, .int .i64 (fr : Nat)] H L := by
 refine call17 (by simp) ?_
 simp only [Try.f17, Option.getD_some]
 repeat' (first|(with_reducible first|refine jA ?_|(refine hK _ _ ?_;clear hK K)|refine jJ fun K hK=>?_|refine jK ?_|refine jL ?_|refine jM ?_|refine jN ?_|refine jO ?_|refine jP ?_|refine jQ ?_|(refine jB ?_;clear hK K)|(refine jC ?_;clear hK K)|refine jD ?_|refine jE ?_|refine jG ?_|refine jH ?_|refine jI ?_)|((with_reducible refine jR ?hq ?_);case hq=>rfl)|((first|(with_reducible first|refine jS fun K hK=>?_|refine jT ?_|refine jU ?_)|((with_reducible refine jV ?hy fun K hK=>?_);case hy=>rfl));simp only [go_sem, Nat.reduceEqDiff, Nat.reduceAdd, Nat.reduceMul, Nat.reduceLeDiff, Nat.reduceLT, Int.reduceLT, Int.reduceLE, Int.reduceEq, Int.reduceNeg, Int.reduceToNat, Nat.reducePow, reduceIte, reduceCtorEq])|((with_reducible first|refine jW ?hy ?_|refine jY ?hy ?_);case hy=>rfl)|((with_reducible first|refine jX ?hy ?_|refine jZ ?hy ?_);case hy=>rfl)|((with_reducible refine jF ?hy ?_);case hy=>decide))
 refine ⟨Nat.le_refl _, by omega, ?_⟩
 have hb0 := br_new H n 4 (by omega)
 have hf0 : Fr (fun _ => False) H (H.push (.cells (repL n [Value.bool false]).toArray 4)) := (Fr.refl _ _).push _
 have hl0 := hl.frame hf0 fun _ _ h => h
 have hBg : B ≠ some H.size := fun e => by have := hl.lt e; omega
 generalize H.push _ = H1 at hb0 hf0 hl0 ⊢
 obtain ⟨w1, hb1⟩ := hb0.write (i := fr) (by simpa using hfr) true
 have hf1 : Fr (· = H.size) H1 (hset H1 ⟨H.size, fr, none⟩ (.bool true)) := Fr.set (S := (· = H.size)) (a := ⟨H.size, fr, none⟩) (Fr.refl _ H1) (.inl rfl) _
 repeat' (first|(with_reducible first|refine jA ?_|(refine hK _ _ ?_;clear hK K)|refine jJ fun K hK=>?_|refine jK ?_|refine jL ?_|refine jM ?_|refine jN ?_|refine jO ?_|refine jP ?_|refine jQ ?_|(refine jB ?_;clear hK K)|(refine jC ?_;clear hK K)|refine jD ?_|refine jE ?_|refine jG ?_|refine jH ?_|refine jI ?_)|((with_reducible refine jR ?hq ?_);case hq=>rfl)|((first|(with_reducible first|refine jS fun K hK=>?_|refine jT ?_|refine jU ?_)|((with_reducible refine jV ?hy fun K hK=>?_);case hy=>rfl));simp only [go_sem, Nat.reduceEqDiff, Nat.reduceAdd, Nat.reduceMul, Nat.reduceLeDiff, Nat.reduceLT, Int.reduceLT, Int.reduceLE, Int.reduceEq, Int.reduceNeg, Int.reduceToNat, Nat.reducePow, reduceIte, reduceCtorEq, hfr, w1])|((with_reducible first|refine jW ?hy ?_|refine jY ?hy ?_);case hy=>rfl)|((with_reducible first|refine jX ?hy ?_|refine jZ ?hy ?_);case hy=>rfl)|((with_reducible refine jF ?hy ?_);case hy=>decide))
 generalize hset H1 ⟨H.size, fr, none⟩ (.bool true) = H2 at hb1 hf1 ⊢
 have hl2 := hl0.frame hf1 fun b hb e => hBg (by rw [hb, e])
 have hf02 : Fr (fun _ => False) H H2 := hf0.trans' hf1 fun b hb (e : b = H.size) => by omega
 refine x_loop (fun m e' H' => ∃ (bs : List Bool) (more : Bool), e' 8 = .bool more ∧ BR H' (some H.size) (.slice (some ⟨H.size, 0, none⟩) n n) bs ∧ bs.length = n ∧ (∀ x, bs[x]? = some true → RchL l fr x) ∧ bs[fr]? = some true ∧ Fr (fun _ => False) H H' ∧ (more = false → ∀ p ∈ l, bs[p.1]? = bs[p.2]?) ∧ m = 2 * falses bs + (if more then 1 else 0)) _
  ⟨(List.replicate n false).set fr true, true, rfl, hb1, by simp, fun x hx => ?_, ?_, hf02, fun h => (by cases h), rfl⟩ ?_
 ·rw [List.getElem?_set] at hx
  by_cases h1 : fr = x
  ·rw [← h1]; exact Way.refl _
  ·rw [if_neg h1, List.getElem?_replicate] at hx
   split at hx <;> cases hx
 ·rw [List.getElem?_set, if_pos rfl, if_pos (by simpa using hfr)]
 rintro m e1 H3 ⟨bs, more, i8, hb3, hlen3, hs3, hfr3, hf3, hcl, rfl⟩ hoff
 have i1 : e1 1 = vl := (hoff 1 rfl).trans rfl
 have i7 : e1 7 = .slice (some ⟨H.size, 0, none⟩) n n := (hoff 7 rfl).trans rfl
 clear hoff
 cases more with
 | true =>
  repeat' (first|(with_reducible first|refine jA ?_|(refine hK _ _ ?_;clear hK K)|refine jJ fun K hK=>?_|refine jK ?_|refine jL ?_|refine jM ?_|refine jN ?_|refine jO ?_|refine jP ?_|refine jQ ?_|(refine jB ?_;clear hK K)|(refine jC ?_;clear hK K)|refine jD ?_|refine jE ?_|refine jG ?_|refine jH ?_|refine jI ?_)|((with_reducible refine jR ?hq ?_);case hq=>rfl)|((first|(with_reducible first|refine jS fun K hK=>?_|refine jT ?_|refine jU ?_)|((with_reducible refine jV ?hy fun K hK=>?_);case hy=>rfl));simp only [go_sem, Nat.reduceEqDiff, Nat.reduceAdd, Nat.reduceMul, Nat.reduceLeDiff, Nat.reduceLT, Int.reduceLT, Int.reduceLE, Int.reduceEq, Int.reduceNeg, Int.reduceToNat, Nat.reducePow, reduceIte, reduceCtorEq, i8])|((with_reducible first|refine jW ?hy ?_|refine jY ?hy ?_);case hy=>rfl)|((with_reducible first|refine jX ?hy ?_|refine jZ ?hy ?_);case hy=>rfl)|((with_reducible refine jF ?hy ?_);case hy=>decide))
  refine passL (hl.frame hf3 fun _ _ h => h) hBg hll hends hb3 hlen3 hs3 hfr3 i1 i7 rfl rfl ?_
  intro e4 H4 bs4 more4 j1 j7 j8 hb4 hlen4 hs4 hfr4 hf4 hle hm1 hm2
  repeat' (first|(with_reducible first|refine jA ?_|(refine hK _ _ ?_;clear hK K)|refine jJ fun K hK=>?_|refine jK ?_|refine jL ?_|refine jM ?_|refine jN ?_|refine jO ?_|refine jP ?_|refine jQ ?_|(refine jB ?_;clear hK K)|(refine jC ?_;clear hK K)|refine jD ?_|refine jE ?_|refine jG ?_|refine jH ?_|refine jI ?_)|((with_reducible refine jR ?hq ?_);case hq=>rfl)|((first|(with_reducible first|refine jS fun K hK=>?_|refine jT ?_|refine jU ?_)|((with_reducible refine jV ?hy fun K hK=>?_);case hy=>rfl));simp only [go_sem, Nat.reduceEqDiff, Nat.reduceAdd, Nat.reduceMul, Nat.reduceLeDiff, Nat.reduceLT, Int.reduceLT, Int.reduceLE, Int.reduceEq, Int.reduceNeg, Int.reduceToNat, Nat.reducePow, reduceIte, reduceCtorEq])|((with_reducible first|refine jW ?hy ?_|refine jY ?hy ?_);case hy=>rfl)|((with_reducible first|refine jX ?hy ?_|refine jZ ?hy ?_);case hy=>rfl)|((with_reducible refine jF ?hy ?_);case hy=>decide))
  refine loop_normal (m' := 2 * falses bs4 + (if more4 then 1 else 0)) ?_ ⟨bs4, more4, j8, hb4, hlen4, hs4, hfr4, hf3.trans' hf4 fun b hb (e : b = H.size) => (by omega), hm2, rfl⟩
  cases more4 with
  | true => have := hm1 rfl; simp; omega
  | false => simp; omega
 | false =>
  repeat' (first|(with_reducible first|refine jA ?_|(refine hK _ _ ?_;clear hK K)|refine jJ fun K hK=>?_|refine jK ?_|refine jL ?_|refine jM ?_|refine jN ?_|refine jO ?_|refine jP ?_|refine jQ ?_|(refine jB ?_;clear hK K)|(refine jC ?_;clear hK K)|refine jD ?_|refine jE ?_|refine jG ?_|refine jH ?_|refine jI ?_)|((with_reducible refine jR ?hq ?_);case hq=>rfl)|((first|(with_reducible first|refine jS fun K hK=>?_|refine jT ?_|refine jU ?_)|((with_reducible refine jV ?hy fun K hK=>?_);case hy=>rfl));simp only [go_sem, Nat.reduceEqDiff, Nat.reduceAdd, Nat.reduceMul, Nat.reduceLeDiff, Nat.reduceLT, Int.reduceLT, Int.reduceLE, Int.reduceEq, Int.reduceNeg, Int.reduceToNat, Nat.reducePow, reduceIte, reduceCtorEq, i8, i7])|((with_reducible first|refine jW ?hy ?_|refine jY ?hy ?_);case hy=>rfl)|((with_reducible first|refine jX ?hy ?_|refine jZ ?hy ?_);case hy=>rfl)|((with_reducible refine jF ?hy ?_);case hy=>decide))
  refine fin _ H.size bs hb3 hlen3 (fun x => ⟨fun hx => ⟨?_, hs3 x hx⟩, fun ⟨hx, hr⟩ => ?_⟩) (Nat.le_refl _) hf3
  ·have := (List.getElem?_eq_some_iff.1 hx).1
   omega
  ·exact reach_closed (P := fun y => bs[y]? = some true) hfr3 (fun p hp => by
    have := hcl rfl p hp
    rw [this]) hr
theorem pairFlat : flatS Try.prog 47 = some [(.int .i64, 0), (.int .i64, 1)] := by kernel_rfl
theorem pair_eq {op : BinOp} {ox oy : Operand} {a b c d : Int} {H : Heap} {K : Value → Prop} (hK : match op with | .eql => K (.bool (decide (a = c ∧ b = d))) | .neq => K (.bool (!decide (a = c ∧ b = d))) | _ => False) :
  binX Try.prog op 47 ox oy (.agg #[.int .i64 a, .int .i64 b]) (.agg #[.int .i64 c, .int .i64 d]) H K := by
 refine binX_flat pairFlat (b := decide (a = c ∧ b = d)) ?_ hK
 simp only [allEq, sEq, List.getElem?_toArray, List.getElem?_cons_zero, List.getElem?_cons_succ, if_true]
 have key : ∀ x y : Int, (x == y) = decide (x = y) := fun x y => by by_cases h : x = y <;> simp [h]
 simp only [key]
 by_cases h1 : a = c <;> by_cases h2 : b = d <;> simp [h1, h2]
theorem place_ok {u v : Nat} {B : Option Nat} {vl : Value} {l : List St} (hl : SR pairC 2 H B vl l) (hll : l.length ≤ 9223372036854775806) (fin : L (.int .i64 (match placeL l u v with | some k => (k : Int) | none => -1)) H) :
  CallsH Try.prog 18 #[vl, .int .i64 (u : Nat), .int .i64 (v : Nat)] H L := by
 obtain ⟨al, cl, rfl⟩ := hl.slice
 refine call18 (by simp) ?_
 simp only [Try.f18, Option.getD_some]
 repeat' (first|(with_reducible first|refine jA ?_|(refine hK _ _ ?_;clear hK K)|refine jJ fun K hK=>?_|refine jK ?_|refine jL ?_|refine jM ?_|refine jN ?_|refine jO ?_|refine jP ?_|refine jQ ?_|(refine jB ?_;clear hK K)|(refine jC ?_;clear hK K)|refine jD ?_|refine jE ?_|refine jG ?_|refine jH ?_|refine jI ?_)|((with_reducible refine jR ?hq ?_);case hq=>rfl)|((first|(with_reducible first|refine jS fun K hK=>?_|refine jT ?_|refine jU ?_)|((with_reducible refine jV ?hy fun K hK=>?_);case hy=>rfl));simp only [go_sem, Nat.reduceEqDiff, Nat.reduceAdd, Nat.reduceMul, Nat.reduceLeDiff, Nat.reduceLT, Int.reduceLT, Int.reduceLE, Int.reduceEq, Int.reduceNeg, Int.reduceToNat, Nat.reducePow, reduceIte, reduceCtorEq])|((with_reducible first|refine jW ?hy ?_|refine jY ?hy ?_);case hy=>rfl)|((with_reducible first|refine jX ?hy ?_|refine jZ ?hy ?_);case hy=>rfl)|((with_reducible refine jF ?hy ?_);case hy=>decide))
 refine x_loop (fun m e' H' => ∃ i : Nat, H' = H ∧ e' 7 = .int .i64 (i : Nat) ∧ i ≤ l.length ∧ (∀ j p, j < i → l[j]? = some p → ¬ (p = (u, v) ∨ p = (v, u))) ∧ m = l.length - i) l.length ⟨0, rfl, rfl, Nat.zero_le _, fun j p h => (by omega), rfl⟩ ?_
 rintro m e1 H1 ⟨i, rfl, i7, hi, hall, rfl⟩ hoff
 have i0 : e1 0 = .slice al l.length cl := (hoff 0 rfl).trans rfl
 have i1 : e1 1 = .int .i64 (u : Nat) := (hoff 1 rfl).trans rfl
 have i2 : e1 2 = .int .i64 (v : Nat) := (hoff 2 rfl).trans rfl
 clear hoff
 by_cases hlt : i < l.length
 ·obtain ⟨⟨p, q⟩, hp⟩ : ∃ p, l[i]? = some p := ⟨_, List.getElem?_eq_getElem hlt⟩
  obtain ⟨gl, cl', rfl, hv, _, hc⟩ := hl.at pairC_len hp
  simp only [Value.slice.injEq] at hv
  obtain ⟨rfl, _, rfl⟩ := hv
  have c0 := hc 0 (.int .i64 p) rfl
  have c1 := hc 1 (.int .i64 q) rfl
  rw [Nat.add_zero] at c0
  have ew : IntKind.i64.wrap ((i : Int) + 1) = ((i + 1 : Nat) : Int) := by rw [wrap_i64] <;> omega
  repeat' (first|(with_reducible first|refine jA ?_|(refine hK _ _ ?_;clear hK K)|refine jJ fun K hK=>?_|refine jK ?_|refine jL ?_|refine jM ?_|refine jN ?_|refine jO ?_|refine jP ?_|refine jQ ?_|(refine jB ?_;clear hK K)|(refine jC ?_;clear hK K)|refine jD ?_|refine jE ?_|refine jG ?_|refine jH ?_|refine jI ?_)|((with_reducible refine jR ?hq ?_);case hq=>rfl)|((first|(with_reducible first|refine jS fun K hK=>?_|refine jT ?_|refine jU ?_)|((with_reducible refine jV ?hy fun K hK=>?_);case hy=>rfl));simp only [go_sem, Nat.reduceEqDiff, Nat.reduceAdd, Nat.reduceMul, Nat.reduceLeDiff, Nat.reduceLT, Int.reduceLT, Int.reduceLE, Int.reduceEq, Int.reduceNeg, Int.reduceToNat, Nat.reducePow, reduceIte, reduceCtorEq, i0, i1, i2, i7, hlt, c0, c1])|((with_reducible first|refine jW ?hy ?_|refine jY ?hy ?_);case hy=>rfl)|((with_reducible first|refine jX ?hy ?_|refine jZ ?hy ?_);case hy=>rfl)|((with_reducible refine jF ?hy ?_);case hy=>decide))
  refine pair_eq ?_
  by_cases h1 : p = u ∧ q = v
  ·have t1 : ((p : Int) = (u : Int) ∧ (q : Int) = (v : Int)) = True := by simp; omega
   simp only [t1, decide_true]
   repeat' (first|(with_reducible first|refine jA ?_|(refine hK _ _ ?_;clear hK K)|refine jJ fun K hK=>?_|refine jK ?_|refine jL ?_|refine jM ?_|refine jN ?_|refine jO ?_|refine jP ?_|refine jQ ?_|(refine jB ?_;clear hK K)|(refine jC ?_;clear hK K)|refine jD ?_|refine jE ?_|refine jG ?_|refine jH ?_|refine jI ?_)|((with_reducible refine jR ?hq ?_);case hq=>rfl)|((first|(with_reducible first|refine jS fun K hK=>?_|refine jT ?_|refine jU ?_)|((with_reducible refine jV ?hy fun K hK=>?_);case hy=>rfl));simp only [go_sem, Nat.reduceEqDiff, Nat.reduceAdd, Nat.reduceMul, Nat.reduceLeDiff, Nat.reduceLT, Int.reduceLT, Int.reduceLE, Int.reduceEq, Int.reduceNeg, Int.reduceToNat, Nat.reducePow, reduceIte, reduceCtorEq, i7])|((with_reducible first|refine jW ?hy ?_|refine jY ?hy ?_);case hy=>rfl)|((with_reducible first|refine jX ?hy ?_|refine jZ ?hy ?_);case hy=>rfl)|((with_reducible refine jF ?hy ?_);case hy=>decide))
   have : placeL l u v = some i := by
    unfold placeL
    rw [List.findIdx?_eq_some_iff_getElem]
    refine ⟨hlt, ?_, fun j hj => ?_⟩
    ·rw [(List.getElem?_eq_some_iff.1 hp).2]
     simp [h1.1, h1.2]
    ·have := hall j _ hj (List.getElem?_eq_getElem (by omega))
     simpa using this
   rw [this] at fin
   exact fin
  ·have t1 : ((p : Int) = (u : Int) ∧ (q : Int) = (v : Int)) = False := by simp; omega
   simp only [t1, decide_false]
   repeat' (first|(with_reducible first|refine jA ?_|(refine hK _ _ ?_;clear hK K)|refine jJ fun K hK=>?_|refine jK ?_|refine jL ?_|refine jM ?_|refine jN ?_|refine jO ?_|refine jP ?_|refine jQ ?_|(refine jB ?_;clear hK K)|(refine jC ?_;clear hK K)|refine jD ?_|refine jE ?_|refine jG ?_|refine jH ?_|refine jI ?_)|((with_reducible refine jR ?hq ?_);case hq=>rfl)|((first|(with_reducible first|refine jS fun K hK=>?_|refine jT ?_|refine jU ?_)|((with_reducible refine jV ?hy fun K hK=>?_);case hy=>rfl));simp only [go_sem, Nat.reduceEqDiff, Nat.reduceAdd, Nat.reduceMul, Nat.reduceLeDiff, Nat.reduceLT, Int.reduceLT, Int.reduceLE, Int.reduceEq, Int.reduceNeg, Int.reduceToNat, Nat.reducePow, reduceIte, reduceCtorEq, i0, i1, i2, i7, hlt, c0, c1])|((with_reducible first|refine jW ?hy ?_|refine jY ?hy ?_);case hy=>rfl)|((with_reducible first|refine jX ?hy ?_|refine jZ ?hy ?_);case hy=>rfl)|((with_reducible refine jF ?hy ?_);case hy=>decide))
   refine pair_eq ?_
   by_cases h2 : p = v ∧ q = u
   ·have t2 : ((p : Int) = (v : Int) ∧ (q : Int) = (u : Int)) = True := by simp; omega
    simp only [t2, decide_true]
    repeat' (first|(with_reducible first|refine jA ?_|(refine hK _ _ ?_;clear hK K)|refine jJ fun K hK=>?_|refine jK ?_|refine jL ?_|refine jM ?_|refine jN ?_|refine jO ?_|refine jP ?_|refine jQ ?_|(refine jB ?_;clear hK K)|(refine jC ?_;clear hK K)|refine jD ?_|refine jE ?_|refine jG ?_|refine jH ?_|refine jI ?_)|((with_reducible refine jR ?hq ?_);case hq=>rfl)|((first|(with_reducible first|refine jS fun K hK=>?_|refine jT ?_|refine jU ?_)|((with_reducible refine jV ?hy fun K hK=>?_);case hy=>rfl));simp only [go_sem, Nat.reduceEqDiff, Nat.reduceAdd, Nat.reduceMul, Nat.reduceLeDiff, Nat.reduceLT, Int.reduceLT, Int.reduceLE, Int.reduceEq, Int.reduceNeg, Int.reduceToNat, Nat.reducePow, reduceIte, reduceCtorEq, i7])|((with_reducible first|refine jW ?hy ?_|refine jY ?hy ?_);case hy=>rfl)|((with_reducible first|refine jX ?hy ?_|refine jZ ?hy ?_);case hy=>rfl)|((with_reducible refine jF ?hy ?_);case hy=>decide))
    have : placeL l u v = some i := by
     unfold placeL
     rw [List.findIdx?_eq_some_iff_getElem]
     refine ⟨hlt, ?_, fun j hj => ?_⟩
     ·rw [(List.getElem?_eq_some_iff.1 hp).2]
      simp [h2.1, h2.2]
     ·have := hall j _ hj (List.getElem?_eq_getElem (by omega))
      simpa using this
    rw [this] at fin
    exact fin
   ·have t2 : ((p : Int) = (v : Int) ∧ (q : Int) = (u : Int)) = False := by simp; omega
    simp only [t2, decide_false]
    repeat' (first|(with_reducible first|refine jA ?_|(refine hK _ _ ?_;clear hK K)|refine jJ fun K hK=>?_|refine jK ?_|refine jL ?_|refine jM ?_|refine jN ?_|refine jO ?_|refine jP ?_|refine jQ ?_|(refine jB ?_;clear hK K)|(refine jC ?_;clear hK K)|refine jD ?_|refine jE ?_|refine jG ?_|refine jH ?_|refine jI ?_)|((with_reducible refine jR ?hq ?_);case hq=>rfl)|((first|(with_reducible first|refine jS fun K hK=>?_|refine jT ?_|refine jU ?_)|((with_reducible refine jV ?hy fun K hK=>?_);case hy=>rfl));simp only [go_sem, Nat.reduceEqDiff, Nat.reduceAdd, Nat.reduceMul, Nat.reduceLeDiff, Nat.reduceLT, Int.reduceLT, Int.reduceLE, Int.reduceEq, Int.reduceNeg, Int.reduceToNat, Nat.reducePow, reduceIte, reduceCtorEq, i7, ew])|((with_reducible first|refine jW ?hy ?_|refine jY ?hy ?_);case hy=>rfl)|((with_reducible first|refine jX ?hy ?_|refine jZ ?hy ?_);case hy=>rfl)|((with_reducible refine jF ?hy ?_);case hy=>decide))
    refine loop_normal (m' := l.length - (i + 1)) (by omega) ⟨i + 1, rfl, rfl, hlt, fun j p' hj hp' => ?_, rfl⟩
    rcases Nat.lt_succ_iff_lt_or_eq.1 hj with h | rfl
    ·exact hall j p' h hp'
    ·rw [hp] at hp'
     obtain rfl := Option.some.inj hp'
     simp only [Prod.mk.injEq]
     rintro (h | h)
     ·exact h1 h
     ·exact h2 h
 ·have t1 : (i < l.length) = False := by simp [hlt]
  repeat' (first|(with_reducible first|refine jA ?_|(refine hK _ _ ?_;clear hK K)|refine jJ fun K hK=>?_|refine jK ?_|refine jL ?_|refine jM ?_|refine jN ?_|refine jO ?_|refine jP ?_|refine jQ ?_|(refine jB ?_;clear hK K)|(refine jC ?_;clear hK K)|refine jD ?_|refine jE ?_|refine jG ?_|refine jH ?_|refine jI ?_)|((with_reducible refine jR ?hq ?_);case hq=>rfl)|((first|(with_reducible first|refine jS fun K hK=>?_|refine jT ?_|refine jU ?_)|((with_reducible refine jV ?hy fun K hK=>?_);case hy=>rfl));simp only [go_sem, Nat.reduceEqDiff, Nat.reduceAdd, Nat.reduceMul, Nat.reduceLeDiff, Nat.reduceLT, Int.reduceLT, Int.reduceLE, Int.reduceEq, Int.reduceNeg, Int.reduceToNat, Nat.reducePow, reduceIte, reduceCtorEq, i0, i7, t1])|((with_reducible first|refine jW ?hy ?_|refine jY ?hy ?_);case hy=>rfl)|((with_reducible first|refine jX ?hy ?_|refine jZ ?hy ?_);case hy=>rfl)|((with_reducible refine jF ?hy ?_);case hy=>decide))
  have : placeL l u v = none := by
   unfold placeL
   rw [List.findIdx?_eq_none_iff]
   intro p hp
   obtain ⟨j, hj, rfl⟩ := List.mem_iff_getElem.1 hp
   have := hall j _ (by omega) (List.getElem?_eq_getElem hj)
   simpa using this
  rw [this] at fin
  exact fin
theorem without_ok {B : Option Nat} {vl : Value} {l : List St} {k : Option Nat} (hl : SR pairC 2 H B vl l) (hll : l.length ≤ 1000) (hk : ∀ i, k = some i → i < l.length)
  (fin : ∀ H' B' v', SR pairC 2 H' B' v' (withoutL l k) → Fr (fun _ => False) H H' → (B' = B ∨ ∀ b, B' = some b → H.size ≤ b) → L v' H') :
  CallsH Try.prog 22 #[vl, .int .i64 (match k with | some i => (i : Int) | none => -1)] H L := by
 refine call22 (by simp) ?_
 simp only [Try.f22, Option.getD_some]
 cases k with
 | none =>
  have t1 : ((-1 : Int) < 0) = True := by simp
  repeat' (first|(with_reducible first|refine jA ?_|(refine hK _ _ ?_;clear hK K)|refine jJ fun K hK=>?_|refine jK ?_|refine jL ?_|refine jM ?_|refine jN ?_|refine jO ?_|refine jP ?_|refine jQ ?_|(refine jB ?_;clear hK K)|(refine jC ?_;clear hK K)|refine jD ?_|refine jE ?_|refine jG ?_|refine jH ?_|refine jI ?_)|((with_reducible refine jR ?hq ?_);case hq=>rfl)|((first|(with_reducible first|refine jS fun K hK=>?_|refine jT ?_|refine jU ?_)|((with_reducible refine jV ?hy fun K hK=>?_);case hy=>rfl));simp only [go_sem, Nat.reduceEqDiff, Nat.reduceAdd, Nat.reduceMul, Nat.reduceLeDiff, Nat.reduceLT, Int.reduceLT, Int.reduceLE, Int.reduceEq, Int.reduceNeg, Int.reduceToNat, Nat.reducePow, reduceIte, reduceCtorEq, t1])|((with_reducible first|refine jW ?hy ?_|refine jY ?hy ?_);case hy=>rfl)|((with_reducible first|refine jX ?hy ?_|refine jZ ?hy ?_);case hy=>rfl)|((with_reducible refine jF ?hy ?_);case hy=>decide))
  exact fin H B vl hl (Fr.refl _ _) (.inl rfl)
 | some i =>
  have hi := hk i rfl
  obtain ⟨g, c, rfl, rfl, hc⟩ := hl.open (by intro e; rw [e] at hi; cases hi)
  have t1 : ((i : Int) < 0) = False := by simp
  have t2 : (i ≤ c) = True := by simp; omega
  have ew : IntKind.i64.wrap ((i : Int) + 1) = ((i + 1 : Nat) : Int) := by rw [wrap_i64] <;> omega
  have rl1 := hl.readL pairC_len (o := 0) (m := i) (by omega)
  rw [Nat.zero_mul, List.drop_zero] at rl1
  repeat' (first|(with_reducible first|refine jA ?_|(refine hK _ _ ?_;clear hK K)|refine jJ fun K hK=>?_|refine jK ?_|refine jL ?_|refine jM ?_|refine jN ?_|refine jO ?_|refine jP ?_|refine jQ ?_|(refine jB ?_;clear hK K)|(refine jC ?_;clear hK K)|refine jD ?_|refine jE ?_|refine jG ?_|refine jH ?_|refine jI ?_)|((with_reducible refine jR ?hq ?_);case hq=>rfl)|((first|(with_reducible first|refine jS fun K hK=>?_|refine jT ?_|refine jU ?_)|((with_reducible refine jV ?hy fun K hK=>?_);case hy=>rfl));simp only [go_sem, Nat.reduceEqDiff, Nat.reduceAdd, Nat.reduceMul, Nat.reduceLeDiff, Nat.reduceLT, Int.reduceLT, Int.reduceLE, Int.reduceEq, Int.reduceNeg, Int.reduceToNat, Nat.reducePow, reduceIte, reduceCtorEq, t1, t2, ite_self, Nat.sub_zero])|((with_reducible first|refine jW ?hy ?_|refine jY ?hy ?_);case hy=>rfl)|((with_reducible first|refine jX ?hy ?_|refine jZ ?hy ?_);case hy=>rfl)|((with_reducible refine jF ?hy ?_);case hy=>decide))
  refine append_srs pairC_len pairC_plain elems40 tl47 (SR.nil pairC 2 H) (ys := l.take i) rl1 (by simp; omega) (by decide) (by simp; omega) rfl fun v1 H1 B1 h1 hf1 hB1 => ?_
  have hf1' : Fr (fun _ => False) H H1 := hf1.mono fun b _ h => by cases h
  have hl1 := hl.frame hf1' fun _ _ h => h
  have hB1' : ∀ b, B1 = some b → H.size ≤ b := fun b hb => by
   rcases hB1 with e | ⟨g', hg, hge⟩
   ·rw [e] at hb; cases hb
   ·rw [hg] at hb
    obtain rfl := Option.some.inj hb
    exact hge
  have t3 : (i + 1 ≤ l.length) = True := by simp; omega
  have t4 : (l.length ≤ c) = True := by simp [hc]
  have ending : ∀ (v2 : Value) (H2 : Heap) (B2 : Option Nat), SR pairC 2 H2 B2 v2 ([] ++ l.take i ++ l.drop (i + 1)) → Fr (fun b => B1 = some b) H1 H2 → (B2 = B1 ∨ ∃ g, B2 = some g ∧ H1.size ≤ g) → L v2 H2 := fun v2 H2 B2 h2 hf2 hB2 => by
   refine fin H2 B2 v2 (by simpa [withoutL] using h2) (hf1'.trans' hf2 fun b hb e => by have := hB1' b e; omega) (.inr fun b hb => ?_)
   rcases hB2 with e | ⟨g', hg, hge⟩
   ·exact hB1' b (by rw [← e]; exact hb)
   ·rw [hg] at hb
    obtain rfl := Option.some.inj hb
    have := hf1'.size; omega
  by_cases hcap : c = i + 1
  ·have t5 : (c = i + 1) = True := by simp [hcap]
   have hm : l.length - (i + 1) = 0 := by omega
   repeat' (first|(with_reducible first|refine jA ?_|(refine hK _ _ ?_;clear hK K)|refine jJ fun K hK=>?_|refine jK ?_|refine jL ?_|refine jM ?_|refine jN ?_|refine jO ?_|refine jP ?_|refine jQ ?_|(refine jB ?_;clear hK K)|(refine jC ?_;clear hK K)|refine jD ?_|refine jE ?_|refine jG ?_|refine jH ?_|refine jI ?_)|((with_reducible refine jR ?hq ?_);case hq=>rfl)|((first|(with_reducible first|refine jS fun K hK=>?_|refine jT ?_|refine jU ?_)|((with_reducible refine jV ?hy fun K hK=>?_);case hy=>rfl));simp only [go_sem, Nat.reduceEqDiff, Nat.reduceAdd, Nat.reduceMul, Nat.reduceLeDiff, Nat.reduceLT, Int.reduceLT, Int.reduceLE, Int.reduceEq, Int.reduceNeg, Int.reduceToNat, Nat.reducePow, reduceIte, reduceCtorEq, ew, t3, t4, t5])|((with_reducible first|refine jW ?hy ?_|refine jY ?hy ?_);case hy=>rfl)|((with_reducible first|refine jX ?hy ?_|refine jZ ?hy ?_);case hy=>rfl)|((with_reducible refine jF ?hy ?_);case hy=>decide))
   refine append_srs (o := 0) pairC_len pairC_plain elems40 tl47 h1 (ys := l.drop (i + 1)) (by rw [hm, List.drop_of_length_le (by omega), Nat.zero_mul]; rfl) (by simp) (by decide) (by simp; omega) rfl fun v2 H2 B2 h2 hf2 hB2 => ?_
   repeat' (first|(with_reducible first|refine jA ?_|(refine hK _ _ ?_;clear hK K)|refine jJ fun K hK=>?_|refine jK ?_|refine jL ?_|refine jM ?_|refine jN ?_|refine jO ?_|refine jP ?_|refine jQ ?_|(refine jB ?_;clear hK K)|(refine jC ?_;clear hK K)|refine jD ?_|refine jE ?_|refine jG ?_|refine jH ?_|refine jI ?_)|((with_reducible refine jR ?hq ?_);case hq=>rfl)|((first|(with_reducible first|refine jS fun K hK=>?_|refine jT ?_|refine jU ?_)|((with_reducible refine jV ?hy fun K hK=>?_);case hy=>rfl));simp only [go_sem, Nat.reduceEqDiff, Nat.reduceAdd, Nat.reduceMul, Nat.reduceLeDiff, Nat.reduceLT, Int.reduceLT, Int.reduceLE, Int.reduceEq, Int.reduceNeg, Int.reduceToNat, Nat.reducePow, reduceIte, reduceCtorEq])|((with_reducible first|refine jW ?hy ?_|refine jY ?hy ?_);case hy=>rfl)|((with_reducible first|refine jX ?hy ?_|refine jZ ?hy ?_);case hy=>rfl)|((with_reducible refine jF ?hy ?_);case hy=>decide))
   exact ending v2 H2 B2 h2 hf2 hB2
  ·have t5 : (c = i + 1) = False := by simp [hcap]
   have rl2 := hl1.readL pairC_len (o := i + 1) (m := l.length - (i + 1)) (by omega)
   rw [List.take_of_length_le (by simp)] at rl2
   repeat' (first|(with_reducible first|refine jA ?_|(refine hK _ _ ?_;clear hK K)|refine jJ fun K hK=>?_|refine jK ?_|refine jL ?_|refine jM ?_|refine jN ?_|refine jO ?_|refine jP ?_|refine jQ ?_|(refine jB ?_;clear hK K)|(refine jC ?_;clear hK K)|refine jD ?_|refine jE ?_|refine jG ?_|refine jH ?_|refine jI ?_)|((with_reducible refine jR ?hq ?_);case hq=>rfl)|((first|(with_reducible first|refine jS fun K hK=>?_|refine jT ?_|refine jU ?_)|((with_reducible refine jV ?hy fun K hK=>?_);case hy=>rfl));simp only [go_sem, Nat.reduceEqDiff, Nat.reduceAdd, Nat.reduceMul, Nat.reduceLeDiff, Nat.reduceLT, Int.reduceLT, Int.reduceLE, Int.reduceEq, Int.reduceNeg, Int.reduceToNat, Nat.reducePow, reduceIte, reduceCtorEq, ew, t3, t4, t5])|((with_reducible first|refine jW ?hy ?_|refine jY ?hy ?_);case hy=>rfl)|((with_reducible first|refine jX ?hy ?_|refine jZ ?hy ?_);case hy=>rfl)|((with_reducible refine jF ?hy ?_);case hy=>decide))
   refine append_srs pairC_len pairC_plain elems40 tl47 h1 (ys := l.drop (i + 1)) rl2 (by simp) (by decide) (by simp; omega) rfl fun v2 H2 B2 h2 hf2 hB2 => ?_
   repeat' (first|(with_reducible first|refine jA ?_|(refine hK _ _ ?_;clear hK K)|refine jJ fun K hK=>?_|refine jK ?_|refine jL ?_|refine jM ?_|refine jN ?_|refine jO ?_|refine jP ?_|refine jQ ?_|(refine jB ?_;clear hK K)|(refine jC ?_;clear hK K)|refine jD ?_|refine jE ?_|refine jG ?_|refine jH ?_|refine jI ?_)|((with_reducible refine jR ?hq ?_);case hq=>rfl)|((first|(with_reducible first|refine jS fun K hK=>?_|refine jT ?_|refine jU ?_)|((with_reducible refine jV ?hy fun K hK=>?_);case hy=>rfl));simp only [go_sem, Nat.reduceEqDiff, Nat.reduceAdd, Nat.reduceMul, Nat.reduceLeDiff, Nat.reduceLT, Int.reduceLT, Int.reduceLE, Int.reduceEq, Int.reduceNeg, Int.reduceToNat, Nat.reducePow, reduceIte, reduceCtorEq])|((with_reducible first|refine jW ?hy ?_|refine jY ?hy ?_);case hy=>rfl)|((with_reducible first|refine jX ?hy ?_|refine jZ ?hy ?_);case hy=>rfl)|((with_reducible refine jF ?hy ?_);case hy=>decide))
   exact ending v2 H2 B2 h2 hf2 hB2
end
end Go.Proofs.Ytnlafhnbakipmaa
namespace Go.To
open Go Go.Hp Go.Sp Go.Proofs.Ytnlafhnbakipmaa
set_option linter.unusedVariables false
section
variable {Q : Tq}
theorem cut_rows (hok : Q.Ok) {u v : Nat} {x y : St} (hu : u < Q.n) (huv : u ≠ v) (hxy : (x = (u, v) ∧ y = (v, u)) ∨ (x = (v, u) ∧ y = (u, v))) {l1 m l2 : List St} (hl : Q.row u = l1 ++ x :: (m ++ y :: l2)) {a : Nat} (ha : a < Q.n) (b : Nat) :
  (a, b) ∈ (Q.cutTo u v m (l1 ++ l2)).row a ↔ (a, b) ∈ Q.row a ∧ (a, b) ≠ x ∧ (a, b) ≠ y := by
 have hnn := hok.nd u hu
 rw [hl] at hnn
 have hxu : x ∈ Q.row u := by rw [hl]; simp
 have hyu : y ∈ Q.row u := by rw [hl]; simp
 have hxne : x.1 ≠ x.2 := by rcases hxy with ⟨rfl, rfl⟩ | ⟨rfl, rfl⟩ <;> first | exact huv | exact huv.symm
 have hyne : y.1 ≠ y.2 := by rcases hxy with ⟨rfl, rfl⟩ | ⟨rfl, rfl⟩ <;> first | exact huv.symm | exact huv
 have nx : x ∉ l1 ∧ x ∉ m ∧ x ∉ l2 ∧ x ≠ y := by
  simp only [List.nodup_append, List.nodup_cons, List.mem_append, List.mem_cons, not_or] at hnn
  exact ⟨fun hm => hnn.2.2 _ hm _ (.inl rfl) rfl, hnn.2.1.1.1, hnn.2.1.1.2.2, hnn.2.1.1.2.1⟩
 have ny : y ∉ l1 ∧ y ∉ m ∧ y ∉ l2 := by
  simp only [List.nodup_append, List.nodup_cons, List.mem_append, List.mem_cons, not_or] at hnn
  exact ⟨fun hm => hnn.2.2 _ hm _ (.inr (.inr (.inl rfl))) rfl, fun hm => hnn.2.1.2.2.2 _ hm _ (.inl rfl) rfl, hnn.2.1.2.2.1.1⟩
 have htour : Tour m ∧ Tour (l1 ++ l2) := by
  have ht := hok.tour u hu
  rw [hl] at ht
  have hn2 := hok.nd u hu
  rw [hl] at hn2
  rcases hxy with ⟨rfl, rfl⟩ | ⟨rfl, rfl⟩
  ·exact Tour.cut huv (by simpa using hn2) (by simpa using ht)
  ·exact Tour.cut huv.symm (by simpa using hn2) (by simpa using ht)
 have hap : ∀ z, z ∈ m → z ∉ l1 ++ l2 := fun z hz ho => by
  simp only [List.nodup_append, List.nodup_cons, List.mem_append, List.mem_cons, not_or] at hnn
  rcases List.mem_append.1 ho with ho | ho
  ·exact hnn.2.2 _ ho _ (.inr (.inl hz)) rfl
  ·exact hnn.2.1.2.2.2 _ hz _ (.inr ho) rfl
 have memu : ∀ z, z ∈ Q.row u ↔ z ∈ m ∨ z ∈ l1 ++ l2 ∨ z = x ∨ z = y := fun z => by
  rw [hl]
  simp only [List.mem_append, List.mem_cons]
  constructor
  ·rintro (h | h | h | h | h)
   ·exact .inr (.inl (.inl h))
   ·exact .inr (.inr (.inl h))
   ·exact .inl h
   ·exact .inr (.inr (.inr h))
   ·exact .inr (.inl (.inr h))
  ·rintro (h | (h | h) | h | h)
   ·exact .inr (.inr (.inl h))
   ·exact .inl h
   ·exact .inr (.inr (.inr (.inr h)))
   ·exact .inr (.inl h)
   ·exact .inr (.inr (.inr (.inl h)))
 have stopne : ∀ w : Nat, (w, w) ≠ x ∧ (w, w) ≠ y := fun w => ⟨fun e => hxne (by rw [← e]), fun e => hyne (by rw [← e])⟩
 have hrow : (Q.cutTo u v m (l1 ++ l2)).row a = if (a, a) ∈ l1 ++ l2 then l1 ++ l2 else if (a, a) ∈ m then m else Q.row a := rfl
 by_cases hau : (a, a) ∈ Q.row u
 ·have e1 := (hok.same u hu a hau).2
  rw [e1, memu, hrow]
  rcases (memu _).1 hau with h1 | h1 | h1 | h1
  ·rw [if_neg (hap _ h1), if_pos h1]
   constructor
   ·intro hm
    exact ⟨.inl hm, fun e => nx.2.1 (by rw [← e]; exact hm), fun e => ny.2.1 (by rw [← e]; exact hm)⟩
   ·rintro ⟨h | h | h | h, h2, h3⟩
    ·exact h
    ·exact absurd (htour.2.ends h).1 (hap _ h1)
    ·exact absurd h h2
    ·exact absurd h h3
  ·rw [if_pos h1]
   constructor
   ·intro hm
    refine ⟨.inr (.inl hm), fun e => ?_, fun e => ?_⟩
    ·rw [e] at hm
     rcases List.mem_append.1 hm with h | h
     ·exact nx.1 h
     ·exact nx.2.2.1 h
    ·rw [e] at hm
     rcases List.mem_append.1 hm with h | h
     ·exact ny.1 h
     ·exact ny.2.2 h
   ·rintro ⟨h | h | h | h, h2, h3⟩
    ·exact absurd h1 (hap _ (htour.1.ends h).1)
    ·exact h
    ·exact absurd h h2
    ·exact absurd h h3
  ·exact absurd h1 (stopne a).1
  ·exact absurd h1 (stopne a).2
 ·rw [hrow, if_neg (fun h => hau ((memu _).2 (.inr (.inl h)))), if_neg (fun h => hau ((memu _).2 (.inl h)))]
  constructor
  ·intro hm
   refine ⟨hm, fun e => ?_, fun e => ?_⟩
   ·rw [e] at hm
    have e1 := hok.row_eq ha hu hm hxu
    exact hau (by rw [← e1]; exact hok.self a ha)
   ·rw [e] at hm
    have e1 := hok.row_eq ha hu hm hyu
    exact hau (by rw [← e1]; exact hok.self a ha)
  ·exact fun h => h.1
def OneL (l : List St) : Prop := l.Pairwise fun p q => p ≠ q ∧ p ≠ (q.2, q.1)
structure Bk (Q : Tq) (l : List St) : Prop where
 mem : ∀ p ∈ l, p.1 < Q.n ∧ p.1 ≠ p.2 ∧ (p.1, p.2) ∈ Q.row p.1
 all : ∀ a b, a < Q.n → a ≠ b → (a, b) ∈ Q.row a → (a, b) ∈ l ∨ (b, a) ∈ l
 one : OneL l
theorem OneL.erase {l : List St} (h : OneL l) (k : Option Nat) : OneL (withoutL l k) := by
 cases k with
 | none => exact h
 | some k =>
  have hs : (l.take k ++ l.drop (k + 1)).Sublist l := by
   have h1 : (l.take k ++ l.drop k) = l := List.take_append_drop _ _
   conv => rhs; rw [← h1]
   refine List.Sublist.append (List.Sublist.refl _) ?_
   rw [show k + 1 = k + 1 from rfl, ← List.drop_drop]
   exact List.drop_sublist _ _
  exact h.sublist hs
theorem mem_without {l : List St} (h : OneL l) {u v k : Nat} (hk : placeL l u v = some k) (p : St) : p ∈ withoutL l (some k) ↔ p ∈ l ∧ p ≠ (u, v) ∧ p ≠ (v, u) := by
 obtain ⟨q, hq, hq2, hlt⟩ := placeL_some hk
 have hl : l = l.take k ++ q :: l.drop (k + 1) := by
  conv => lhs; rw [← List.take_append_drop k l]
  rw [List.drop_eq_getElem_cons hlt, (List.getElem?_eq_some_iff.1 hq).2]
 have h' := h
 rw [hl] at h'
 unfold OneL at h'
 rw [List.pairwise_append, List.pairwise_cons] at h'
 obtain ⟨_, ⟨h2, _⟩, h3⟩ := h'
 have apart : ∀ z, z ∈ l.take k ∨ z ∈ l.drop (k + 1) → z ≠ (u, v) ∧ z ≠ (v, u) := fun z hz => by
  have hz2 : z ≠ q ∧ z ≠ (q.2, q.1) := by
   rcases hz with hz | hz
   ·exact h3 z hz q (.head _)
   ·have := h2 z hz
    refine ⟨fun e => this.1 e.symm, fun e => this.2 ?_⟩
    rw [e]
  rcases hq2 with rfl | rfl
  ·exact hz2
  ·exact ⟨hz2.2, hz2.1⟩
 have hm : p ∈ l ↔ p ∈ l.take k ∨ p = q ∨ p ∈ l.drop (k + 1) := by
  conv => lhs; rw [hl]
  rw [List.mem_append, List.mem_cons]
 show p ∈ l.take k ++ l.drop (k + 1) ↔ _
 rw [List.mem_append, hm]
 constructor
 ·rintro (hp | hp)
  ·exact ⟨.inl hp, apart p (.inl hp)⟩
  ·exact ⟨.inr (.inr hp), apart p (.inr hp)⟩
 ·rintro ⟨hp | hp | hp, h4, h5⟩
  ·exact .inl hp
  ·exfalso
   rcases hq2 with e | e
   ·exact h4 (by rw [hp, e])
   ·exact h5 (by rw [hp, e])
  ·exact .inr hp
theorem Bk.ends {l : List St} (h : Bk Q l) (hok : Q.Ok) : ∀ p ∈ l, p.1 < Q.n ∧ p.2 < Q.n := fun p hp => by
 obtain ⟨h1, _, h3⟩ := h.mem p hp
 exact ⟨h1, (hok.of_mem h1 h3).2.1⟩
theorem Bk.reach {l : List St} (h : Bk Q l) (hok : Q.Ok) {u v : Nat} (hu : u < Q.n) (hv : v < Q.n) : RchL l u v ↔ (v, v) ∈ Q.row u := by
 constructor
 ·intro hr
  have : v < Q.n ∧ Q.row v = Q.row u := by
   clear hv
   induction hr with
   | refl => exact ⟨hu, rfl⟩
   | step _ e ih =>
    obtain ⟨i1, i2⟩ := ih
    rcases e with e | e
    ·obtain ⟨_, _, g3⟩ := h.mem _ e
     obtain ⟨_, k2, _, k4⟩ := hok.of_mem i1 g3
     exact ⟨k2, by rw [k4]; exact i2⟩
    ·obtain ⟨g1, _, g3⟩ := h.mem _ e
     obtain ⟨_, _, _, k4⟩ := hok.of_mem g1 g3
     exact ⟨g1, by simp only at g1 k4; rw [← k4]; exact i2⟩
  rw [← this.2]
  exact hok.self v hv
 ·intro hm
  refine ((hok.tour u hu).way (hok.self u hu) hm).mono fun a b ⟨hab, hm⟩ => ?_
  obtain ⟨g1, _, g3, _⟩ := hok.of_mem hu hm
  exact h.all a b g1 hab (by rw [g3]; exact hm)
theorem Bk.place {l : List St} (h : Bk Q l) (hok : Q.Ok) {u v : Nat} (hu : u < Q.n) (hv : v < Q.n) : (∃ k, placeL l u v = some k) ↔ u ≠ v ∧ (u, v) ∈ Q.row u := by
 constructor
 ·rintro ⟨k, hk⟩
  obtain ⟨p, hp, hp2, _⟩ := placeL_some hk
  obtain ⟨g1, g2, g3⟩ := h.mem p (List.mem_of_getElem? hp)
  rcases hp2 with rfl | rfl
  ·exact ⟨g2, g3⟩
  ·refine ⟨fun e => g2 e.symm, ?_⟩
   obtain ⟨_, _, _, k4⟩ := hok.of_mem g1 g3
   simp only at g3 k4
   rw [k4]
   exact (hok.tour v hv).pair g3
 ·rintro ⟨h1, h2⟩
  cases hk : placeL l u v with
  | some k => exact ⟨k, rfl⟩
  | none =>
   obtain ⟨n1, n2⟩ := placeL_none.1 hk
   rcases h.all u v hu h1 h2 with h | h
   ·exact absurd h n1
   ·exact absurd h n2
theorem Bk.start (n : Nat) : Bk (Tq.new n) [] where
 mem _ h := by cases h
 all a b _ hab hm := by
  simp only [Tq.new, List.mem_singleton, Prod.mk.injEq] at hm
  exact absurd hm.2.symm hab
 one := List.Pairwise.nil
theorem Bk.link {l : List St} (h : Bk Q l) (hok : Q.Ok) {u v : Nat} (hu : u < Q.n) (hv : v < Q.n) (hne : (v, v) ∉ Q.row u) : Bk (Q.lay (Q.linkRow u v)) (l ++ [(u, v)]) := by
 have huv : u ≠ v := by rintro rfl; exact hne (hok.self u hu)
 have mem := fun x => Tq.mem_linkRow (Q := Q) (v := v) (hok.self u hu) (x := x)
 have hrow : ∀ a, (Q.lay (Q.linkRow u v)).row a = if (a, a) ∈ Q.linkRow u v then Q.linkRow u v else Q.row a := fun _ => rfl
 have huu : (u, u) ∈ Q.linkRow u v := (mem _).2 (.inl (hok.self u hu))
 have hvv : (v, v) ∈ Q.linkRow u v := (mem _).2 (.inr (.inl (hok.self v hv)))
 refine ⟨fun p hp => ?_, fun a b ha hab hm => ?_, ?_⟩
 ·rcases List.mem_append.1 hp with hp | hp
  ·obtain ⟨g1, g2, g3⟩ := h.mem p hp
   refine ⟨g1, g2, ?_⟩
   rw [hrow]
   split
   ·rename_i hm
    rcases (mem _).1 hm with k | k | k | k
    ·exact (mem _).2 (.inl (by rw [← (hok.same u hu _ k).2]; exact g3))
    ·exact (mem _).2 (.inr (.inl (by rw [← (hok.same v hv _ k).2]; exact g3)))
    ·simp only [Prod.mk.injEq] at k; exact absurd (k.1.symm.trans k.2) huv
    ·simp only [Prod.mk.injEq] at k; exact absurd (k.2.symm.trans k.1) huv
   ·exact g3
  ·obtain rfl := List.mem_singleton.1 hp
   refine ⟨hu, huv, ?_⟩
   rw [hrow]
   simp only
   rw [if_pos huu]
   exact (mem _).2 (.inr (.inr (.inl rfl)))
 ·have ha : a < Q.n := ha
  have old : (a, b) ∈ Q.row a → (a, b) ∈ l ++ [(u, v)] ∨ (b, a) ∈ l ++ [(u, v)] := fun hm => (h.all a b ha hab hm).imp (fun h => List.mem_append_left _ h) fun h => List.mem_append_left _ h
  rw [hrow] at hm
  split at hm
  ·rcases (mem _).1 hm with k | k | k | k
   ·exact old (by rw [(hok.of_mem hu k).2.2.1]; exact k)
   ·exact old (by rw [(hok.of_mem hv k).2.2.1]; exact k)
   ·exact .inl (by rw [k]; simp)
   ·obtain ⟨rfl, rfl⟩ := Prod.mk.inj k
    exact .inr (by simp)
  ·exact old hm
 ·unfold OneL
  rw [List.pairwise_append]
  refine ⟨h.one, List.pairwise_singleton _ _, fun p hp q hq => ?_⟩
  obtain rfl := List.mem_singleton.1 hq
  obtain ⟨g1, g2, g3⟩ := h.mem p hp
  refine ⟨?_, ?_⟩
  ·rintro rfl
   exact hne (((hok.tour u hu).ends g3).2)
  ·rintro rfl
   simp only at g3
   obtain ⟨_, _, _, k4⟩ := hok.of_mem hv g3
   exact hne (by rw [k4]; exact hok.self v hv)
theorem Bk.cut {l : List St} (h : Bk Q l) (hok : Q.Ok) {u v k : Nat} {x y : St} (hu : u < Q.n) (huv : u ≠ v) (hk : placeL l u v = some k) (hxy : (x = (u, v) ∧ y = (v, u)) ∨ (x = (v, u) ∧ y = (u, v))) {l1 m l2 : List St} (hl : Q.row u = l1 ++ x :: (m ++ y :: l2)) :
  Bk (Q.cutTo u v m (l1 ++ l2)) (withoutL l (some k)) := by
 have hp : ∀ z : St, (z ≠ x ∧ z ≠ y) ↔ (z ≠ (u, v) ∧ z ≠ (v, u)) := fun z => by
  rcases hxy with ⟨rfl, rfl⟩ | ⟨rfl, rfl⟩
  ·exact Iff.rfl
  ·exact and_comm
 refine ⟨fun p hpm => ?_, fun a b ha hab hm => ?_, h.one.erase _⟩
 ·rw [mem_without h.one hk] at hpm
  obtain ⟨g1, g2, g3⟩ := h.mem p hpm.1
  exact ⟨g1, g2, (cut_rows hok hu huv hxy hl g1 p.2).2 ⟨g3, (hp _).2 hpm.2⟩⟩
 ·obtain ⟨g1, g2⟩ := (cut_rows hok hu huv hxy hl ha b).1 hm
  have g3 := (hp _).1 g2
  simp only [mem_without h.one hk]
  refine (h.all a b ha hab g1).imp (fun h => ⟨h, g3⟩) fun h => ⟨h, fun e => g3.2 ?_, fun e => g3.1 ?_⟩
  ·obtain ⟨rfl, rfl⟩ := Prod.mk.inj e; rfl
  ·obtain ⟨rfl, rfl⟩ := Prod.mk.inj e; rfl
structure Mk (Q : Tq) (on : List St) : Prop where
 sub : ∀ p ∈ on, Q.em p.1 p.2 = true
 all : ∀ a b, Q.em a b = true → (a, b) ∈ on ∨ (b, a) ∈ on
 one : OneL on
theorem Mk.none {on : List St} (h : Mk Q on) (hok : Q.Ok) {u v : Nat} (hno : ¬ (u ≠ v ∧ (u, v) ∈ Q.row u)) : placeL on u v = none := by
 rw [placeL_none]
 have e : Q.em u v = false := by
  cases e : Q.em u v with
  | false => rfl
  | true => exact absurd (hok.em u v e).2 hno
 refine ⟨fun hm => ?_, fun hm => ?_⟩
 ·have := h.sub _ hm
  simp only at this
  rw [e] at this; cases this
 ·have := h.sub _ hm
  simp only at this
  rw [hok.sym, e] at this; cases this
theorem Mk.gone {Q' : Tq} {on : List St} (h : Mk Q on) {u v : Nat} (hem : ∀ a b, Q'.em a b = if (a, b) = (u, v) ∨ (a, b) = (v, u) then false else Q.em a b) : Mk Q' (withoutL on (placeL on u v)) := by
 have hm : ∀ p, p ∈ withoutL on (placeL on u v) ↔ p ∈ on ∧ p ≠ (u, v) ∧ p ≠ (v, u) := fun p => by
  cases hk : placeL on u v with
  | some k => exact mem_without h.one hk p
  | none =>
   obtain ⟨n1, n2⟩ := placeL_none.1 hk
   exact ⟨fun hp => ⟨hp, fun e => n1 (by rw [← e]; exact hp), fun e => n2 (by rw [← e]; exact hp)⟩, fun hp => hp.1⟩
 refine ⟨fun p hp => ?_, fun a b hab => ?_, h.one.erase _⟩
 ·rw [hm] at hp
  rw [hem, if_neg (by rintro (e | e); exact hp.2.1 e; exact hp.2.2 e)]
  exact h.sub p hp.1
 ·rw [hem] at hab
  split at hab
  ·cases hab
  ·rename_i hne
   rw [not_or] at hne
   rw [hm, hm]
   refine (h.all a b hab).imp (fun g => ⟨g, hne⟩) fun g => ⟨g, fun e => hne.2 ?_, fun e => hne.1 ?_⟩
   ·obtain ⟨rfl, rfl⟩ := Prod.mk.inj e; rfl
   ·obtain ⟨rfl, rfl⟩ := Prod.mk.inj e; rfl
theorem Mk.mark {Q' : Tq} {on : List St} (h : Mk Q on) {u v : Nat} (huv : u ≠ v) (hem : ∀ a b, Q'.em a b = if (a, b) = (u, v) ∨ (a, b) = (v, u) then true else Q.em a b) : Mk Q' (withoutL on (placeL on u v) ++ [(u, v)]) := by
 have hg := Mk.gone (Q' := { Q with em := fun a b => if (a, b) = (u, v) ∨ (a, b) = (v, u) then false else Q.em a b }) h fun _ _ => rfl
 have hnot : ∀ p ∈ withoutL on (placeL on u v), p ≠ (u, v) ∧ p ≠ (v, u) := fun p hp => by
  have := hg.sub p hp
  simp only at this
  split at this
  ·cases this
  ·rename_i hne
   rw [not_or] at hne
   exact hne
 refine ⟨fun p hp => ?_, fun a b hab => ?_, ?_⟩
 ·rw [hem]
  rcases List.mem_append.1 hp with hp | hp
  ·have := hg.sub p hp
   simp only at this
   split at this
   ·cases this
   ·rename_i hne; rw [if_neg hne]; exact this
  ·obtain rfl := List.mem_singleton.1 hp
   exact if_pos (.inl rfl)
 ·rw [hem] at hab
  by_cases hp : (a, b) = (u, v) ∨ (a, b) = (v, u)
  ·rcases hp with e | e
   ·exact .inl (by rw [e]; simp)
   ·obtain ⟨rfl, rfl⟩ := Prod.mk.inj e
    exact .inr (by simp)
  ·rw [if_neg hp] at hab
   refine (hg.all a b ?_).imp (fun g => List.mem_append_left _ g) fun g => List.mem_append_left _ g
   simp only
   rw [if_neg hp]; exact hab
 ·unfold OneL
  rw [List.pairwise_append]
  refine ⟨hg.one, List.pairwise_singleton _ _, fun p hp q hq => ?_⟩
  obtain rfl := List.mem_singleton.1 hq
  exact hnot p hp
end
end Go.To
namespace Go.Proofs.Ytnlafhnbakipmaa
open Go Go.Hp Go.Sp Go.To
set_option linter.all false
set_option maxRecDepth 100000
set_option maxHeartbeats 1600000
structure TOp where
 kind : Int
 u : Int
 v : Int
 x : Int
 on : Bool
 other : Bool
structure TOp.Fit (o : TOp) : Prop where
 k : -9223372036854775808 ≤ o.kind ∧ o.kind ≤ 9223372036854775807
 u : -9223372036854775808 ≤ o.u ∧ o.u ≤ 9223372036854775807
 v : -9223372036854775808 ≤ o.v ∧ o.v ≤ 9223372036854775807
 x : -9223372036854775808 ≤ o.x ∧ o.x ≤ 9223372036854775807
def TOp.cells (o : TOp) : List Value := [.int .i64 o.kind, .int .i64 o.u, .int .i64 o.v, .int .i64 o.x, .bool o.on, .bool o.other]
def InTOps (H : Heap) (a : Option Addr) (len : Nat) (zs : Nat → TOp) : Prop :=
 ∀ i, i < len → ∃ p : Addr, a = some p ∧ (hcell H (p.add (i * 6)) = some (.int .i64 (zs i).kind) ∧ hcell H ⟨(p.add (i * 6)).block, (p.add (i * 6)).off + 1, none⟩ = some (.int .i64 (zs i).u) ∧ hcell H ⟨(p.add (i * 6)).block, (p.add (i * 6)).off + 2, none⟩ = some (.int .i64 (zs i).v) ∧
  hcell H ⟨(p.add (i * 6)).block, (p.add (i * 6)).off + 3, none⟩ = some (.int .i64 (zs i).x) ∧ hcell H ⟨(p.add (i * 6)).block, (p.add (i * 6)).off + 4, none⟩ = some (.bool (zs i).on) ∧ hcell H ⟨(p.add (i * 6)).block, (p.add (i * 6)).off + 5, none⟩ = some (.bool (zs i).other)) ∧ (zs i).Fit
theorem InTOps.frame {H H' : Heap} {a : Option Addr} {len : Nat} {zs : Nat → TOp} (h : InTOps H a len zs) (hf : Fr (fun _ => False) H H') : InTOps H' a len zs := fun i hi => by
 obtain ⟨p, h1, ⟨c0, c1, c2, c3, c4, c5⟩, h5⟩ := h i hi
 have mv : ∀ {a : Addr} {v : Value}, hcell H a = some v → hcell H' a = some v := fun h => by rw [hf.cell (hcell_lt h) (fun h => h)]; exact h
 exact ⟨p, h1, ⟨mv c0, mv c1, mv c2, mv c3, mv c4, mv c5⟩, h5⟩
theorem store6 {H : Heap} {b : Nat} {x0 x1 x2 x3 x4 x5 : Value} (hb : Blk H b [x0, x1, x2, x3, x4, x5]) (v0 v1 v2 v3 v4 v5 : Value) :
  Blk (hset (hset (hset (hset (hset (hset H ⟨b, 0, none⟩ v0) ⟨b, 1, none⟩ v1) ⟨b, 2, none⟩ v2) ⟨b, 3, none⟩ v3) ⟨b, 4, none⟩ v4) ⟨b, 5, none⟩ v5) b [v0, v1, v2, v3, v4, v5] ∧
   Fr (· = b) H (hset (hset (hset (hset (hset (hset H ⟨b, 0, none⟩ v0) ⟨b, 1, none⟩ v1) ⟨b, 2, none⟩ v2) ⟨b, 3, none⟩ v3) ⟨b, 4, none⟩ v4) ⟨b, 5, none⟩ v5) :=
 ⟨(((((hb.set_same 0 _).set_same 1 _).set_same 2 _).set_same 3 _).set_same 4 _).set_same 5 _,
  Fr.set (S := (· = b)) (Fr.set (S := (· = b)) (Fr.set (S := (· = b)) (Fr.set (S := (· = b)) (Fr.set (S := (· = b)) (Fr.set (S := (· = b)) (Fr.refl _ H) (.inl rfl) _) (.inl rfl) _) (.inl rfl) _) (.inl rfl) _) (.inl rfl) _) (.inl rfl) _⟩
structure MkS (H0 H : Heap) (t : Nat) (T : Nat → Prop) (Q : Tq) (Bl : Option Nat) (vl : Value) (l : List St) (Bo : Option Nat) (vo : Value) (on : List St) : Prop where
 ts : TS H0 H t T Q
 l : SR pairC 2 H Bl vl l
 o : SR pairC 2 H Bo vo on
 lb : ∀ b, Bl = some b → H0.size ≤ b ∧ ¬ T b
 ob : ∀ b, Bo = some b → H0.size ≤ b ∧ ¬ T b
 ap : ∀ b, Bl = some b → Bo ≠ some b
section
variable {H0 H H' : Heap} {t : Nat} {T T' : Nat → Prop} {Q Q' : Tq} {Bl Bo B' : Option Nat} {vl vo v' : Value} {l on l' : List St}
theorem MkS.op (h : MkS H0 H t T Q Bl vl l Bo vo on) (hM : ToM H' t T' Q') (hf : Fr T H H') (hT : ∀ b, T' b → T b ∨ H.size ≤ b) : MkS H0 H' t T' Q' Bl vl l Bo vo on where
 ts := h.ts.op hM hf hT
 l := h.l.frame hf fun g hg => (h.lb g hg).2
 o := h.o.frame hf fun g hg => (h.ob g hg).2
 lb b hb := ⟨(h.lb b hb).1, fun hx => by
  rcases hT b hx with e | e
  ·exact (h.lb b hb).2 e
  ·have := h.l.lt hb; omega⟩
 ob b hb := ⟨(h.ob b hb).1, fun hx => by
  rcases hT b hx with e | e
  ·exact (h.ob b hb).2 e
  ·have := h.o.lt hb; omega⟩
 ap := h.ap
theorem MkS.grow (h : MkS H0 H t T Q Bl vl l Bo vo on) (hf : Fr (fun _ => False) H H') : MkS H0 H' t T Q Bl vl l Bo vo on :=
 ⟨h.ts.grow hf, h.l.frame hf fun _ _ h => h, h.o.frame hf fun _ _ h => h, h.lb, h.ob, h.ap⟩
theorem MkS.setL (h : MkS H0 H t T Q Bl vl l Bo vo on) (hl : SR pairC 2 H' B' v' l') (hf : Fr (fun b => Bl = some b) H H') (hB : B' = Bl ∨ ∀ b, B' = some b → H.size ≤ b) : MkS H0 H' t T Q B' v' l' Bo vo on where
 ts := h.ts.frame hf (fun b hb => (h.lb b hb).1) fun b hb => (h.lb b hb).2
 l := hl
 o := h.o.frame hf fun g hg e => h.ap g e hg
 lb b hb := by
  rcases hB with rfl | e
  ·exact h.lb b hb
  ·have := e b hb
   exact ⟨Nat.le_trans h.ts.fr.size this, fun hx => by have := h.ts.to.lt hx; omega⟩
 ob := h.ob
 ap b hb := by
  rcases hB with rfl | e
  ·exact h.ap b hb
  ·intro hb'
   have := e b hb
   have := h.o.lt hb'
   omega
theorem MkS.setO (h : MkS H0 H t T Q Bl vl l Bo vo on) (hl : SR pairC 2 H' B' v' l') (hf : Fr (fun b => Bo = some b) H H') (hB : B' = Bo ∨ ∀ b, B' = some b → H.size ≤ b) : MkS H0 H' t T Q Bl vl l B' v' l' where
 ts := h.ts.frame hf (fun b hb => (h.ob b hb).1) fun b hb => (h.ob b hb).2
 l := h.l.frame hf fun g hg e => h.ap g hg e
 o := hl
 lb := h.lb
 ob b hb := by
  rcases hB with rfl | e
  ·exact h.ob b hb
  ·have := e b hb
   exact ⟨Nat.le_trans h.ts.fr.size this, fun hx => by have := h.ts.to.lt hx; omega⟩
 ap b hb := by
  rcases hB with rfl | e
  ·exact h.ap b hb
  ·intro hb'
   have := e b hb'
   have := h.l.lt hb
   omega
end
section
variable {H0 H : Heap} {e : Env} {t : Nat} {T : Nat → Prop} {Q : Tq} {l on : List St}
def plI (k : Option Nat) : Int := match k with | some i => (i : Int) | none => -1
theorem plI_none : plI none = -1 := rfl
theorem plI_some (k : Nat) : plI (some k) = (k : Int) := rfl
theorem plI_neg (k : Option Nat) : (plI k < 0) = (k = none) := by cases k <;> simp [plI]
theorem plI_pos (k : Option Nat) : (0 ≤ plI k) = (k ≠ none) := by cases k <;> simp [plI]
theorem if_or_comm {p q : Prop} [Decidable p] [Decidable q] {α : Type} {x y : α} : (if p ∨ q then x else y) = if q ∨ p then x else y := by
 by_cases h : p ∨ q
 ·rw [if_pos h, if_pos h.symm]
 ·rw [if_neg h, if_neg fun k => h k.symm]
theorem placeL_comm (l : List St) (u v : Nat) : placeL l u v = placeL l v u := by
 unfold placeL
 congr 1
 funext p
 exact decide_eq_decide.2 or_comm
theorem pick_nat {H : Heap} {c : Int} {n : Nat} {L : Value → Heap → Prop} (h : -9223372036854775808 ≤ c ∧ c ≤ 9223372036854775807) (hn : 0 < n) (fin : ∀ k : Nat, pickN c n = k → k < n → L (.int .i64 (k : Nat)) H) : CallsH Try.prog 10 #[.int .i64 c, .int .i64 (n : Nat)] H L := by
 refine Pkisthmuslaw04.pick_ok h.1 h.2 (by omega) ?_
 obtain ⟨u0, u1⟩ := pickN_range c (n := (n : Int)) (by omega)
 obtain ⟨u, eu⟩ := Int.eq_ofNat_of_zero_le u0
 rw [eu] at u1 ⊢
 exact fin u eu (Int.ofNat_lt.1 u1)
theorem pick_is {H : Heap} {c : Int} {n k : Nat} {L : Value → Heap → Prop} (h : -9223372036854775808 ≤ c ∧ c ≤ 9223372036854775807) (hn : 0 < n) (hk : pickN c n = k) (fin : L (.int .i64 (k : Nat)) H) : CallsH Try.prog 10 #[.int .i64 c, .int .i64 (n : Nat)] H L := by
 refine Pkisthmuslaw04.pick_ok h.1 h.2 (by omega) ?_
 rw [hk]
 exact fin
theorem place_at {u v : Nat} {B : Option Nat} {vl : Value} {L : Value → Heap → Prop} (hl : SR pairC 2 H B vl l) (hll : l.length ≤ 9223372036854775806) (fin : ∀ k, placeL l u v = k → L (.int .i64 (plI k)) H) :
  CallsH Try.prog 18 #[vl, .int .i64 (u : Nat), .int .i64 (v : Nat)] H L := by
 refine place_ok hl hll ?_
 have := fin _ rfl
 cases h : placeL l u v with
 | none => rw [h] at this; exact this
 | some k => rw [h] at this; exact this
theorem without_at {B : Option Nat} {vl : Value} {k : Option Nat} {L : Value → Heap → Prop} (hl : SR pairC 2 H B vl l) (hll : l.length ≤ 1000) (hk : ∀ i, k = some i → i < l.length)
  (fin : ∀ H' B' v', SR pairC 2 H' B' v' (withoutL l k) → Fr (fun _ => False) H H' → (B' = B ∨ ∀ b, B' = some b → H.size ≤ b) → L v' H') :
  CallsH Try.prog 22 #[vl, .int .i64 (plI k)] H L := by
 have := without_ok hl hll hk fin
 cases k with
 | none => exact this
 | some k => exact this
theorem placeL_lt {u v : Nat} {k : Option Nat} (h : placeL l u v = k) : ∀ i, k = some i → i < l.length := fun i hi => by
 rw [hi] at h
 obtain ⟨p, _, _, h3⟩ := placeL_some h
 exact h3
theorem withoutL_len (l : List St) (k : Option Nat) : (withoutL l k).length ≤ l.length := by
 cases k with
 | none => exact Nat.le_refl _
 | some k => simp only [withoutL, List.length_append, List.length_take, List.length_drop]; omega
theorem linkB {u v : Nat} {L : Value → Heap → Prop} (hM : ToM H t T Q) (hbk : Bk Q l) (hmk : Mk Q on) (hu : u < Q.n) (hv : v < Q.n)
  (fin : ∀ H' T' Q' (b : Int), ToM H' t T' Q' → Fr T H H' → (∀ b, T' b → T b ∨ H.size ≤ b) → Q'.n = Q.n → Q'.on = Q.on → Mk Q' on → ((b = 0 ∧ Bk Q' (l ++ [(u, v)])) ∨ (b = 41 ∧ Bk Q' l)) → L (.int .i64 b) H') :
  CallsH Try.prog 11 #[.pointer (some ⟨t, 0, none⟩), .int .i64 (u : Nat), .int .i64 (v : Nat)] H L := by
 refine tq_link hM fun H' T' hM' hf hT => ?_
 have ei : (inB Q.n (u : Int) && inB Q.n (v : Int)) = true := by rw [inB_of hu, inB_of hv]; rfl
 have e : Q.linkQ (u : Int) (v : Int) = if (v, v) ∈ Q.row u then (41, Q) else (0, Q.lay (Q.linkRow u v)) := by
  unfold Tq.linkQ
  rw [ei]; rfl
 by_cases hm : (v, v) ∈ Q.row u
 ·rw [if_pos hm] at e
  rw [e] at hM' ⊢
  exact fin _ _ _ _ hM' hf hT rfl rfl hmk (.inr ⟨rfl, hbk⟩)
 ·rw [if_neg hm] at e
  rw [e] at hM' ⊢
  exact fin _ _ _ _ hM' hf hT rfl rfl ⟨hmk.sub, hmk.all, hmk.one⟩ (.inl ⟨rfl, hbk.link hM.ok hu hv hm⟩)
theorem tq_cut_no {u v : Nat} {L : Value → Heap → Prop} (hM : ToM H t T Q) (hu : u < Q.n) (hv : v < Q.n) (hno : ¬ (u ≠ v ∧ (u, v) ∈ Q.row u)) (fin : ∀ H' T', ToM H' t T' Q → Fr T H H' → (∀ b, T' b → T b ∨ H.size ≤ b) → L (.int .i64 42) H') :
  CallsH Try.prog 16 #[.pointer (some ⟨t, 0, none⟩), .int .i64 (u : Nat), .int .i64 (v : Nat)] H L := by
 obtain ⟨f, Tf, S, B, c, r1, r2, st, pr, h, hR, h3, h4⟩ := hM
 have hn : st ((u : Int), (v : Int)) = none := by
  cases hs : st ((u : Int), (v : Int)) with
  | none => rfl
  | some k =>
   obtain ⟨u', v', g1, g2, g3, g4, g5⟩ := hR.sto _ k hs
   obtain ⟨g6, g7⟩ := Prod.mk.inj g1
   obtain rfl := Int.natCast_inj.1 g6
   obtain rfl := Int.natCast_inj.1 g7
   exact absurd ⟨g2, g4⟩ hno
 refine call16 (by simp) ?_
 simp only [Try.f16, Option.getD_some]
 repeat' (first|(with_reducible first|refine jA ?_|(refine hK _ _ ?_;clear hK K)|refine jJ fun K hK=>?_|refine jK ?_|refine jL ?_|refine jM ?_|refine jN ?_|refine jO ?_|refine jP ?_|refine jQ ?_|(refine jB ?_;clear hK K)|(refine jC ?_;clear hK K)|refine jD ?_|refine jE ?_|refine jG ?_|refine jH ?_|refine jI ?_)|((with_reducible refine jR ?hq ?_);case hq=>rfl)|((first|(with_reducible first|refine jS fun K hK=>?_|refine jT ?_|refine jU ?_)|((with_reducible refine jV ?hy fun K hK=>?_);case hy=>rfl));simp only [go_sem, Nat.reduceEqDiff, Nat.reduceAdd, Nat.reduceMul, Nat.reduceLeDiff, Nat.reduceLT, Int.reduceLT, Int.reduceLE, Int.reduceEq, Int.reduceNeg, Int.reduceToNat, Nat.reducePow, reduceIte, reduceCtorEq])|((with_reducible first|refine jW ?hy ?_|refine jY ?hy ?_);case hy=>rfl)|((with_reducible first|refine jX ?hy ?_|refine jZ ?hy ?_);case hy=>rfl)|((with_reducible refine jF ?hy ?_);case hy=>decide))
 refine has2 h fun H1 h1 hf1 => ?_
 rw [inB_of hu, inB_of hv]
 have d2 := h1.hd.cellOf (i := 2) rfl
 repeat' (first|(with_reducible first|refine jA ?_|(refine hK _ _ ?_;clear hK K)|refine jJ fun K hK=>?_|refine jK ?_|refine jL ?_|refine jM ?_|refine jN ?_|refine jO ?_|refine jP ?_|refine jQ ?_|(refine jB ?_;clear hK K)|(refine jC ?_;clear hK K)|refine jD ?_|refine jE ?_|refine jG ?_|refine jH ?_|refine jI ?_)|((with_reducible refine jR ?hq ?_);case hq=>rfl)|((first|(with_reducible first|refine jS fun K hK=>?_|refine jT ?_|refine jU ?_)|((with_reducible refine jV ?hy fun K hK=>?_);case hy=>rfl));simp only [go_sem, Nat.reduceEqDiff, Nat.reduceAdd, Nat.reduceMul, Nat.reduceLeDiff, Nat.reduceLT, Int.reduceLT, Int.reduceLE, Int.reduceEq, Int.reduceNeg, Int.reduceToNat, Nat.reducePow, reduceIte, reduceCtorEq, Bool.and_self, d2])|((with_reducible first|refine jW ?hy ?_|refine jY ?hy ?_);case hy=>rfl)|((with_reducible first|refine jX ?hy ?_|refine jZ ?hy ?_);case hy=>rfl)|((with_reducible refine jF ?hy ?_);case hy=>decide))
 refine rd_lookupQ (vf := natV) mapT_steps kArr h1.m1.choose_spec ((u : Int), (v : Int)) true ?_
 rw [hn]
 simp only [Option.map_none, gotV, if_true]
 repeat' (first|(with_reducible first|refine jA ?_|(refine hK _ _ ?_;clear hK K)|refine jJ fun K hK=>?_|refine jK ?_|refine jL ?_|refine jM ?_|refine jN ?_|refine jO ?_|refine jP ?_|refine jQ ?_|(refine jB ?_;clear hK K)|(refine jC ?_;clear hK K)|refine jD ?_|refine jE ?_|refine jG ?_|refine jH ?_|refine jI ?_)|((with_reducible refine jR ?hq ?_);case hq=>rfl)|((first|(with_reducible first|refine jS fun K hK=>?_|refine jT ?_|refine jU ?_)|((with_reducible refine jV ?hy fun K hK=>?_);case hy=>rfl));simp only [go_sem, Nat.reduceEqDiff, Nat.reduceAdd, Nat.reduceMul, Nat.reduceLeDiff, Nat.reduceLT, Int.reduceLT, Int.reduceLE, Int.reduceEq, Int.reduceNeg, Int.reduceToNat, Nat.reducePow, reduceIte, reduceCtorEq])|((with_reducible first|refine jW ?hy ?_|refine jY ?hy ?_);case hy=>rfl)|((with_reducible first|refine jX ?hy ?_|refine jZ ?hy ?_);case hy=>rfl)|((with_reducible refine jF ?hy ?_);case hy=>decide))
 exact ToM.after h3 h4 h1 hR (hf1.mono fun _ _ h => h.elim) (fun b hb => .inl hb) fun T'' a b c => fin _ T'' a b c
theorem cutB {u v : Nat} {pl po : Option Nat} {L : Value → Heap → Prop} (hM : ToM H t T Q) (hbk : Bk Q l) (hmk : Mk Q on) (hu : u < Q.n) (hv : v < Q.n) (hpl : placeL l u v = pl) (hpo : placeL on u v = po)
  (fin : ∀ H' T' Q' (b : Int), ToM H' t T' Q' → Fr T H H' → (∀ b, T' b → T b ∨ H.size ≤ b) → Q'.n = Q.n → Q'.on = Q.on → Bk Q' (withoutL l pl) → Mk Q' (withoutL on po) → ((b = 0 ∧ pl ≠ none) ∨ (b = 42 ∧ pl = none)) → L (.int .i64 b) H') :
  CallsH Try.prog 16 #[.pointer (some ⟨t, 0, none⟩), .int .i64 (u : Nat), .int .i64 (v : Nat)] H L := by
 have hp := hbk.place hM.ok hu hv
 rw [hpl] at hp
 cases pl with
 | some k =>
  obtain ⟨h1, h2⟩ := hp.1 ⟨k, rfl⟩
  refine t_cut hM hu hv h1 h2 fun H' T' x y l1 m l2 hxy hl hM' hf hT => ?_
  refine fin _ _ _ _ hM' hf hT rfl rfl (hbk.cut hM.ok hu h1 hpl hxy hl) ?_ (.inl ⟨rfl, fun h => by cases h⟩)
  rw [← hpo]
  exact hmk.gone fun a b => rfl
 | none =>
  have hno : ¬ (u ≠ v ∧ (u, v) ∈ Q.row u) := fun h => by obtain ⟨k, hk⟩ := hp.2 h; cases hk
  refine tq_cut_no hM hu hv hno fun H' T' hM' hf hT => ?_
  have := hmk.none hM.ok hno
  rw [hpo] at this
  subst this
  exact fin _ _ _ _ hM' hf hT rfl rfl hbk hmk (.inr ⟨rfl, rfl⟩)
theorem markB {u v : Nat} {z : Bool} {pl po : Option Nat} {L : Value → Heap → Prop} (hM : ToM H t T Q) (hbk : Bk Q l) (hmk : Mk Q on) (hu : u < Q.n) (hv : v < Q.n) (hpl : placeL l u v = pl) (hpo : placeL on u v = po)
  (fin : ∀ H' T' Q' (b : Int), ToM H' t T' Q' → Fr T H H' → (∀ b, T' b → T b ∨ H.size ≤ b) → Q'.n = Q.n → Q'.on = Q.on → Bk Q' l → (z = true ∧ pl ≠ none → Mk Q' (withoutL on po ++ [(u, v)])) → (¬ (z = true ∧ pl ≠ none) → Mk Q' (withoutL on po)) → ((b = 0 ∧ pl ≠ none) ∨ (b = 42 ∧ pl = none)) → L (.int .i64 b) H') :
  CallsH Try.prog 23 #[.pointer (some ⟨t, 0, none⟩), .int .i64 (v : Nat), .int .i64 (u : Nat), .bool z] H L := by
 have hp := hbk.place hM.ok hv hu
 rw [placeL_comm, hpl] at hp
 refine tq_markE hM fun H' T' hM' hf hT => ?_
 have ei : (inB Q.n (v : Int) && inB Q.n (u : Int)) = true := by rw [inB_of hu, inB_of hv]; rfl
 have e : Q.markEQ (v : Int) (u : Int) z = if (v : Int) ≠ (u : Int) ∧ (v, u) ∈ Q.row v then (0, { Q with em := fun a c => if (a, c) = (v, u) ∨ (a, c) = (u, v) then z else Q.em a c }) else (42, Q) := by
  unfold Tq.markEQ
  rw [ei]; rfl
 cases pl with
 | some k =>
  obtain ⟨h1, h2⟩ := hp.1 ⟨k, rfl⟩
  rw [if_pos ⟨by omega, h2⟩] at e
  rw [e] at hM' ⊢
  refine fin _ _ _ _ hM' hf hT rfl rfl ⟨hbk.mem, hbk.all, hbk.one⟩ (fun hz => ?_) (fun hz => ?_) (.inl ⟨rfl, fun h => by cases h⟩)
  ·rw [← hpo]
   refine hmk.mark (fun e => h1 e.symm) fun a b => ?_
   simp only [hz.1]
   exact if_or_comm
  ·have hz' : z = false := by
    cases z with
    | false => rfl
    | true => exact absurd ⟨rfl, fun h => by cases h⟩ hz
   rw [← hpo]
   refine hmk.gone fun a b => ?_
   simp only [hz']
   exact if_or_comm
 | none =>
  have hno : ¬ (v ≠ u ∧ (v, u) ∈ Q.row v) := fun h => by obtain ⟨k, hk⟩ := hp.2 h; cases hk
  rw [if_neg (fun h => hno ⟨fun e => h.1 (by rw [e]), h.2⟩)] at e
  rw [e] at hM' ⊢
  have hno2 : ¬ (u ≠ v ∧ (u, v) ∈ Q.row u) := fun h => by
   have := (hbk.place hM.ok hu hv).2 h
   rw [hpl] at this
   obtain ⟨k, hk⟩ := this
   cases hk
  have := hmk.none hM.ok hno2
  rw [hpo] at this
  subst this
  exact fin _ _ _ _ hM' hf hT rfl rfl hbk (fun h => absurd rfl h.2) (fun _ => hmk) (.inr ⟨rfl, rfl⟩)
end
section
variable {H0 H H' : Heap} {e : Env} {Z : HX → Env → Heap → Prop} {t : Nat} {T : Nat → Prop} {Q : Tq} {l on : List St}
def wantC (val : Nat → Int) (on : Nat → Bool) (ys : List Nat) : List Value := [.int .i64 0, .int .i64 (ys.map val).sum, .int .i64 (minL (ys.map val)), .int .i64 (maxL (ys.map val)), .int .i64 (if ys.any on then 1 else 0)]
def vrow (n : Nat) (val : Nat → Int) : List Int := (List.range n).map val
def brow (n : Nat) (on : Nat → Bool) : List Bool := (List.range n).map on
theorem vrow_at {n x : Nat} {val : Nat → Int} (h : x < n) : (vrow n val)[x]? = some (val x) := by simp [vrow, h]
theorem brow_at {n x : Nat} {on : Nat → Bool} (h : x < n) : (brow n on)[x]? = some (on x) := by simp [brow, h]
theorem minL_snoc (xs : List Int) (y : Int) : minL (xs ++ [y]) = if xs = [] ∨ y < minL xs then y else minL xs := by
 rw [minL_append]
 by_cases h : xs = []
 ·simp [h, minL]
 ·simp only [h, if_false, false_or]
  rfl
theorem maxL_snoc (xs : List Int) (y : Int) : maxL (xs ++ [y]) = if xs = [] ∨ maxL xs < y then y else maxL xs := by
 rw [maxL_append]
 by_cases h : xs = []
 ·simp [h, maxL]
 ·simp only [h, if_false, false_or]
  rfl
theorem sum_bound {xs : List Int} (h : ∀ x ∈ xs, -1099511627776 ≤ x ∧ x ≤ 1099511627776) : -(1099511627776 * (xs.length : Int)) ≤ xs.sum ∧ xs.sum ≤ 1099511627776 * (xs.length : Int) := by
 induction xs with
 | nil => simp
 | cons x xs ih =>
  have h1 := h x (.head _)
  have h2 := ih fun y hy => h y (.tail _ hy)
  simp only [List.sum_cons, List.length_cons]
  omega
theorem stA {n g gs bw bb gv go : Nat} {Bo : Option Nat} {vo vl : Value} {W : List Nat} {bs : List Bool} {val : Nat → Int} {mk : Nat → Bool}
  (hw : IR H Bo vo (W.map Int.ofNat)) (hlen : W.length ≤ 64) (hn : n ≤ 64) (hWn : ∀ x ∈ W, x < n ∧ bs[x]? = some true) (hnd : W.Nodup) (hbl : bs.length = n)
  (hb : BR H (some g) (.slice (some ⟨g, 0, none⟩) n n) bs) (hs : BR H (some gs) (.slice (some ⟨gs, 0, none⟩) n n) (brow n fun _ => false))
  (hk : Blk H bb [.int .i64 n, .slice (some ⟨gv, 0, none⟩) n n, .slice (some ⟨go, 0, none⟩) n n, vl]) (hv : IR H (some gv) (.slice (some ⟨gv, 0, none⟩) n n) (vrow n val)) (ho : BR H (some go) (.slice (some ⟨go, 0, none⟩) n n) (brow n mk))
  (hwant : Blk H bw (wantC val mk [])) (hval : ∀ x, x < n → -1099511627776 ≤ val x ∧ val x ≤ 1099511627776)
  (a1 : ∀ b, Bo = some b → b ≠ gs ∧ b ≠ bw) (a2 : g ≠ gs ∧ g ≠ bw) (a3 : bb ≠ gs ∧ bb ≠ bw) (a4 : gv ≠ gs ∧ gv ≠ bw) (a5 : go ≠ gs ∧ go ≠ bw) (a6 : gs ≠ bw)
  (e0 : e 0 = .pointer (some ⟨bb, 0, none⟩)) (e6 : e 6 = .slice (some ⟨g, 0, none⟩) n n) (e7 : e 7 = vo) (e11 : e 11 = .pointer (some ⟨bw, 0, none⟩)) (e12 : e 12 = .slice (some ⟨gs, 0, none⟩) n n) (e13 : e 13 = .int .i64 0)
  (hQ : ∀ e' H', e' 0 = e 0 → e' 1 = e 1 → e' 5 = e 5 → e' 6 = e 6 → e' 9 = e 9 → e' 11 = e 11 → Fr (fun b => b = gs ∨ b = bw) H H' → Blk H' bw (wantC val mk W) → Z .normal e' H') :
  codeX Try.prog [4, 14, 17, 23] (loopAt Try.f21.body 1) (blockQ 2 Z) e H := by
 refine x_loop (fun m e' H' => ∃ (i : Nat), e' 13 = .int .i64 (i : Nat) ∧ i ≤ W.length ∧ Fr (fun b => b = gs ∨ b = bw) H H' ∧ BR H' (some gs) (.slice (some ⟨gs, 0, none⟩) n n) (brow n fun x => decide (x ∈ W.take i)) ∧ Blk H' bw (wantC val mk (W.take i)) ∧ m = W.length - i) W.length
  ⟨0, e13, Nat.zero_le _, Fr.refl _ _, by simpa using hs, by simpa using hwant, rfl⟩ ?_
 rintro m e1 H1 ⟨i, i13, hi, hfr, hs1, hw1, rfl⟩ hoff
 have i0 := (hoff 0 rfl).trans e0
 have i6 := (hoff 6 rfl).trans e6
 have i7 := (hoff 7 rfl).trans e7
 have i11 := (hoff 11 rfl).trans e11
 have i12 := (hoff 12 rfl).trans e12
 have keep : e1 0 = e 0 ∧ e1 1 = e 1 ∧ e1 5 = e 5 ∧ e1 6 = e 6 ∧ e1 9 = e 9 ∧ e1 11 = e 11 := ⟨hoff 0 rfl, hoff 1 rfl, hoff 5 rfl, hoff 6 rfl, hoff 9 rfl, hoff 11 rfl⟩
 clear hoff
 have ew : IntKind.i64.wrap ((i : Int) + 1) = ((i + 1 : Nat) : Int) := by rw [wrap_i64] <;> omega
 have mapl : (W.map Int.ofNat).length = W.length := by simp
 by_cases hlt : i < W.length
 ·obtain ⟨x, hx⟩ : ∃ x, W[i]? = some x := ⟨_, List.getElem?_eq_getElem hlt⟩
  have hxm := List.mem_of_getElem? hx
  obtain ⟨hxn, hbx⟩ := hWn x hxm
  have htk : W.take (i + 1) = W.take i ++ [x] := by rw [List.take_add_one, hx]; rfl
  have hxt : x ∉ W.take i := fun h => by
   have : (W.take (i + 1)).Nodup := hnd.sublist (List.take_sublist _ _)
   rw [htk, List.nodup_append] at this
   exact this.2.2 x h x (.head _) rfl
  have hap : ∀ {b : Nat} {l : List Value}, Blk H b l → b ≠ gs ∧ b ≠ bw → Blk H1 b l := fun h a => h.frame hfr fun o => o.elim a.1 a.2
  have hw' := hw.frame hfr fun b hb o => o.elim (a1 b hb).1 (a1 b hb).2
  have hb' := hb.frame hfr fun b hb o => by obtain rfl := Option.some.inj hb; exact o.elim a2.1 a2.2
  have hv' := hv.frame hfr fun b hb o => by obtain rfl := Option.some.inj hb; exact o.elim a4.1 a4.2
  have ho' := ho.frame hfr fun b hb o => by obtain rfl := Option.some.inj hb; exact o.elim a5.1 a5.2
  have hk' := hap hk a3
  obtain ⟨gw, cw, rfl, hvo, c0⟩ := hw'.read (i := i) (x := (x : Int)) (by rw [List.getElem?_map, hx]; rfl)
  rw [mapl] at hvo
  subst hvo
  have agw := a1 gw rfl
  have t1 : (i < W.length) = True := by simp [hlt]
  have t2 : ((x : Int) < 0) = False := by simp
  have t3 : ((n : Int) ≤ (x : Int)) = False := by simp; omega
  have t4 : (x < n) = True := by simp [hxn]
  have t5 : (n ≤ x) = False := by simp; omega
  have d1 := hb'.cell hbx
  have d2 : hcell H1 ⟨gs, x, none⟩ = some (.bool false) := by
   have := hs1.cell (brow_at (on := fun x => decide (x ∈ W.take i)) hxn)
   simpa [hxt] using this
  have k0 := hk'.cellOf (i := 0) rfl
  have k1 := hk'.cellOf (i := 1) rfl
  have k2 := hk'.cellOf (i := 2) rfl
  have d3 := hv'.cell (vrow_at (val := val) hxn)
  have d4 := ho'.cell (brow_at (on := mk) hxn)
  obtain ⟨w1, hs2⟩ := hs1.write (i := x) (by simp [brow]; omega) true
  have hgs : Fr (· = gs) H1 (hset H1 ⟨gs, x, none⟩ (.bool true)) := Fr.set (S := (· = gs)) (a := ⟨gs, x, none⟩) (Fr.refl _ H1) (.inl rfl) _
  have hap2 : ∀ {b : Nat} {l : List Value}, Blk H1 b l → b ≠ gs → Blk (hset H1 ⟨gs, x, none⟩ (.bool true)) b l := fun h a => h.frame hgs a
  repeat' (first|(with_reducible first|refine jA ?_|(refine hK _ _ ?_;clear hK K)|refine jJ fun K hK=>?_|refine jK ?_|refine jL ?_|refine jM ?_|refine jN ?_|refine jO ?_|refine jP ?_|refine jQ ?_|(refine jB ?_;clear hK K)|(refine jC ?_;clear hK K)|refine jD ?_|refine jE ?_|refine jG ?_|refine jH ?_|refine jI ?_)|((with_reducible refine jR ?hq ?_);case hq=>rfl)|((first|(with_reducible first|refine jS fun K hK=>?_|refine jT ?_|refine jU ?_)|((with_reducible refine jV ?hy fun K hK=>?_);case hy=>rfl));simp only [go_sem, Nat.reduceEqDiff, Nat.reduceAdd, Nat.reduceMul, Nat.reduceLeDiff, Nat.reduceLT, Int.reduceLT, Int.reduceLE, Int.reduceEq, Int.reduceNeg, Int.reduceToNat, Nat.reducePow, reduceIte, reduceCtorEq, i0, i6, i7, i11, i12, i13, t1, t2, t3, t4, t5, c0, k0, d1, d2, w1])|((with_reducible first|refine jW ?hy ?_|refine jY ?hy ?_);case hy=>rfl)|((with_reducible first|refine jX ?hy ?_|refine jZ ?hy ?_);case hy=>rfl)|((with_reducible refine jF ?hy ?_);case hy=>decide))
  generalize hset _ _ _ = H2 at hs2 hgs hap2 ⊢
  have sn : (brow n fun x => decide (x ∈ W.take i)).set x true = brow n fun x => decide (x ∈ W.take (i + 1)) := by
   apply List.ext_getElem?
   intro y
   rw [List.getElem?_set]
   by_cases hy : y < n
   ·rw [brow_at hy, brow_at hy, htk]
    by_cases hxy : x = y
    ·subst hxy; simp [brow, hy]
    ·rw [if_neg hxy]
     have : (y ∈ W.take i ++ [x]) = (y ∈ W.take i) := by
      rw [List.mem_append, List.mem_singleton]
      exact propext ⟨fun h => h.elim id fun e => absurd e.symm hxy, .inl⟩
     simp only [this]
   ·have hne : x ≠ y := by omega
    have none : ∀ f : Nat → Bool, (brow n f)[y]? = none := fun f => by simp [brow]; omega
    rw [if_neg hne, none, none]
  rw [sn] at hs2
  have mv : ∀ {b o : Nat} {v : Value}, hcell H1 ⟨b, o, none⟩ = some v → b ≠ gs → hcell H2 ⟨b, o, none⟩ = some v := fun h a => by rw [hgs.cell (hcell_lt h) a]; exact h
  have k1' := mv k1 a3.1
  have c0' := mv c0 agw.1
  have d3' := mv d3 a4.1
  have hw2 := hap2 hw1 a6.symm
  refine ⟨_, _, _, k1', ?_⟩
  repeat' (first|(with_reducible first|refine jA ?_|(refine hK _ _ ?_;clear hK K)|refine jJ fun K hK=>?_|refine jK ?_|refine jL ?_|refine jM ?_|refine jN ?_|refine jO ?_|refine jP ?_|refine jQ ?_|(refine jB ?_;clear hK K)|(refine jC ?_;clear hK K)|refine jD ?_|refine jE ?_|refine jG ?_|refine jH ?_|refine jI ?_)|((with_reducible refine jR ?hq ?_);case hq=>rfl)|((first|(with_reducible first|refine jS fun K hK=>?_|refine jT ?_|refine jU ?_)|((with_reducible refine jV ?hy fun K hK=>?_);case hy=>rfl));simp only [go_sem, Nat.reduceEqDiff, Nat.reduceAdd, Nat.reduceMul, Nat.reduceLeDiff, Nat.reduceLT, Int.reduceLT, Int.reduceLE, Int.reduceEq, Int.reduceNeg, Int.reduceToNat, Nat.reducePow, reduceIte, reduceCtorEq, i0, i6, i7, i11, i12, i13, t1, t2, t3, t4, t5, c0', d3'])|((with_reducible first|refine jW ?hy ?_|refine jY ?hy ?_);case hy=>rfl)|((with_reducible first|refine jX ?hy ?_|refine jZ ?hy ?_);case hy=>rfl)|((with_reducible refine jF ?hy ?_);case hy=>decide))
  rename_i KT hKT
  obtain ⟨s, es⟩ : ∃ s, s = ((W.take i).map val).sum := ⟨_, rfl⟩
  obtain ⟨lo, elo⟩ : ∃ s, s = minL ((W.take i).map val) := ⟨_, rfl⟩
  obtain ⟨hi', ehi⟩ : ∃ s, s = maxL ((W.take i).map val) := ⟨_, rfl⟩
  obtain ⟨fl, efl⟩ : ∃ s : Int, s = if (W.take i).any mk then 1 else 0 := ⟨_, rfl⟩
  have hw3 : Blk H2 bw [.int .i64 0, .int .i64 s, .int .i64 lo, .int .i64 hi', .int .i64 fl] := by rw [es, elo, ehi, efl]; exact hw2
  clear hw2 hw1
  have hmap : ((W.take (i + 1)).map val) = (W.take i).map val ++ [val x] := by rw [htk, List.map_append]; rfl
  have hnil : ((W.take i).map val = []) ↔ i = 0 := by
   rw [List.map_eq_nil_iff, List.take_eq_nil_iff]
   constructor
   ·rintro (h | h)
    ·exact h
    ·rw [h] at hlt; cases hlt
   ·exact .inl
  have k2' := mv k2 a3.1
  have d4' := mv d4 a5.1
  have tail18 : ∀ (e' : Env) (H' : Heap), e' 0 = .pointer (some ⟨bb, 0, none⟩) → e' 1 = e 1 → e' 5 = e 5 → e' 6 = .slice (some ⟨g, 0, none⟩) n n → e' 7 = .slice (some ⟨gw, 0, none⟩) W.length cw → e' 9 = e 9 → e' 11 = .pointer (some ⟨bw, 0, none⟩) → e' 12 = .slice (some ⟨gs, 0, none⟩) n n → e' 13 = .int .i64 (i : Nat) → e' 14 = .int .i64 (val x) →
    Blk H' bw [.int .i64 0, .int .i64 s, .int .i64 (minL ((W.take (i + 1)).map val)), .int .i64 hi', .int .i64 fl] → Fr (· = bw) H2 H' → KT e' H' := by
   clear hK K
   intro e' H' j0 j1 j5 j6 j7 j9 j11 j12 j13 j14 hb' hf'
   refine hKT _ _ ?_
   clear hKT KT
   repeat' (first|(with_reducible first|refine jA ?_|(refine hK _ _ ?_;clear hK K)|refine jJ fun K hK=>?_|refine jK ?_|refine jL ?_|refine jM ?_|refine jN ?_|refine jO ?_|refine jP ?_|refine jQ ?_|(refine jB ?_;clear hK K)|(refine jC ?_;clear hK K)|refine jD ?_|refine jE ?_|refine jG ?_|refine jH ?_|refine jI ?_)|((with_reducible refine jR ?hq ?_);case hq=>rfl)|((first|(with_reducible first|refine jS fun K hK=>?_|refine jT ?_|refine jU ?_)|((with_reducible refine jV ?hy fun K hK=>?_);case hy=>rfl));simp only [go_sem, Nat.reduceEqDiff, Nat.reduceAdd, Nat.reduceMul, Nat.reduceLeDiff, Nat.reduceLT, Int.reduceLT, Int.reduceLE, Int.reduceEq, Int.reduceNeg, Int.reduceToNat, Nat.reducePow, reduceIte, reduceCtorEq, j0, j6, j7, j11, j12, j13, j14])|((with_reducible first|refine jW ?hy ?_|refine jY ?hy ?_);case hy=>rfl)|((with_reducible first|refine jX ?hy ?_|refine jZ ?hy ?_);case hy=>rfl)|((with_reducible refine jF ?hy ?_);case hy=>decide))
   rename_i KT hKT
   have tail20 : ∀ (e' : Env) (H' : Heap), e' 0 = .pointer (some ⟨bb, 0, none⟩) → e' 1 = e 1 → e' 5 = e 5 → e' 6 = .slice (some ⟨g, 0, none⟩) n n → e' 7 = .slice (some ⟨gw, 0, none⟩) W.length cw → e' 9 = e 9 → e' 11 = .pointer (some ⟨bw, 0, none⟩) → e' 12 = .slice (some ⟨gs, 0, none⟩) n n → e' 13 = .int .i64 (i : Nat) → e' 14 = .int .i64 (val x) →
     Blk H' bw [.int .i64 0, .int .i64 s, .int .i64 (minL ((W.take (i + 1)).map val)), .int .i64 (maxL ((W.take (i + 1)).map val)), .int .i64 fl] → Fr (· = bw) H2 H' → KT e' H' := by
    clear hK K
    clear j0 j1 j5 j6 j7 j9 j11 j12 j13 j14 hb' hf' e' H'
    intro e' H' j0 j1 j5 j6 j7 j9 j11 j12 j13 j14 hb' hf'
    refine hKT _ _ ?_
    clear hKT KT
    have v1 := hb'.cellOf (i := 1) rfl
    have u1 := hb'.okW (i := 1) (by simp)
    have eadd : IntKind.i64.wrap (s + val x) = s + val x := by
     have hb1 : ∀ y ∈ (W.take i).map val, -1099511627776 ≤ y ∧ y ≤ 1099511627776 := fun y hy => by
      obtain ⟨z, hz, rfl⟩ := List.mem_map.1 hy
      exact hval z (hWn z (List.mem_of_mem_take hz)).1
     have := sum_bound hb1
     have hl1 : ((W.take i).map val).length = i := by simp; omega
     rw [hl1, ← es] at this
     have := hval x hxn
     rw [wrap_i64] <;> omega
    have mv2 : ∀ {b o : Nat} {v : Value}, hcell H2 ⟨b, o, none⟩ = some v → b ≠ bw → hcell H' ⟨b, o, none⟩ = some v := fun h a => by rw [hf'.cell (hcell_lt h) a]; exact h
    have q2 := mv2 k2' a3.2
    have q0 := mv2 c0' agw.2
    have q4 := mv2 d4' a5.2
    have hset1 := hb'.set_same 1 (.int .i64 (s + val x))
    have hfs : Fr (· = bw) H' (hset H' ⟨bw, 1, none⟩ (.int .i64 (s + val x))) := Fr.set (S := (· = bw)) (a := ⟨bw, 1, none⟩) (Fr.refl _ H') (.inl rfl) _
    repeat' (first|(with_reducible first|refine jA ?_|(refine hK _ _ ?_;clear hK K)|refine jJ fun K hK=>?_|refine jK ?_|refine jL ?_|refine jM ?_|refine jN ?_|refine jO ?_|refine jP ?_|refine jQ ?_|(refine jB ?_;clear hK K)|(refine jC ?_;clear hK K)|refine jD ?_|refine jE ?_|refine jG ?_|refine jH ?_|refine jI ?_)|((with_reducible refine jR ?hq ?_);case hq=>rfl)|((first|(with_reducible first|refine jS fun K hK=>?_|refine jT ?_|refine jU ?_)|((with_reducible refine jV ?hy fun K hK=>?_);case hy=>rfl));simp only [go_sem, Nat.reduceEqDiff, Nat.reduceAdd, Nat.reduceMul, Nat.reduceLeDiff, Nat.reduceLT, Int.reduceLT, Int.reduceLE, Int.reduceEq, Int.reduceNeg, Int.reduceToNat, Nat.reducePow, reduceIte, reduceCtorEq, j0, j6, j7, j11, j12, j13, j14, v1, u1, eadd])|((with_reducible first|refine jW ?hy ?_|refine jY ?hy ?_);case hy=>rfl)|((with_reducible first|refine jX ?hy ?_|refine jZ ?hy ?_);case hy=>rfl)|((with_reducible refine jF ?hy ?_);case hy=>decide))
    generalize hset _ _ _ = H3 at hset1 hfs ⊢
    have mv3 : ∀ {b o : Nat} {v : Value}, hcell H' ⟨b, o, none⟩ = some v → b ≠ bw → hcell H3 ⟨b, o, none⟩ = some v := fun h a => by rw [hfs.cell (hcell_lt h) a]; exact h
    have q2' := mv3 q2 a3.2
    have q0' := mv3 q0 agw.2
    have q4' := mv3 q4 a5.2
    have u4 := hset1.okW (i := 4) (by simp)
    have hset4 := hset1.set_same 4 (.int .i64 1)
    have hfs4 : Fr (· = bw) H3 (hset H3 ⟨bw, 4, none⟩ (.int .i64 1)) := Fr.set (S := (· = bw)) (a := ⟨bw, 4, none⟩) (Fr.refl _ H3) (.inl rfl) _
    have hsum : ((W.take (i + 1)).map val).sum = s + val x := by rw [hmap, List.sum_append, ← es]; simp
    have hany : (W.take (i + 1)).any mk = ((W.take i).any mk || mk x) := by rw [htk, List.any_append]; simp
    have ending : ∀ (H4 : Heap) (y : Int), y = (if (W.take (i + 1)).any mk then 1 else 0) → Fr (· = bw) H3 H4 → Blk H4 bw [.int .i64 0, .int .i64 (s + val x), .int .i64 (minL ((W.take (i + 1)).map val)), .int .i64 (maxL ((W.take (i + 1)).map val)), .int .i64 y] →
      Fr (fun b => b = gs ∨ b = bw) H H4 ∧ BR H4 (some gs) (.slice (some ⟨gs, 0, none⟩) n n) (brow n fun x => decide (x ∈ W.take (i + 1))) ∧ Blk H4 bw (wantC val mk (W.take (i + 1))) := fun H4 y hy hf4 hb4 => by
     have g1 := (hf'.trans hfs).trans hf4
     refine ⟨(hfr.trans (hgs.mono fun _ _ h => .inl h)).trans (g1.mono fun _ _ h => .inr h), hs2.frame g1 fun b hb e => ?_, ?_⟩
     ·obtain rfl := Option.some.inj hb
      exact a6 e
     ·unfold wantC
      rw [hsum, ← hy]
      exact hb4
    refine ⟨_, _, _, q2', ?_⟩
    by_cases hm : mk x = true
    ·repeat' (first|(with_reducible first|refine jA ?_|(refine hK _ _ ?_;clear hK K)|refine jJ fun K hK=>?_|refine jK ?_|refine jL ?_|refine jM ?_|refine jN ?_|refine jO ?_|refine jP ?_|refine jQ ?_|(refine jB ?_;clear hK K)|(refine jC ?_;clear hK K)|refine jD ?_|refine jE ?_|refine jG ?_|refine jH ?_|refine jI ?_)|((with_reducible refine jR ?hq ?_);case hq=>rfl)|((first|(with_reducible first|refine jS fun K hK=>?_|refine jT ?_|refine jU ?_)|((with_reducible refine jV ?hy fun K hK=>?_);case hy=>rfl));simp only [go_sem, Nat.reduceEqDiff, Nat.reduceAdd, Nat.reduceMul, Nat.reduceLeDiff, Nat.reduceLT, Int.reduceLT, Int.reduceLE, Int.reduceEq, Int.reduceNeg, Int.reduceToNat, Nat.reducePow, reduceIte, reduceCtorEq, j0, j6, j7, j11, j12, j13, j14, t1, t4, q0', q4', hm, u4, ew])|((with_reducible first|refine jW ?hy ?_|refine jY ?hy ?_);case hy=>rfl)|((with_reducible first|refine jX ?hy ?_|refine jZ ?hy ?_);case hy=>rfl)|((with_reducible refine jF ?hy ?_);case hy=>decide))
     obtain ⟨g1, g2, g3⟩ := ending _ 1 (by rw [hany, hm]; simp) hfs4 hset4
     exact loop_normal (m' := W.length - (i + 1)) (by omega) ⟨i + 1, rfl, hlt, g1, g2, g3, rfl⟩
    ·have hm' : mk x = false := by simpa using hm
     repeat' (first|(with_reducible first|refine jA ?_|(refine hK _ _ ?_;clear hK K)|refine jJ fun K hK=>?_|refine jK ?_|refine jL ?_|refine jM ?_|refine jN ?_|refine jO ?_|refine jP ?_|refine jQ ?_|(refine jB ?_;clear hK K)|(refine jC ?_;clear hK K)|refine jD ?_|refine jE ?_|refine jG ?_|refine jH ?_|refine jI ?_)|((with_reducible refine jR ?hq ?_);case hq=>rfl)|((first|(with_reducible first|refine jS fun K hK=>?_|refine jT ?_|refine jU ?_)|((with_reducible refine jV ?hy fun K hK=>?_);case hy=>rfl));simp only [go_sem, Nat.reduceEqDiff, Nat.reduceAdd, Nat.reduceMul, Nat.reduceLeDiff, Nat.reduceLT, Int.reduceLT, Int.reduceLE, Int.reduceEq, Int.reduceNeg, Int.reduceToNat, Nat.reducePow, reduceIte, reduceCtorEq, j0, j6, j7, j11, j12, j13, j14, t1, t4, q0', q4', hm', ew])|((with_reducible first|refine jW ?hy ?_|refine jY ?hy ?_);case hy=>rfl)|((with_reducible first|refine jX ?hy ?_|refine jZ ?hy ?_);case hy=>rfl)|((with_reducible refine jF ?hy ?_);case hy=>decide))
     obtain ⟨g1, g2, g3⟩ := ending _ fl (by rw [hany, hm', efl]; simp) (Fr.refl _ _) hset1
     exact loop_normal (m' := W.length - (i + 1)) (by omega) ⟨i + 1, rfl, hlt, g1, g2, g3, rfl⟩
   have m3 := hb'.cellOf (i := 3) rfl
   have u3 := hb'.okW (i := 3) (by simp)
   have hset3 := hb'.set_same 3 (.int .i64 (val x))
   have hf3 : Fr (· = bw) H' (hset H' ⟨bw, 3, none⟩ (.int .i64 (val x))) := Fr.set (S := (· = bw)) (a := ⟨bw, 3, none⟩) (Fr.refl _ H') (.inl rfl) _
   have hmax : maxL ((W.take (i + 1)).map val) = if i = 0 ∨ hi' < val x then val x else hi' := by
    rw [hmap, maxL_snoc, ← ehi]
    simp only [hnil]
   by_cases hi0 : i = 0
   ·have t6 : ((i : Int) == 0) = true := by simp [hi0]
    simp only [t6]
    rw [if_pos (.inl hi0)] at hmax
    repeat' (first|(with_reducible first|refine jA ?_|(refine hK _ _ ?_;clear hK K)|refine jJ fun K hK=>?_|refine jK ?_|refine jL ?_|refine jM ?_|refine jN ?_|refine jO ?_|refine jP ?_|refine jQ ?_|(refine jB ?_;clear hK K)|(refine jC ?_;clear hK K)|refine jD ?_|refine jE ?_|refine jG ?_|refine jH ?_|refine jI ?_)|((with_reducible refine jR ?hq ?_);case hq=>rfl)|((first|(with_reducible first|refine jS fun K hK=>?_|refine jT ?_|refine jU ?_)|((with_reducible refine jV ?hy fun K hK=>?_);case hy=>rfl));simp only [go_sem, Nat.reduceEqDiff, Nat.reduceAdd, Nat.reduceMul, Nat.reduceLeDiff, Nat.reduceLT, Int.reduceLT, Int.reduceLE, Int.reduceEq, Int.reduceNeg, Int.reduceToNat, Nat.reducePow, reduceIte, reduceCtorEq, j0, j6, j7, j11, j12, j13, j14, u3])|((with_reducible first|refine jW ?hy ?_|refine jY ?hy ?_);case hy=>rfl)|((with_reducible first|refine jX ?hy ?_|refine jZ ?hy ?_);case hy=>rfl)|((with_reducible refine jF ?hy ?_);case hy=>decide))
    refine tail20 _ _ j0 j1 j5 j6 j7 j9 j11 j12 j13 j14 ?_ (hf'.trans hf3)
    rw [hmax]; exact hset3
   ·have t6 : ((i : Int) == 0) = false := by simp [hi0]
    simp only [t6]
    by_cases hlo : hi' < val x
    ·have t7 : (hi' < val x) = True := by simp [hlo]
     rw [if_pos (.inr hlo)] at hmax
     repeat' (first|(with_reducible first|refine jA ?_|(refine hK _ _ ?_;clear hK K)|refine jJ fun K hK=>?_|refine jK ?_|refine jL ?_|refine jM ?_|refine jN ?_|refine jO ?_|refine jP ?_|refine jQ ?_|(refine jB ?_;clear hK K)|(refine jC ?_;clear hK K)|refine jD ?_|refine jE ?_|refine jG ?_|refine jH ?_|refine jI ?_)|((with_reducible refine jR ?hq ?_);case hq=>rfl)|((first|(with_reducible first|refine jS fun K hK=>?_|refine jT ?_|refine jU ?_)|((with_reducible refine jV ?hy fun K hK=>?_);case hy=>rfl));simp only [go_sem, Nat.reduceEqDiff, Nat.reduceAdd, Nat.reduceMul, Nat.reduceLeDiff, Nat.reduceLT, Int.reduceLT, Int.reduceLE, Int.reduceEq, Int.reduceNeg, Int.reduceToNat, Nat.reducePow, reduceIte, reduceCtorEq, j0, j6, j7, j11, j12, j13, j14, u3, m3, t7])|((with_reducible first|refine jW ?hy ?_|refine jY ?hy ?_);case hy=>rfl)|((with_reducible first|refine jX ?hy ?_|refine jZ ?hy ?_);case hy=>rfl)|((with_reducible refine jF ?hy ?_);case hy=>decide))
     refine tail20 _ _ j0 j1 j5 j6 j7 j9 j11 j12 j13 j14 ?_ (hf'.trans hf3)
     rw [hmax]; exact hset3
    ·have t7 : (hi' < val x) = False := by simp; omega
     rw [if_neg (fun o => o.elim hi0 hlo)] at hmax
     repeat' (first|(with_reducible first|refine jA ?_|(refine hK _ _ ?_;clear hK K)|refine jJ fun K hK=>?_|refine jK ?_|refine jL ?_|refine jM ?_|refine jN ?_|refine jO ?_|refine jP ?_|refine jQ ?_|(refine jB ?_;clear hK K)|(refine jC ?_;clear hK K)|refine jD ?_|refine jE ?_|refine jG ?_|refine jH ?_|refine jI ?_)|((with_reducible refine jR ?hq ?_);case hq=>rfl)|((first|(with_reducible first|refine jS fun K hK=>?_|refine jT ?_|refine jU ?_)|((with_reducible refine jV ?hy fun K hK=>?_);case hy=>rfl));simp only [go_sem, Nat.reduceEqDiff, Nat.reduceAdd, Nat.reduceMul, Nat.reduceLeDiff, Nat.reduceLT, Int.reduceLT, Int.reduceLE, Int.reduceEq, Int.reduceNeg, Int.reduceToNat, Nat.reducePow, reduceIte, reduceCtorEq, j0, j6, j7, j11, j12, j13, j14, u3, m3, t7])|((with_reducible first|refine jW ?hy ?_|refine jY ?hy ?_);case hy=>rfl)|((with_reducible first|refine jX ?hy ?_|refine jZ ?hy ?_);case hy=>rfl)|((with_reducible refine jF ?hy ?_);case hy=>decide))
     refine tail20 _ _ j0 j1 j5 j6 j7 j9 j11 j12 j13 j14 ?_ hf'
     rw [hmax]; exact hb'
  have m2 := hw3.cellOf (i := 2) rfl
  have u2 := hw3.okW (i := 2) (by simp)
  have hset2 := hw3.set_same 2 (.int .i64 (val x))
  have hf2 : Fr (· = bw) H2 (hset H2 ⟨bw, 2, none⟩ (.int .i64 (val x))) := Fr.set (S := (· = bw)) (a := ⟨bw, 2, none⟩) (Fr.refl _ H2) (.inl rfl) _
  have hmin : minL ((W.take (i + 1)).map val) = if i = 0 ∨ val x < lo then val x else lo := by
   rw [hmap, minL_snoc, ← elo]
   simp only [hnil]
  by_cases hi0 : i = 0
  ·have t6 : ((i : Int) == 0) = true := by simp [hi0]
   simp only [t6]
   rw [if_pos (.inl hi0)] at hmin
   repeat' (first|(with_reducible first|refine jA ?_|(refine hK _ _ ?_;clear hK K)|refine jJ fun K hK=>?_|refine jK ?_|refine jL ?_|refine jM ?_|refine jN ?_|refine jO ?_|refine jP ?_|refine jQ ?_|(refine jB ?_;clear hK K)|(refine jC ?_;clear hK K)|refine jD ?_|refine jE ?_|refine jG ?_|refine jH ?_|refine jI ?_)|((with_reducible refine jR ?hq ?_);case hq=>rfl)|((first|(with_reducible first|refine jS fun K hK=>?_|refine jT ?_|refine jU ?_)|((with_reducible refine jV ?hy fun K hK=>?_);case hy=>rfl));simp only [go_sem, Nat.reduceEqDiff, Nat.reduceAdd, Nat.reduceMul, Nat.reduceLeDiff, Nat.reduceLT, Int.reduceLT, Int.reduceLE, Int.reduceEq, Int.reduceNeg, Int.reduceToNat, Nat.reducePow, reduceIte, reduceCtorEq, i0, i6, i7, i11, i12, i13, u2])|((with_reducible first|refine jW ?hy ?_|refine jY ?hy ?_);case hy=>rfl)|((with_reducible first|refine jX ?hy ?_|refine jZ ?hy ?_);case hy=>rfl)|((with_reducible refine jF ?hy ?_);case hy=>decide))
   refine tail18 _ _ i0 keep.2.1 keep.2.2.1 i6 i7 keep.2.2.2.2.1 i11 i12 i13 rfl ?_ hf2
   rw [hmin]; exact hset2
  ·have t6 : ((i : Int) == 0) = false := by simp [hi0]
   simp only [t6]
   by_cases hlo : val x < lo
   ·have t7 : (val x < lo) = True := by simp [hlo]
    rw [if_pos (.inr hlo)] at hmin
    repeat' (first|(with_reducible first|refine jA ?_|(refine hK _ _ ?_;clear hK K)|refine jJ fun K hK=>?_|refine jK ?_|refine jL ?_|refine jM ?_|refine jN ?_|refine jO ?_|refine jP ?_|refine jQ ?_|(refine jB ?_;clear hK K)|(refine jC ?_;clear hK K)|refine jD ?_|refine jE ?_|refine jG ?_|refine jH ?_|refine jI ?_)|((with_reducible refine jR ?hq ?_);case hq=>rfl)|((first|(with_reducible first|refine jS fun K hK=>?_|refine jT ?_|refine jU ?_)|((with_reducible refine jV ?hy fun K hK=>?_);case hy=>rfl));simp only [go_sem, Nat.reduceEqDiff, Nat.reduceAdd, Nat.reduceMul, Nat.reduceLeDiff, Nat.reduceLT, Int.reduceLT, Int.reduceLE, Int.reduceEq, Int.reduceNeg, Int.reduceToNat, Nat.reducePow, reduceIte, reduceCtorEq, i0, i6, i7, i11, i12, i13, u2, m2, t7])|((with_reducible first|refine jW ?hy ?_|refine jY ?hy ?_);case hy=>rfl)|((with_reducible first|refine jX ?hy ?_|refine jZ ?hy ?_);case hy=>rfl)|((with_reducible refine jF ?hy ?_);case hy=>decide))
    refine tail18 _ _ i0 keep.2.1 keep.2.2.1 i6 i7 keep.2.2.2.2.1 i11 i12 i13 rfl ?_ hf2
    rw [hmin]; exact hset2
   ·have t7 : (val x < lo) = False := by simp; omega
    rw [if_neg (fun o => o.elim hi0 hlo)] at hmin
    repeat' (first|(with_reducible first|refine jA ?_|(refine hK _ _ ?_;clear hK K)|refine jJ fun K hK=>?_|refine jK ?_|refine jL ?_|refine jM ?_|refine jN ?_|refine jO ?_|refine jP ?_|refine jQ ?_|(refine jB ?_;clear hK K)|(refine jC ?_;clear hK K)|refine jD ?_|refine jE ?_|refine jG ?_|refine jH ?_|refine jI ?_)|((with_reducible refine jR ?hq ?_);case hq=>rfl)|((first|(with_reducible first|refine jS fun K hK=>?_|refine jT ?_|refine jU ?_)|((with_reducible refine jV ?hy fun K hK=>?_);case hy=>rfl));simp only [go_sem, Nat.reduceEqDiff, Nat.reduceAdd, Nat.reduceMul, Nat.reduceLeDiff, Nat.reduceLT, Int.reduceLT, Int.reduceLE, Int.reduceEq, Int.reduceNeg, Int.reduceToNat, Nat.reducePow, reduceIte, reduceCtorEq, i0, i6, i7, i11, i12, i13, u2, m2, t7])|((with_reducible first|refine jW ?hy ?_|refine jY ?hy ?_);case hy=>rfl)|((with_reducible first|refine jX ?hy ?_|refine jZ ?hy ?_);case hy=>rfl)|((with_reducible refine jF ?hy ?_);case hy=>decide))
    refine tail18 _ _ i0 keep.2.1 keep.2.2.1 i6 i7 keep.2.2.2.2.1 i11 i12 i13 rfl ?_ (Fr.refl _ _)
    rw [hmin]; exact hw3
 ·have t1 : (i < W.length) = False := by simp [hlt]
  obtain ⟨aw, cw, rfl⟩ := hw.slice
  rw [mapl] at i7
  repeat' (first|(with_reducible first|refine jA ?_|(refine hK _ _ ?_;clear hK K)|refine jJ fun K hK=>?_|refine jK ?_|refine jL ?_|refine jM ?_|refine jN ?_|refine jO ?_|refine jP ?_|refine jQ ?_|(refine jB ?_;clear hK K)|(refine jC ?_;clear hK K)|refine jD ?_|refine jE ?_|refine jG ?_|refine jH ?_|refine jI ?_)|((with_reducible refine jR ?hq ?_);case hq=>rfl)|((first|(with_reducible first|refine jS fun K hK=>?_|refine jT ?_|refine jU ?_)|((with_reducible refine jV ?hy fun K hK=>?_);case hy=>rfl));simp only [go_sem, Nat.reduceEqDiff, Nat.reduceAdd, Nat.reduceMul, Nat.reduceLeDiff, Nat.reduceLT, Int.reduceLT, Int.reduceLE, Int.reduceEq, Int.reduceNeg, Int.reduceToNat, Nat.reducePow, reduceIte, reduceCtorEq, i7, i13, t1])|((with_reducible first|refine jW ?hy ?_|refine jY ?hy ?_);case hy=>rfl)|((with_reducible first|refine jX ?hy ?_|refine jZ ?hy ?_);case hy=>rfl)|((with_reducible refine jF ?hy ?_);case hy=>decide))
  have : W.take i = W := List.take_of_length_le (by omega)
  rw [this] at hw1
  exact hQ _ _ keep.1 keep.2.1 keep.2.2.1 keep.2.2.2.1 keep.2.2.2.2.1 keep.2.2.2.2.2 hfr hw1
end
end Go.Proofs.Ytnlafhnbakipmaa
namespace Go.To
open Go Go.Hp Go.Sp Go.Proofs.Ytnlafhnbakipmaa
set_option linter.unusedVariables false
section
variable {Q : Tq}
theorem valsL_row : ∀ xs : List St, valsL (xs.map Q.item) = (wl xs).map Q.val
 | [] => rfl
 | x :: xs => by
  have ih := valsL_row xs
  unfold valsL wl at ih ⊢
  by_cases h : x.1 = x.2
  ·have e : Q.item x = stopIt (Q.val x.1) (Q.on x.1) := by unfold Tq.item; rw [if_pos h]
   rw [List.map_cons, List.filter_cons_of_pos (by rw [e]; rfl), List.map_cons, ih, List.filter_cons_of_pos (by simp [h]), List.map_cons, List.map_cons, e]
   rfl
  ·have e : Q.item x = stepIt (Q.em x.1 x.2) := by unfold Tq.item; rw [if_neg h]
   rw [List.map_cons, List.filter_cons_of_neg (by rw [e]; simp [stepIt]), ih, List.filter_cons_of_neg (by simp [h])]
theorem flags_plain (hem : ∀ a b, Q.em a b = false) : ∀ xs : List St, flagsL (xs.map Q.item) = if (wl xs).any Q.on then 1 else 0
 | [] => rfl
 | x :: xs => by
  have ih := flags_plain hem xs
  rw [List.map_cons, flagsL, ih]
  by_cases h : x.1 = x.2
  ·have e : Q.item x = stopIt (Q.val x.1) (Q.on x.1) := by unfold Tq.item; rw [if_pos h]
   have e2 : wl (x :: xs) = x.1 :: wl xs := by unfold wl; rw [List.filter_cons_of_pos (by simp [h])]; rfl
   rw [e, e2, List.any_cons]
   cases Q.on x.1 <;> cases (wl xs).any Q.on <;> simp [stopIt]
  ·have e : Q.item x = stepIt (Q.em x.1 x.2) := by unfold Tq.item; rw [if_neg h]
   have e2 : wl (x :: xs) = wl xs := by unfold wl; rw [List.filter_cons_of_neg (by simp [h])]
   rw [e, e2, hem]
   cases (wl xs).any Q.on <;> simp [stepIt]
theorem sumQ_plain (hem : ∀ a b, Q.em a b = false) {v : Nat} (hv : v < Q.n) : Q.sumQ (v : Int) = (⟨((wl (Q.row v)).length : Nat), ((wl (Q.row v)).map Q.val).sum, minL ((wl (Q.row v)).map Q.val), maxL ((wl (Q.row v)).map Q.val), if (wl (Q.row v)).any Q.on then 1 else 0⟩, 0) := by
 unfold Tq.sumQ
 rw [inB_of hv]
 simp only [if_true, Int.toNat_natCast]
 unfold aggL
 rw [valsL_row, flags_plain hem, List.length_map]
 cases (wl (Q.row v)).any Q.on <;> rfl
theorem tree_count (hok : Q.Ok) {v : Nat} (hv : v < Q.n) : ((List.range Q.n).filter fun x => decide ((x, x) ∈ Q.row v)).length = (wl (Q.row v)).length := by
 refine List.Perm.length_eq ((List.perm_ext_iff_of_nodup (List.nodup_range.filter _) (wl_nodup (hok.nd v hv))).2 fun x => ?_)
 rw [List.mem_filter, List.mem_range, mem_wl]
 simp only [decide_eq_true_eq]
 exact ⟨fun h => h.2, fun h => ⟨(hok.same v hv x h).1, h⟩⟩
theorem same_comm (hok : Q.Ok) {u v : Nat} (hu : u < Q.n) (hv : v < Q.n) : (v, v) ∈ Q.row u ↔ (u, u) ∈ Q.row v :=
 ⟨fun h => by rw [(hok.same u hu v h).2]; exact hok.self u hu, fun h => by rw [(hok.same v hv u h).2]; exact hok.self v hv⟩
end
end Go.To
namespace Go.Proofs.Ytnlafhnbakipmaa
open Go Go.Hp Go.Sp Go.To
set_option linter.all false
set_option maxRecDepth 100000
set_option maxHeartbeats 1600000
section
variable {H0 H H' : Heap} {e : Env} {Z : HX → Env → Heap → Prop} {t : Nat} {T T' : Nat → Prop} {Q : Tq} {l on : List St}
structure Since (H : Heap) (T : Nat → Prop) (H' : Heap) (t : Nat) (T' : Nat → Prop) (Q : Tq) : Prop where
 to : ToM H' t T' Q
 fr : Fr T H H'
 own : ∀ b, T' b → T b ∨ H.size ≤ b
theorem Since.refl (h : ToM H t T Q) : Since H T H t T Q := ⟨h, Fr.refl _ _, fun _ h => .inl h⟩
theorem Since.op {H'' : Heap} {T'' : Nat → Prop} {Q' : Tq} (h : Since H T H' t T' Q) (hM : ToM H'' t T'' Q') (hf : Fr T' H' H'') (hT : ∀ b, T'' b → T' b ∨ H'.size ≤ b) : Since H T H'' t T'' Q' :=
 ⟨hM, h.fr.trans' hf fun b hb hx => (h.own b hx).elim id fun o => by omega, fun b hb => by
  rcases hT b hb with o | o
  ·exact h.own b o
  ·exact .inr (Nat.le_trans h.fr.size o)⟩
theorem Since.grow {H'' : Heap} (h : Since H T H' t T' Q) (hf : Fr (fun _ => False) H' H'') : Since H T H'' t T' Q :=
 ⟨h.to.grow hf, h.fr.trans (hf.mono fun _ _ h => h.elim), h.own⟩
theorem stB {n g bb v : Nat} {bs : List Bool} {v1 v2 v3 : Value} (hM : ToM H t T Q) (hQn : Q.n = n) (hv : v < n) (hb : BR H (some g) (.slice (some ⟨g, 0, none⟩) n n) bs) (hbs : ∀ x, x < n → bs[x]? = some (decide ((x, x) ∈ Q.row v)))
  (hk : Blk H bb [.int .i64 n, v1, v2, v3]) (a1 : ¬ T g) (a2 : ¬ T bb)
  (e0 : e 0 = .pointer (some ⟨bb, 0, none⟩)) (e1 : e 1 = .pointer (some ⟨t, 0, none⟩)) (e5 : e 5 = .int .i64 (v : Nat)) (e6 : e 6 = .slice (some ⟨g, 0, none⟩) n n) (e15 : e 15 = .int .i64 0) (e16 : e 16 = .int .i64 0)
  (hQ : ∀ e' H' T', e' 0 = e 0 → e' 1 = e 1 → e' 5 = e 5 → e' 9 = e 9 → e' 11 = e 11 → e' 15 = .int .i64 ((wl (Q.row v)).length : Nat) → Since H T H' t T' Q → Z .normal e' H') :
  codeX Try.prog [4, 14, 17, 23] (loopAt Try.f21.body 2) (blockQ 4 Z) e H := by
 have hok := hM.ok
 have hn64 := hok.n64
 obtain ⟨cnt, ecnt⟩ : ∃ cnt : Nat → Nat, cnt = fun i => ((List.range i).filter fun x => decide ((x, x) ∈ Q.row v)).length := ⟨_, rfl⟩
 have hc0 : cnt 0 = 0 := by rw [ecnt]; rfl
 have hcs : ∀ i, cnt (i + 1) = cnt i + if (i, i) ∈ Q.row v then 1 else 0 := fun i => by
  rw [ecnt]
  simp only [List.range_succ, List.filter_append, List.length_append]
  congr 1
  by_cases h : (i, i) ∈ Q.row v <;> simp [h]
 have hcl : ∀ i, cnt i ≤ i := fun i => by rw [ecnt]; exact Nat.le_trans (List.length_filter_le _ _) (by simp)
 refine x_loop (fun m e' H' => ∃ (u : Nat) (T' : Nat → Prop), e' 16 = .int .i64 (u : Nat) ∧ e' 15 = .int .i64 (cnt u : Nat) ∧ u ≤ n ∧ Since H T H' t T' Q ∧ m = n - u) n
  ⟨0, T, e16, by rw [hc0]; exact e15, Nat.zero_le _, .refl hM, rfl⟩ ?_
 rintro m e2 H1 ⟨u, T1, i16, i15, hu, hS, rfl⟩ hoff
 have i0 := (hoff 0 rfl).trans e0
 have i1 := (hoff 1 rfl).trans e1
 have i5 := (hoff 5 rfl).trans e5
 have i6 := (hoff 6 rfl).trans e6
 have keep : e2 0 = e 0 ∧ e2 1 = e 1 ∧ e2 5 = e 5 ∧ e2 9 = e 9 ∧ e2 11 = e 11 := ⟨hoff 0 rfl, hoff 1 rfl, hoff 5 rfl, hoff 9 rfl, hoff 11 rfl⟩
 clear hoff
 have ew : IntKind.i64.wrap ((u : Int) + 1) = ((u + 1 : Nat) : Int) := by rw [wrap_i64] <;> omega
 have k0 := (hk.frame hS.fr a2).cellOf (i := 0) rfl
 by_cases hlt : u < n
 ·have t1 : (u < n) = True := by simp [hlt]
  repeat' (first|(with_reducible first|refine jA ?_|(refine hK _ _ ?_;clear hK K)|refine jJ fun K hK=>?_|refine jK ?_|refine jL ?_|refine jM ?_|refine jN ?_|refine jO ?_|refine jP ?_|refine jQ ?_|(refine jB ?_;clear hK K)|(refine jC ?_;clear hK K)|refine jD ?_|refine jE ?_|refine jG ?_|refine jH ?_|refine jI ?_)|((with_reducible refine jR ?hq ?_);case hq=>rfl)|((first|(with_reducible first|refine jS fun K hK=>?_|refine jT ?_|refine jU ?_)|((with_reducible refine jV ?hy fun K hK=>?_);case hy=>rfl));simp only [go_sem, Nat.reduceEqDiff, Nat.reduceAdd, Nat.reduceMul, Nat.reduceLeDiff, Nat.reduceLT, Int.reduceLT, Int.reduceLE, Int.reduceEq, Int.reduceNeg, Int.reduceToNat, Nat.reducePow, reduceIte, reduceCtorEq, i0, i1, i5, i6, i15, i16, k0, t1])|((with_reducible first|refine jW ?hy ?_|refine jY ?hy ?_);case hy=>rfl)|((with_reducible first|refine jX ?hy ?_|refine jZ ?hy ?_);case hy=>rfl)|((with_reducible refine jF ?hy ?_);case hy=>decide))
  refine tq_same hS.to fun H2 T2 hM2 hf2 hT2 => ?_
  have hS2 := hS.op hM2 hf2 hT2
  rw [sameQ_ok (show u < Q.n by omega) (show v < Q.n by omega)]
  have eb : decide ((v, v) ∈ Q.row u) = decide ((u, u) ∈ Q.row v) := decide_eq_decide.2 (same_comm hok (by omega) (by omega))
  rw [eb]
  have hbu := hbs u hlt
  have hb2 := hb.frame hS2.fr fun b hb => by obtain rfl := Option.some.inj hb; exact a1
  have d1 := hb2.cell hbu
  obtain ⟨z, ez⟩ : ∃ z, z = decide ((u, u) ∈ Q.row v) := ⟨_, rfl⟩
  have hs := hcs u
  have hcu := hcl u
  have ew2 : IntKind.i64.wrap ((cnt u : Int) + 1) = ((cnt u + 1 : Nat) : Int) := by rw [wrap_i64] <;> omega
  have z0 : ((0 : Int) != 0) = false := rfl
  have z1 : (z != z) = false := by simp
  rw [← ez] at d1 ⊢
  cases z with
  | true =>
   rw [if_pos (by simpa using ez.symm)] at hs
   repeat' (first|(with_reducible first|refine jA ?_|(refine hK _ _ ?_;clear hK K)|refine jJ fun K hK=>?_|refine jK ?_|refine jL ?_|refine jM ?_|refine jN ?_|refine jO ?_|refine jP ?_|refine jQ ?_|(refine jB ?_;clear hK K)|(refine jC ?_;clear hK K)|refine jD ?_|refine jE ?_|refine jG ?_|refine jH ?_|refine jI ?_)|((with_reducible refine jR ?hq ?_);case hq=>rfl)|((first|(with_reducible first|refine jS fun K hK=>?_|refine jT ?_|refine jU ?_)|((with_reducible refine jV ?hy fun K hK=>?_);case hy=>rfl));simp only [go_sem, Nat.reduceEqDiff, Nat.reduceAdd, Nat.reduceMul, Nat.reduceLeDiff, Nat.reduceLT, Int.reduceLT, Int.reduceLE, Int.reduceEq, Int.reduceNeg, Int.reduceToNat, Nat.reducePow, reduceIte, reduceCtorEq, i0, i1, i5, i6, i15, i16, d1, t1, z0, z1, ew, ew2])|((with_reducible first|refine jW ?hy ?_|refine jY ?hy ?_);case hy=>rfl)|((with_reducible first|refine jX ?hy ?_|refine jZ ?hy ?_);case hy=>rfl)|((with_reducible refine jF ?hy ?_);case hy=>decide))
   exact loop_normal (m' := n - (u + 1)) (by omega) ⟨u + 1, T2, rfl, by rw [hs]; rfl, hlt, hS2, rfl⟩
  | false =>
   rw [if_neg (by simpa using ez.symm)] at hs
   repeat' (first|(with_reducible first|refine jA ?_|(refine hK _ _ ?_;clear hK K)|refine jJ fun K hK=>?_|refine jK ?_|refine jL ?_|refine jM ?_|refine jN ?_|refine jO ?_|refine jP ?_|refine jQ ?_|(refine jB ?_;clear hK K)|(refine jC ?_;clear hK K)|refine jD ?_|refine jE ?_|refine jG ?_|refine jH ?_|refine jI ?_)|((with_reducible refine jR ?hq ?_);case hq=>rfl)|((first|(with_reducible first|refine jS fun K hK=>?_|refine jT ?_|refine jU ?_)|((with_reducible refine jV ?hy fun K hK=>?_);case hy=>rfl));simp only [go_sem, Nat.reduceEqDiff, Nat.reduceAdd, Nat.reduceMul, Nat.reduceLeDiff, Nat.reduceLT, Int.reduceLT, Int.reduceLE, Int.reduceEq, Int.reduceNeg, Int.reduceToNat, Nat.reducePow, reduceIte, reduceCtorEq, i0, i1, i5, i6, i15, i16, d1, t1, z0, z1, ew, ew2])|((with_reducible first|refine jW ?hy ?_|refine jY ?hy ?_);case hy=>rfl)|((with_reducible first|refine jX ?hy ?_|refine jZ ?hy ?_);case hy=>rfl)|((with_reducible refine jF ?hy ?_);case hy=>decide))
   exact loop_normal (m' := n - (u + 1)) (by omega) ⟨u + 1, T2, rfl, by rw [hs]; exact i15, hlt, hS2, rfl⟩
 ·have t1 : (u < n) = False := by simp [hlt]
  repeat' (first|(with_reducible first|refine jA ?_|(refine hK _ _ ?_;clear hK K)|refine jJ fun K hK=>?_|refine jK ?_|refine jL ?_|refine jM ?_|refine jN ?_|refine jO ?_|refine jP ?_|refine jQ ?_|(refine jB ?_;clear hK K)|(refine jC ?_;clear hK K)|refine jD ?_|refine jE ?_|refine jG ?_|refine jH ?_|refine jI ?_)|((with_reducible refine jR ?hq ?_);case hq=>rfl)|((first|(with_reducible first|refine jS fun K hK=>?_|refine jT ?_|refine jU ?_)|((with_reducible refine jV ?hy fun K hK=>?_);case hy=>rfl));simp only [go_sem, Nat.reduceEqDiff, Nat.reduceAdd, Nat.reduceMul, Nat.reduceLeDiff, Nat.reduceLT, Int.reduceLT, Int.reduceLE, Int.reduceEq, Int.reduceNeg, Int.reduceToNat, Nat.reducePow, reduceIte, reduceCtorEq, i0, i16, k0, t1])|((with_reducible first|refine jW ?hy ?_|refine jY ?hy ?_);case hy=>rfl)|((with_reducible first|refine jX ?hy ?_|refine jZ ?hy ?_);case hy=>rfl)|((with_reducible refine jF ?hy ?_);case hy=>decide))
  obtain rfl : u = n := by omega
  have := tree_count hok (v := v) (by omega)
  rw [hQn] at this
  refine hQ _ _ _ keep.1 keep.2.1 keep.2.2.1 keep.2.2.2.1 keep.2.2.2.2 (i15.trans (by rw [← this, ecnt])) hS
end
end Go.Proofs.Ytnlafhnbakipmaa
namespace Go.Proofs.Ytnlafhnbakipmaa
open Go Go.Hp Go.Sp Go.To
set_option linter.all false
set_option maxRecDepth 100000
set_option maxHeartbeats 1600000
structure BkM (H : Heap) (bb gv go n : Nat) (val : Nat → Int) (mk : Nat → Bool) (Bl : Option Nat) (vl : Value) (l : List St) : Prop where
 k : Blk H bb [.int .i64 n, .slice (some ⟨gv, 0, none⟩) n n, .slice (some ⟨go, 0, none⟩) n n, vl]
 v : IR H (some gv) (.slice (some ⟨gv, 0, none⟩) n n) (vrow n val)
 o : BR H (some go) (.slice (some ⟨go, 0, none⟩) n n) (brow n mk)
 l : SR pairC 2 H Bl vl l
section
variable {H0 H H' : Heap} {e : Env} {Z : HX → Env → Heap → Prop} {t bb gv go n : Nat} {T T' : Nat → Prop} {Q : Tq} {l on : List St} {val : Nat → Int} {mk : Nat → Bool} {Bl : Option Nat} {vl : Value}
def bkOwn (bb gv go : Nat) (Bl : Option Nat) (b : Nat) : Prop := b = bb ∨ b = gv ∨ b = go ∨ Bl = some b
theorem BkM.frame {S : Nat → Prop} (h : BkM H bb gv go n val mk Bl vl l) (hf : Fr S H H') (hS : ∀ b, bkOwn bb gv go Bl b → ¬ S b) : BkM H' bb gv go n val mk Bl vl l where
 k := h.k.frame hf (hS _ (.inl rfl))
 v := h.v.frame hf fun b hb => by obtain rfl := Option.some.inj hb; exact hS _ (.inr (.inl rfl))
 o := h.o.frame hf fun b hb => by obtain rfl := Option.some.inj hb; exact hS _ (.inr (.inr (.inl rfl)))
 l := h.l.frame hf fun b hb => hS _ (.inr (.inr (.inr hb)))
theorem BkM.lt (h : BkM H bb gv go n val mk Bl vl l) {b : Nat} (hb : bkOwn bb gv go Bl b) : b < H.size := by
 rcases hb with rfl | rfl | rfl | hb
 ·exact h.k.lt
 ·exact h.v.lt rfl
 ·exact h.o.lt rfl
 ·exact h.l.lt hb
theorem Since.frame {S : Nat → Prop} {H'' : Heap} (h : Since H T H' t T' Q) (hf : Fr S H' H'') (h1 : ∀ b, S b → H.size ≤ b) (h2 : ∀ b, S b → ¬ T' b) : Since H T H'' t T' Q :=
 ⟨h.to.frame hf fun b hb hs => h2 b hs hb, h.fr.trans' hf fun b hb hs => by have := h1 b hs; omega, h.own⟩
theorem stands_ok {L : Value → Heap → Prop} (hM : ToM H t T Q) (hB : BkM H bb gv go n Q.val Q.on Bl vl l) (hap : ∀ b, bkOwn bb gv go Bl b → ¬ T b) (hbk : Bk Q l) (hem : ∀ a b, Q.em a b = false) (hQn : Q.n = n) (hll : l.length ≤ 200)
  (fin : ∀ H' T', Since H T H' t T' Q → L (.bool true) H') : CallsH Try.prog 21 #[.pointer (some ⟨bb, 0, none⟩), .pointer (some ⟨t, 0, none⟩)] H L := by
 have hok := hM.ok
 have hn64 := hok.n64
 have hn1 := hok.n1
 obtain ⟨al, cl, rfl⟩ := hB.l.slice
 refine call21 (by simp) ?_
 simp only [Try.f21, Option.getD_some]
 repeat' (first|(with_reducible first|refine jA ?_|(refine hK _ _ ?_;clear hK K)|refine jJ fun K hK=>?_|refine jK ?_|refine jL ?_|refine jM ?_|refine jN ?_|refine jO ?_|refine jP ?_|refine jQ ?_|(refine jB ?_;clear hK K)|(refine jC ?_;clear hK K)|refine jD ?_|refine jE ?_|refine jG ?_|refine jH ?_|refine jI ?_)|((with_reducible refine jR ?hq ?_);case hq=>rfl)|((first|(with_reducible first|refine jS fun K hK=>?_|refine jT ?_|refine jU ?_)|((with_reducible refine jV ?hy fun K hK=>?_);case hy=>rfl));simp only [go_sem, Nat.reduceEqDiff, Nat.reduceAdd, Nat.reduceMul, Nat.reduceLeDiff, Nat.reduceLT, Int.reduceLT, Int.reduceLE, Int.reduceEq, Int.reduceNeg, Int.reduceToNat, Nat.reducePow, reduceIte, reduceCtorEq])|((with_reducible first|refine jW ?hy ?_|refine jY ?hy ?_);case hy=>rfl)|((with_reducible first|refine jX ?hy ?_|refine jZ ?hy ?_);case hy=>rfl)|((with_reducible refine jF ?hy ?_);case hy=>decide))
 refine x_loop (fun m e' H' => ∃ (v : Nat) (T' : Nat → Prop), e' 5 = .int .i64 (v : Nat) ∧ v ≤ n ∧ Since H T H' t T' Q ∧ m = n - v) n ⟨0, T, rfl, Nat.zero_le _, .refl hM, rfl⟩ ?_
 rintro m e1 H1 ⟨v, T1, i5, hv, hS1, rfl⟩ hoff
 have i0 : e1 0 = .pointer (some ⟨bb, 0, none⟩) := (hoff 0 rfl).trans rfl
 have i1 : e1 1 = .pointer (some ⟨t, 0, none⟩) := (hoff 1 rfl).trans rfl
 clear hoff
 have ew : IntKind.i64.wrap ((v : Int) + 1) = ((v + 1 : Nat) : Int) := by rw [wrap_i64] <;> omega
 have hB1 := hB.frame hS1.fr hap
 have k0 := hB1.k.cellOf (i := 0) rfl
 have k3 := hB1.k.cellOf (i := 3) rfl
 by_cases hlt : v < n
 ·have hvQ : v < Q.n := by omega
  have t1 : (v < n) = True := by simp [hlt]
  repeat' (first|(with_reducible first|refine jA ?_|(refine hK _ _ ?_;clear hK K)|refine jJ fun K hK=>?_|refine jK ?_|refine jL ?_|refine jM ?_|refine jN ?_|refine jO ?_|refine jP ?_|refine jQ ?_|(refine jB ?_;clear hK K)|(refine jC ?_;clear hK K)|refine jD ?_|refine jE ?_|refine jG ?_|refine jH ?_|refine jI ?_)|((with_reducible refine jR ?hq ?_);case hq=>rfl)|((first|(with_reducible first|refine jS fun K hK=>?_|refine jT ?_|refine jU ?_)|((with_reducible refine jV ?hy fun K hK=>?_);case hy=>rfl));simp only [go_sem, Nat.reduceEqDiff, Nat.reduceAdd, Nat.reduceMul, Nat.reduceLeDiff, Nat.reduceLT, Int.reduceLT, Int.reduceLE, Int.reduceEq, Int.reduceNeg, Int.reduceToNat, Nat.reducePow, reduceIte, reduceCtorEq, i0, i1, i5, k0, k3, t1])|((with_reducible first|refine jW ?hy ?_|refine jY ?hy ?_);case hy=>rfl)|((with_reducible first|refine jX ?hy ?_|refine jZ ?hy ?_);case hy=>rfl)|((with_reducible refine jF ?hy ?_);case hy=>decide))
  refine joined_ok hB1.l (by omega) (fun p hp => by have := hbk.ends hok p hp; omega) hlt (by omega) fun H2 g bs hb hlen hbs hg hf2 => ?_
  have hS2 := hS1.grow hf2
  have bs1 : ∀ x, x < n → bs[x]? = some (decide ((x, x) ∈ Q.row v)) := fun x hx => by
   obtain ⟨b, hb⟩ : ∃ b, bs[x]? = some b := ⟨_, List.getElem?_eq_getElem (by omega)⟩
   rw [hb]
   have h1 := hbs x
   rw [hb, hbk.reach hok hvQ (by omega)] at h1
   cases b with
   | true => rw [decide_eq_true (h1.1 rfl).2]
   | false =>
    rw [decide_eq_false]
    intro hm
    have := h1.2 ⟨hx, hm⟩
    cases this
  have glt := hb.lt rfl
  have gnew : ∀ b, b < H.size → b ≠ g := fun b hb => by have := hS1.fr.size; omega
  repeat' (first|(with_reducible first|refine jA ?_|(refine hK _ _ ?_;clear hK K)|refine jJ fun K hK=>?_|refine jK ?_|refine jL ?_|refine jM ?_|refine jN ?_|refine jO ?_|refine jP ?_|refine jQ ?_|(refine jB ?_;clear hK K)|(refine jC ?_;clear hK K)|refine jD ?_|refine jE ?_|refine jG ?_|refine jH ?_|refine jI ?_)|((with_reducible refine jR ?hq ?_);case hq=>rfl)|((first|(with_reducible first|refine jS fun K hK=>?_|refine jT ?_|refine jU ?_)|((with_reducible refine jV ?hy fun K hK=>?_);case hy=>rfl));simp only [go_sem, Nat.reduceEqDiff, Nat.reduceAdd, Nat.reduceMul, Nat.reduceLeDiff, Nat.reduceLT, Int.reduceLT, Int.reduceLE, Int.reduceEq, Int.reduceNeg, Int.reduceToNat, Nat.reducePow, reduceIte, reduceCtorEq, i0, i1, i5])|((with_reducible first|refine jW ?hy ?_|refine jY ?hy ?_);case hy=>rfl)|((with_reducible first|refine jX ?hy ?_|refine jZ ?hy ?_);case hy=>rfl)|((with_reducible refine jF ?hy ?_);case hy=>decide))
  refine tq_walk hS2.to fun H3 T3 Bo vo hM3 hi3 hBo hf3 hT3 => ?_
  have hS3 := hS2.op hM3 hf3 hT3
  rw [walkQ_ok hvQ] at hi3 ⊢
  have hb3 := hb.frame hf3 fun b hb hx => by
   obtain rfl := Option.some.inj hb
   have := hS1.to.lt hx
   omega
  have gT : ¬ T3 g := fun hx => by
   rcases hT3 g hx with h | h
   ·have := hS1.to.lt h; omega
   ·omega
  have k3' := KR.new hi3 hBo
  repeat' (first|(with_reducible first|refine jA ?_|(refine hK _ _ ?_;clear hK K)|refine jJ fun K hK=>?_|refine jK ?_|refine jL ?_|refine jM ?_|refine jN ?_|refine jO ?_|refine jP ?_|refine jQ ?_|(refine jB ?_;clear hK K)|(refine jC ?_;clear hK K)|refine jD ?_|refine jE ?_|refine jG ?_|refine jH ?_|refine jI ?_)|((with_reducible refine jR ?hq ?_);case hq=>rfl)|((first|(with_reducible first|refine jS fun K hK=>?_|refine jT ?_|refine jU ?_)|((with_reducible refine jV ?hy fun K hK=>?_);case hy=>rfl));simp only [go_sem, Nat.reduceEqDiff, Nat.reduceAdd, Nat.reduceMul, Nat.reduceLeDiff, Nat.reduceLT, Int.reduceLT, Int.reduceLE, Int.reduceEq, Int.reduceNeg, Int.reduceToNat, Nat.reducePow, reduceIte, reduceCtorEq, i0, i1, i5])|((with_reducible first|refine jW ?hy ?_|refine jY ?hy ?_);case hy=>rfl)|((with_reducible first|refine jX ?hy ?_|refine jZ ?hy ?_);case hy=>rfl)|((with_reducible refine jF ?hy ?_);case hy=>decide))
  refine tq_sum hS3.to fun H4 T4 hM4 hf4 hT4 => ?_
  have hS4 := hS3.op hM4 hf4 hT4
  rw [sumQ_plain hem hvQ]
  have hb4 := hb3.frame hf4 fun b hb => by obtain rfl := Option.some.inj hb; exact gT
  have k4 := k3'.op hf4 hT4
  have gT4 : ¬ T4 g := fun hx => (hT4 g hx).elim gT fun h => by have := hb3.lt rfl; omega
  obtain ⟨W, eW⟩ : ∃ W, W = wl (Q.row v) := ⟨_, rfl⟩
  rw [← eW] at k4 ⊢
  have lW : W.length ≤ 64 := by rw [eW]; exact wl_len hok hvQ
  have lWm : (W.map Int.ofNat).length = W.length := by simp
  obtain ⟨ao, co, rfl⟩ := k4.sl lWm
  have bn := Blk.new H4 [.int .i64 0, .int .i64 0, .int .i64 0, .int .i64 0, .int .i64 0] 57
  have fn : Fr (fun _ => False) H4 (H4.push (.cells #[.int .i64 0, .int .i64 0, .int .i64 0, .int .i64 0, .int .i64 0] 57)) := (Fr.refl _ H4).push _
  have w0 := bn.okW (i := 0) (by simp)
  have w1 := bn.okW (i := 1) (by simp)
  have w2 := bn.okW (i := 2) (by simp)
  have w3 := bn.okW (i := 3) (by simp)
  have w4 := bn.okW (i := 4) (by simp)
  obtain ⟨s, es⟩ : ∃ s, s = (W.map Q.val).sum := ⟨_, rfl⟩
  obtain ⟨lo, elo⟩ : ∃ s, s = minL (W.map Q.val) := ⟨_, rfl⟩
  obtain ⟨hi, ehi⟩ : ∃ s, s = maxL (W.map Q.val) := ⟨_, rfl⟩
  obtain ⟨fl, efl⟩ : ∃ s : Int, s = if W.any Q.on then 1 else 0 := ⟨_, rfl⟩
  rw [← es, ← elo, ← ehi, ← efl]
  have z0 : ((0 : Int) != 0) = false := rfl
  repeat' (first|(with_reducible first|refine jA ?_|(refine hK _ _ ?_;clear hK K)|refine jJ fun K hK=>?_|refine jK ?_|refine jL ?_|refine jM ?_|refine jN ?_|refine jO ?_|refine jP ?_|refine jQ ?_|(refine jB ?_;clear hK K)|(refine jC ?_;clear hK K)|refine jD ?_|refine jE ?_|refine jG ?_|refine jH ?_|refine jI ?_)|((with_reducible refine jR ?hq ?_);case hq=>rfl)|((first|(with_reducible first|refine jS fun K hK=>?_|refine jT ?_|refine jU ?_)|((with_reducible refine jV ?hy fun K hK=>?_);case hy=>rfl));simp only [go_sem, Nat.reduceEqDiff, Nat.reduceAdd, Nat.reduceMul, Nat.reduceLeDiff, Nat.reduceLT, Int.reduceLT, Int.reduceLE, Int.reduceEq, Int.reduceNeg, Int.reduceToNat, Nat.reducePow, reduceIte, reduceCtorEq, i0, i1, i5, Agg.val, w0, w1, w2, w3, w4, okW_hset, z0])|((with_reducible first|refine jW ?hy ?_|refine jY ?hy ?_);case hy=>rfl)|((with_reducible first|refine jX ?hy ?_|refine jZ ?hy ?_);case hy=>rfl)|((with_reducible refine jF ?hy ?_);case hy=>decide))
  obtain ⟨b5, f5⟩ := store5 bn (.int .i64 (W.length : Nat)) (.int .i64 s) (.int .i64 lo) (.int .i64 hi) (.int .i64 fl)
  generalize hset _ _ _ = H5 at b5 f5 ⊢
  have f45 : Fr (fun _ => False) H4 H5 := fn.trans' f5 fun b hb (e : b = H4.size) => by omega
  have hS5 := hS4.grow f45
  have s0 := b5.cellOf (i := 0) rfl
  have zl : ((W.length : Int) != (W.length : Int)) = false := by simp
  refine ⟨_, s0, ?_⟩
  have bn6 := Blk.new H5 [.int .i64 0, .int .i64 0, .int .i64 0, .int .i64 0, .int .i64 0] 57
  have fn6 : Fr (fun _ => False) H5 (H5.push (.cells #[.int .i64 0, .int .i64 0, .int .i64 0, .int .i64 0, .int .i64 0] 57)) := (Fr.refl _ H5).push _
  have w0 := bn6.okW (i := 0) (by simp)
  have w1 := bn6.okW (i := 1) (by simp)
  have w2 := bn6.okW (i := 2) (by simp)
  have w3 := bn6.okW (i := 3) (by simp)
  have w4 := bn6.okW (i := 4) (by simp)
  repeat' (first|(with_reducible first|refine jA ?_|(refine hK _ _ ?_;clear hK K)|refine jJ fun K hK=>?_|refine jK ?_|refine jL ?_|refine jM ?_|refine jN ?_|refine jO ?_|refine jP ?_|refine jQ ?_|(refine jB ?_;clear hK K)|(refine jC ?_;clear hK K)|refine jD ?_|refine jE ?_|refine jG ?_|refine jH ?_|refine jI ?_)|((with_reducible refine jR ?hq ?_);case hq=>rfl)|((first|(with_reducible first|refine jS fun K hK=>?_|refine jT ?_|refine jU ?_)|((with_reducible refine jV ?hy fun K hK=>?_);case hy=>rfl));simp only [go_sem, Nat.reduceEqDiff, Nat.reduceAdd, Nat.reduceMul, Nat.reduceLeDiff, Nat.reduceLT, Int.reduceLT, Int.reduceLE, Int.reduceEq, Int.reduceNeg, Int.reduceToNat, Nat.reducePow, reduceIte, reduceCtorEq, i0, i1, i5, zl, w0, w1, w2, w3, w4, okW_hset])|((with_reducible first|refine jW ?hy ?_|refine jY ?hy ?_);case hy=>rfl)|((with_reducible first|refine jX ?hy ?_|refine jZ ?hy ?_);case hy=>rfl)|((with_reducible refine jF ?hy ?_);case hy=>decide))
  obtain ⟨b6, f6⟩ := store5 bn6 (.int .i64 0) (.int .i64 0) (.int .i64 0) (.int .i64 0) (.int .i64 0)
  generalize hset _ _ _ = H6 at b6 f6 ⊢
  have f56 : Fr (fun _ => False) H5 H6 := fn6.trans' f6 fun b hb (e : b = H5.size) => by omega
  have hS6 := hS5.grow f56
  have hB6 := hB.frame hS6.fr hap
  have k06 := hB6.k.cellOf (i := 0) rfl
  refine ⟨_, k06, ?_⟩
  repeat' (first|(with_reducible first|refine jA ?_|(refine hK _ _ ?_;clear hK K)|refine jJ fun K hK=>?_|refine jK ?_|refine jL ?_|refine jM ?_|refine jN ?_|refine jO ?_|refine jP ?_|refine jQ ?_|(refine jB ?_;clear hK K)|(refine jC ?_;clear hK K)|refine jD ?_|refine jE ?_|refine jG ?_|refine jH ?_|refine jI ?_)|((with_reducible refine jR ?hq ?_);case hq=>rfl)|((first|(with_reducible first|refine jS fun K hK=>?_|refine jT ?_|refine jU ?_)|((with_reducible refine jV ?hy fun K hK=>?_);case hy=>rfl));simp only [go_sem, Nat.reduceEqDiff, Nat.reduceAdd, Nat.reduceMul, Nat.reduceLeDiff, Nat.reduceLT, Int.reduceLT, Int.reduceLE, Int.reduceEq, Int.reduceNeg, Int.reduceToNat, Nat.reducePow, reduceIte, reduceCtorEq, i0, i1, i5])|((with_reducible first|refine jW ?hy ?_|refine jY ?hy ?_);case hy=>rfl)|((with_reducible first|refine jX ?hy ?_|refine jZ ?hy ?_);case hy=>rfl)|((with_reducible refine jF ?hy ?_);case hy=>decide))
  refine ⟨Nat.le_refl _, by omega, ?_⟩
  have hs7 := br_new H6 n 4 (by omega)
  have f67 : Fr (fun _ => False) H6 (H6.push (.cells (repL n [Value.bool false]).toArray 4)) := (Fr.refl _ _).push _
  generalize H6.push _ = H7 at hs7 f67 ⊢
  have l5 := b5.lt
  have l6 := b6.lt
  have l7 := hs7.lt rfl
  have hS7 := hS6.grow f67
  have f47 := (f45.trans f56).trans f67
  have hB7 := hB.frame hS7.fr hap
  have hb7 := hb4.frame f47 fun _ _ h => h
  have k7 := k4.grow f47
  have b57 := b5.frame (f56.trans f67) fun h => h
  have b67 := b6.frame f67 fun h => h
  have sz4 := hS4.fr.size
  have hsz : H1.size ≤ H4.size := by have h1 := hf2.size; have h2 := hf3.size; have h3 := hf4.size; omega
  have g4 : g < H4.size := hb4.lt rfl
  have T4lt : ∀ b, T4 b → b < H4.size := fun b hb => hS4.to.lt hb
  have ownlt : ∀ b, bkOwn bb gv go Bl b → b < H.size := fun b hb => hB.lt hb
  have lbb := ownlt bb (.inl rfl)
  have lgv := ownlt gv (.inr (.inl rfl))
  have lgo := ownlt go (.inr (.inr (.inl rfl)))
  have Wm : ∀ x ∈ W, x < n ∧ bs[x]? = some true := fun x hx => by
   rw [eW, mem_wl] at hx
   have hxn : x < n := by have := (hok.same v hvQ x hx).1; omega
   exact ⟨hxn, by rw [bs1 x hxn, decide_eq_true hx]⟩
  have erep : List.replicate n false = brow n fun _ => false := by
   unfold brow
   rw [List.map_const', List.length_range]
  rw [erep] at hs7
  repeat' (first|(with_reducible first|refine jA ?_|(refine hK _ _ ?_;clear hK K)|refine jJ fun K hK=>?_|refine jK ?_|refine jL ?_|refine jM ?_|refine jN ?_|refine jO ?_|refine jP ?_|refine jQ ?_|(refine jB ?_;clear hK K)|(refine jC ?_;clear hK K)|refine jD ?_|refine jE ?_|refine jG ?_|refine jH ?_|refine jI ?_)|((with_reducible refine jR ?hq ?_);case hq=>rfl)|((first|(with_reducible first|refine jS fun K hK=>?_|refine jT ?_|refine jU ?_)|((with_reducible refine jV ?hy fun K hK=>?_);case hy=>rfl));simp only [go_sem, Nat.reduceEqDiff, Nat.reduceAdd, Nat.reduceMul, Nat.reduceLeDiff, Nat.reduceLT, Int.reduceLT, Int.reduceLE, Int.reduceEq, Int.reduceNeg, Int.reduceToNat, Nat.reducePow, reduceIte, reduceCtorEq, i0, i1, i5])|((with_reducible first|refine jW ?hy ?_|refine jY ?hy ?_);case hy=>rfl)|((with_reducible first|refine jX ?hy ?_|refine jZ ?hy ?_);case hy=>rfl)|((with_reducible refine jF ?hy ?_);case hy=>decide))
  refine stA k7.1 lW (by omega) Wm (by rw [eW]; exact wl_nodup (hok.nd v hvQ)) hlen hb7 hs7 hB7.k hB7.v hB7.o b67 (fun x hx => hok.val x (by omega))
   (fun b hb => by have := (k4.2 b hb).1; omega) (by omega) (by omega) (by omega) (by omega) (by omega) i0 rfl rfl rfl rfl rfl ?_
  intro e8 H8 j0 j1 j5 j6 j9 j11 hf8 hw8
  have j0 := j0.trans i0
  have j1 := j1.trans i1
  have j5 := j5.trans i5
  have hS8 := hS7.frame hf8 (fun b hb => by rcases hb with rfl | rfl <;> omega) (fun b hb hx => by have := T4lt b hx; rcases hb with rfl | rfl <;> omega)
  have hb8 := hb7.frame hf8 fun b hb o => by obtain rfl := Option.some.inj hb; rcases o with o | o <;> omega
  have hB8 := hB7.frame hf8 fun b hb o => by have := ownlt b hb; rcases o with o | o <;> omega
  have b58 := b57.frame hf8 fun o => by rcases o with o | o <;> omega
  have bbT : ¬ T4 bb := fun hx => (hS4.own bb hx).elim (hap bb (.inl rfl)) fun h => by omega
  repeat' (first|(with_reducible first|refine jA ?_|(refine hK _ _ ?_;clear hK K)|refine jJ fun K hK=>?_|refine jK ?_|refine jL ?_|refine jM ?_|refine jN ?_|refine jO ?_|refine jP ?_|refine jQ ?_|(refine jB ?_;clear hK K)|(refine jC ?_;clear hK K)|refine jD ?_|refine jE ?_|refine jG ?_|refine jH ?_|refine jI ?_)|((with_reducible refine jR ?hq ?_);case hq=>rfl)|((first|(with_reducible first|refine jS fun K hK=>?_|refine jT ?_|refine jU ?_)|((with_reducible refine jV ?hy fun K hK=>?_);case hy=>rfl));simp only [go_sem, Nat.reduceEqDiff, Nat.reduceAdd, Nat.reduceMul, Nat.reduceLeDiff, Nat.reduceLT, Int.reduceLT, Int.reduceLE, Int.reduceEq, Int.reduceNeg, Int.reduceToNat, Nat.reducePow, reduceIte, reduceCtorEq, j0, j1, j5, j6, j9, j11])|((with_reducible first|refine jW ?hy ?_|refine jY ?hy ?_);case hy=>rfl)|((with_reducible first|refine jX ?hy ?_|refine jZ ?hy ?_);case hy=>rfl)|((with_reducible refine jF ?hy ?_);case hy=>decide))
  refine stB hS8.to hQn hlt hb8 bs1 hB8.k gT4 bbT j0 j1 j5 j6 rfl rfl ?_
  intro e9 H9 T9 p0 p1 p5 p9 p11 p15 hS9
  have hSS := hS8.op hS9.to hS9.fr hS9.own
  have b59 := b58.frame hS9.fr fun hx => by have := T4lt _ hx; omega
  have hw9 : Blk H9 H5.size [.int .i64 0, .int .i64 s, .int .i64 lo, .int .i64 hi, .int .i64 fl] := by
   rw [es, elo, ehi, efl]
   exact hw8.frame hS9.fr fun hx => by have := T4lt _ hx; omega
  rw [← eW] at p15
  have p5 := p5.trans j5
  have p9 := p9.trans j9
  have p11 := p11.trans j11
  have q0 := b59.cellOf (i := 0) rfl
  have q1 := b59.cellOf (i := 1) rfl
  have q2 := b59.cellOf (i := 2) rfl
  have q3 := b59.cellOf (i := 3) rfl
  have q4 := b59.cellOf (i := 4) rfl
  have r1 := hw9.cellOf (i := 1) rfl
  have r2 := hw9.cellOf (i := 2) rfl
  have r3 := hw9.cellOf (i := 3) rfl
  have r4 := hw9.cellOf (i := 4) rfl
  have efm : fl.tmod 2 = fl := by rw [efl]; cases W.any Q.on <;> rfl
  have z2 : ((2 : Int) = 0) = False := by simp
  have x1 : (s != s) = false := by simp
  have x2 : (lo != lo) = false := by simp
  have x3 : (hi != hi) = false := by simp
  have x4 : (fl != fl) = false := by simp
  repeat' (first|(with_reducible first|refine jA ?_|(refine hK _ _ ?_;clear hK K)|refine jJ fun K hK=>?_|refine jK ?_|refine jL ?_|refine jM ?_|refine jN ?_|refine jO ?_|refine jP ?_|refine jQ ?_|(refine jB ?_;clear hK K)|(refine jC ?_;clear hK K)|refine jD ?_|refine jE ?_|refine jG ?_|refine jH ?_|refine jI ?_)|((with_reducible refine jR ?hq ?_);case hq=>rfl)|((first|(with_reducible first|refine jS fun K hK=>?_|refine jT ?_|refine jU ?_)|((with_reducible refine jV ?hy fun K hK=>?_);case hy=>rfl));simp only [go_sem, Nat.reduceEqDiff, Nat.reduceAdd, Nat.reduceMul, Nat.reduceLeDiff, Nat.reduceLT, Int.reduceLT, Int.reduceLE, Int.reduceEq, Int.reduceNeg, Int.reduceToNat, Nat.reducePow, reduceIte, reduceCtorEq, p5, p9, p11, p15, q0, q1, q2, q3, q4, r1, r2, r3, r4, efm, z2, x1, x2, x3, x4, zl, ew])|((with_reducible first|refine jW ?hy ?_|refine jY ?hy ?_);case hy=>rfl)|((with_reducible first|refine jX ?hy ?_|refine jZ ?hy ?_);case hy=>rfl)|((with_reducible refine jF ?hy ?_);case hy=>decide))
  exact loop_normal (m' := n - (v + 1)) (by omega) ⟨v + 1, T9, rfl, hlt, hSS, rfl⟩
 ·have t1 : (v < n) = False := by simp [hlt]
  repeat' (first|(with_reducible first|refine jA ?_|(refine hK _ _ ?_;clear hK K)|refine jJ fun K hK=>?_|refine jK ?_|refine jL ?_|refine jM ?_|refine jN ?_|refine jO ?_|refine jP ?_|refine jQ ?_|(refine jB ?_;clear hK K)|(refine jC ?_;clear hK K)|refine jD ?_|refine jE ?_|refine jG ?_|refine jH ?_|refine jI ?_)|((with_reducible refine jR ?hq ?_);case hq=>rfl)|((first|(with_reducible first|refine jS fun K hK=>?_|refine jT ?_|refine jU ?_)|((with_reducible refine jV ?hy fun K hK=>?_);case hy=>rfl));simp only [go_sem, Nat.reduceEqDiff, Nat.reduceAdd, Nat.reduceMul, Nat.reduceLeDiff, Nat.reduceLT, Int.reduceLT, Int.reduceLE, Int.reduceEq, Int.reduceNeg, Int.reduceToNat, Nat.reducePow, reduceIte, reduceCtorEq, i0, i5, k0, t1])|((with_reducible first|refine jW ?hy ?_|refine jY ?hy ?_);case hy=>rfl)|((with_reducible first|refine jX ?hy ?_|refine jZ ?hy ?_);case hy=>rfl)|((with_reducible refine jF ?hy ?_);case hy=>decide))
  exact fin _ _ hS1
end
end Go.Proofs.Ytnlafhnbakipmaa
namespace Go.To
open Go Go.Hp Go.Sp Go.Proofs.Ytnlafhnbakipmaa
set_option linter.unusedVariables false
section
variable {Q : Tq} {l : List St}
theorem Bk.rows {Q' : Tq} (h : Bk Q l) (hn : Q'.n = Q.n) (hr : ∀ a, a < Q.n → ∀ b, (a, b) ∈ Q'.row a ↔ (a, b) ∈ Q.row a) : Bk Q' l where
 mem p hp := by
  obtain ⟨h1, h2, h3⟩ := h.mem p hp
  exact ⟨by rw [hn]; exact h1, h2, (hr _ h1 _).2 h3⟩
 all a b ha hab hm := h.all a b (by rw [← hn]; exact ha) hab ((hr a (by rw [← hn]; exact ha) b).1 hm)
 one := h.one
theorem Bk.turn (h : Bk Q l) (hok : Q.Ok) {v : Nat} (hv : v < Q.n) : Bk (Q.lay (turnedL (Q.row v) v)) l := by
 refine h.rows rfl fun a ha b => ?_
 show (a, b) ∈ (if (a, a) ∈ turnedL (Q.row v) v then turnedL (Q.row v) v else Q.row a) ↔ _
 split
 ·rename_i hm
  rw [mem_turnedL] at hm ⊢
  rw [(hok.same v hv a hm).2]
 ·exact Iff.rfl
theorem Mk.none_em {Q' : Tq} (h : Mk Q' []) : ∀ a b, Q'.em a b = false := fun a b => by
 cases e : Q'.em a b with
 | false => rfl
 | true => rcases h.all a b e with h | h <;> cases h
theorem Mk.empty {Q' : Tq} (h : ∀ a b, Q'.em a b = false) : Mk Q' [] where
 sub _ h := by cases h
 all a b e := by rw [h] at e; cases e
 one := List.Pairwise.nil
theorem turned_head {xs : List St} {v : Nat} (hn : xs.Nodup) (hv : (v, v) ∈ xs) : ∃ ys, wl (turnedL xs v) = v :: ys := by
 obtain ⟨a, b, rfl⟩ := List.append_of_mem hv
 rw [turnedL_eq hn rfl]
 exact ⟨_, wl_stop v _⟩
end
end Go.To
namespace Go.Proofs.Ytnlafhnbakipmaa
open Go Go.Hp Go.Sp Go.To
set_option linter.all false
set_option maxRecDepth 100000
set_option maxHeartbeats 1600000
section
variable {H0 H H' : Heap} {e : Env} {Z : HX → Env → Heap → Prop} {t bb gv go n : Nat} {T T' : Nat → Prop} {Q Q' : Tq} {l l' on : List St} {val : Nat → Int} {mk : Nat → Bool} {Bl B' : Option Nat} {vl v' : Value}
structure SkS (H0 H : Heap) (t : Nat) (T : Nat → Prop) (Q : Tq) (bb gv go n : Nat) (Bl : Option Nat) (vl : Value) (l : List St) : Prop where
 ts : TS H0 H t T Q
 bk : BkM H bb gv go n Q.val Q.on Bl vl l
 ap : ∀ b, bkOwn bb gv go Bl b → H0.size ≤ b ∧ ¬ T b
 d1 : bb ≠ gv
 d2 : bb ≠ go
 d3 : gv ≠ go
 d4 : ∀ b, Bl = some b → b ≠ bb ∧ b ≠ gv ∧ b ≠ go
theorem SkS.op (h : SkS H0 H t T Q bb gv go n Bl vl l) (hM : ToM H' t T' Q') (hf : Fr T H H') (hT : ∀ b, T' b → T b ∨ H.size ≤ b) (hv : Q'.val = Q.val) (ho : Q'.on = Q.on) : SkS H0 H' t T' Q' bb gv go n Bl vl l where
 ts := h.ts.op hM hf hT
 bk := by rw [hv, ho]; exact h.bk.frame hf fun b hb => (h.ap b hb).2
 ap b hb := ⟨(h.ap b hb).1, fun hx => (hT b hx).elim (h.ap b hb).2 fun o => by have := h.bk.lt hb; omega⟩
 d1 := h.d1
 d2 := h.d2
 d3 := h.d3
 d4 := h.d4
theorem SkS.grow (h : SkS H0 H t T Q bb gv go n Bl vl l) (hf : Fr (fun _ => False) H H') : SkS H0 H' t T Q bb gv go n Bl vl l :=
 ⟨h.ts.grow hf, h.bk.frame hf fun _ _ h => h, h.ap, h.d1, h.d2, h.d3, h.d4⟩
theorem SkS.setL (h : SkS H0 H t T Q bb gv go n Bl vl l) (hl : SR pairC 2 H' B' v' l') (hf : Fr (fun b => Bl = some b) H H') (hB : B' = Bl ∨ ∀ b, B' = some b → H.size ≤ b) :
  okW H' ⟨bb, 3, none⟩ ∧ SkS H0 (hset H' ⟨bb, 3, none⟩ v') t T Q bb gv go n B' v' l' := by
 have k' := h.bk.k.frame hf fun e => (h.d4 _ e).1 rfl
 have hfs : Fr (· = bb) H' (hset H' ⟨bb, 3, none⟩ v') := Fr.set (S := (· = bb)) (a := ⟨bb, 3, none⟩) (Fr.refl _ H') (.inl rfl) _
 have lt : ∀ {b}, bkOwn bb gv go Bl b → b < H.size := fun hb => h.bk.lt hb
 have nB : ∀ b, B' = some b → b ≠ bb ∧ b ≠ gv ∧ b ≠ go ∧ H0.size ≤ b ∧ ¬ T b := fun b hb => by
  rcases hB with rfl | e
  ·exact ⟨(h.d4 b hb).1, (h.d4 b hb).2.1, (h.d4 b hb).2.2, h.ap b (.inr (.inr (.inr hb)))⟩
  ·have g := e b hb
   have g1 := lt (b := bb) (.inl rfl)
   have g2 := lt (b := gv) (.inr (.inl rfl))
   have g3 := lt (b := go) (.inr (.inr (.inl rfl)))
   exact ⟨by omega, by omega, by omega, Nat.le_trans h.ts.fr.size g, fun hx => by have := h.ts.to.lt hx; omega⟩
 have ts1 := h.ts.frame hf (fun b hb => (h.ap b (.inr (.inr (.inr hb)))).1) fun b hb => (h.ap b (.inr (.inr (.inr hb)))).2
 refine ⟨k'.okW (by simp), ⟨ts1.frame hfs (fun b hb => by rw [hb]; exact (h.ap bb (.inl rfl)).1) (fun b hb => by rw [hb]; exact (h.ap bb (.inl rfl)).2), ⟨k'.set_same 3 v', ?_, ?_, ?_⟩, ?_, h.d1, h.d2, h.d3, ?_⟩⟩
 ·refine (h.bk.v.frame hf fun b hb e => ?_).frame hfs fun b hb e => ?_
  ·obtain rfl := Option.some.inj hb; exact (h.d4 _ e).2.1 rfl
  ·obtain rfl := Option.some.inj hb; exact h.d1 e.symm
 ·refine (h.bk.o.frame hf fun b hb e => ?_).frame hfs fun b hb e => ?_
  ·obtain rfl := Option.some.inj hb; exact (h.d4 _ e).2.2 rfl
  ·obtain rfl := Option.some.inj hb; exact h.d2 e.symm
 ·exact hl.frame hfs fun b hb e => (nB b hb).1 e
 ·rintro b (rfl | rfl | rfl | hb)
  ·exact h.ap _ (.inl rfl)
  ·exact h.ap _ (.inr (.inl rfl))
  ·exact h.ap _ (.inr (.inr (.inl rfl)))
  ·exact (nB b hb).2.2.2
 ·exact fun b hb => ⟨(nB b hb).1, (nB b hb).2.1, (nB b hb).2.2.1⟩
theorem vrow_set {n v : Nat} {val : Nat → Int} {x : Int} (hv : v < n) : (vrow n val).set v x = vrow n (fun w => if w = v then x else val w) := by
 apply List.ext_getElem?
 intro y
 rw [List.getElem?_set]
 by_cases hy : y < n
 ·rw [vrow_at hy, vrow_at hy]
  by_cases h : v = y
  ·subst h; simp [vrow, hy]
  ·rw [if_neg h, if_neg (fun e => h e.symm)]
 ·have hne : v ≠ y := by omega
  have none : ∀ f : Nat → Int, (vrow n f)[y]? = none := fun f => by simp [vrow]; omega
  rw [if_neg hne, none, none]
theorem brow_set {n v : Nat} {mk : Nat → Bool} {x : Bool} (hv : v < n) : (brow n mk).set v x = brow n (fun w => if w = v then x else mk w) := by
 apply List.ext_getElem?
 intro y
 rw [List.getElem?_set]
 by_cases hy : y < n
 ·rw [brow_at hy, brow_at hy]
  by_cases h : v = y
  ·subst h; simp [brow, hy]
  ·rw [if_neg h, if_neg (fun e => h e.symm)]
 ·have hne : v ≠ y := by omega
  have none : ∀ f : Nat → Bool, (brow n f)[y]? = none := fun f => by simp [brow]; omega
  rw [if_neg hne, none, none]
theorem SkS.setV {v : Nat} {x : Int} (h : SkS H0 H t T Q bb gv go n Bl vl l) (hv : v < n) (hM : ToM H' t T' Q') (hf : Fr T H H') (hT : ∀ b, T' b → T b ∨ H.size ≤ b) (hval : Q'.val = fun w => if w = v then x else Q.val w) (ho : Q'.on = Q.on) :
  okW H' ⟨gv, v, none⟩ ∧ SkS H0 (hset H' ⟨gv, v, none⟩ (.int .i64 x)) t T' Q' bb gv go n Bl vl l := by
 have hfs : Fr (· = gv) H' (hset H' ⟨gv, v, none⟩ (.int .i64 x)) := Fr.set (S := (· = gv)) (a := ⟨gv, v, none⟩) (Fr.refl _ H') (.inl rfl) _
 have b1 := h.bk.frame hf fun b hb => (h.ap b hb).2
 have ap1 : ∀ b, bkOwn bb gv go Bl b → H0.size ≤ b ∧ ¬ T' b := fun b hb => ⟨(h.ap b hb).1, fun hx => (hT b hx).elim (h.ap b hb).2 fun o => by have := h.bk.lt hb; omega⟩
 obtain ⟨w1, hv2⟩ := b1.v.write (i := v) (by simp [vrow]; omega) x
 rw [vrow_set hv, ← hval] at hv2
 refine ⟨w1, ⟨(h.ts.op hM hf hT).frame hfs (fun b hb => by rw [hb]; exact (ap1 gv (.inr (.inl rfl))).1) (fun b hb => by rw [hb]; exact (ap1 gv (.inr (.inl rfl))).2), ⟨b1.k.frame hfs h.d1, hv2, ?_, ?_⟩, ap1, h.d1, h.d2, h.d3, h.d4⟩⟩
 ·rw [ho]
  exact b1.o.frame hfs fun b hb e => by obtain rfl := Option.some.inj hb; exact h.d3 e.symm
 ·exact b1.l.frame hfs fun b hb e => (h.d4 b hb).2.1 e
theorem SkS.setO {v : Nat} {x : Bool} (h : SkS H0 H t T Q bb gv go n Bl vl l) (hv : v < n) (hM : ToM H' t T' Q') (hf : Fr T H H') (hT : ∀ b, T' b → T b ∨ H.size ≤ b) (hval : Q'.val = Q.val) (ho : Q'.on = fun w => if w = v then x else Q.on w) :
  okW H' ⟨go, v, none⟩ ∧ SkS H0 (hset H' ⟨go, v, none⟩ (.bool x)) t T' Q' bb gv go n Bl vl l := by
 have hfs : Fr (· = go) H' (hset H' ⟨go, v, none⟩ (.bool x)) := Fr.set (S := (· = go)) (a := ⟨go, v, none⟩) (Fr.refl _ H') (.inl rfl) _
 have b1 := h.bk.frame hf fun b hb => (h.ap b hb).2
 have ap1 : ∀ b, bkOwn bb gv go Bl b → H0.size ≤ b ∧ ¬ T' b := fun b hb => ⟨(h.ap b hb).1, fun hx => (hT b hx).elim (h.ap b hb).2 fun o => by have := h.bk.lt hb; omega⟩
 obtain ⟨w1, hv2⟩ := b1.o.write (i := v) (by simp [brow]; omega) x
 rw [brow_set hv, ← ho] at hv2
 refine ⟨w1, ⟨(h.ts.op hM hf hT).frame hfs (fun b hb => by rw [hb]; exact (ap1 go (.inr (.inr (.inl rfl)))).1) (fun b hb => by rw [hb]; exact (ap1 go (.inr (.inr (.inl rfl)))).2), ⟨b1.k.frame hfs h.d2, ?_, hv2, ?_⟩, ap1, h.d1, h.d2, h.d3, h.d4⟩⟩
 ·rw [hval]
  exact b1.v.frame hfs fun b hb e => by obtain rfl := Option.some.inj hb; exact h.d3 e
 ·exact b1.l.frame hfs fun b hb e => (h.d4 b hb).2.2 e
theorem linkC {u v : Nat} {L : Value → Heap → Prop} (hM : ToM H t T Q) (hbk : Bk Q l) (hem : ∀ a b, Q.em a b = false) (hu : u < Q.n) (hv : v < Q.n)
  (fin : ∀ H' T' Q' (b : Int), ToM H' t T' Q' → Fr T H H' → (∀ b, T' b → T b ∨ H.size ≤ b) → Q'.n = Q.n → Q'.on = Q.on → Q'.val = Q.val → (∀ a b, Q'.em a b = false) → ((b = 0 ∧ (v, v) ∉ Q.row u ∧ Bk Q' (l ++ [(u, v)])) ∨ (b = 41 ∧ (v, v) ∈ Q.row u ∧ Bk Q' l)) → L (.int .i64 b) H') :
  CallsH Try.prog 11 #[.pointer (some ⟨t, 0, none⟩), .int .i64 (u : Nat), .int .i64 (v : Nat)] H L := by
 refine tq_link hM fun H' T' hM' hf hT => ?_
 have ei : (inB Q.n (u : Int) && inB Q.n (v : Int)) = true := by rw [inB_of hu, inB_of hv]; rfl
 have e : Q.linkQ (u : Int) (v : Int) = if (v, v) ∈ Q.row u then (41, Q) else (0, Q.lay (Q.linkRow u v)) := by
  unfold Tq.linkQ
  rw [ei]; rfl
 by_cases hm : (v, v) ∈ Q.row u
 ·rw [if_pos hm] at e
  rw [e] at hM' ⊢
  exact fin _ _ _ _ hM' hf hT rfl rfl rfl hem (.inr ⟨rfl, hm, hbk⟩)
 ·rw [if_neg hm] at e
  rw [e] at hM' ⊢
  exact fin _ _ _ _ hM' hf hT rfl rfl rfl hem (.inl ⟨rfl, hm, hbk.link hM.ok hu hv hm⟩)
end
end Go.Proofs.Ytnlafhnbakipmaa
