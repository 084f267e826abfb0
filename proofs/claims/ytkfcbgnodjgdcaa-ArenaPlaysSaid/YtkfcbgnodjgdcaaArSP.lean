/-
  A side of ArenaPlays in memory: its parts lie apart (col: which part a block is of; 0: none).
-/
import Derived.Test.YtkfcbgnodjgdcaaHpX
import Derived.Test.YtkfcbgnodjgdcaaRfC
namespace Go.Hp
open Go
set_option linter.unusedVariables false
/-- New blocks are of part k. -/
def extC (col : Nat → Nat) (n n' k : Nat) (b : Nat) : Nat := if b < n then col b else if b < n' then k else 0
/-- What a call did: it changed nothing but its own, and what is its own is old or new. -/
structure Nx (col col' : Nat → Nat) (H H' : Heap) : Prop where
  fr : Fr (fun b => col b ≠ 0) H H'
  own : ∀ b, col' b ≠ 0 → col b ≠ 0 ∨ H.size ≤ b
theorem Nx.refl (col : Nat → Nat) (H : Heap) : Nx col col H H := ⟨Fr.refl _ _, fun b h => .inl h⟩
theorem Nx.trans {c c' c'' : Nat → Nat} {H H' H'' : Heap} (h : Nx c c' H H') (k : Nx c' c'' H' H'') : Nx c c'' H H'' := by
  have hs := h.fr.size
  refine ⟨h.fr.trans' k.fr fun b hb e => ?_, fun b hb => ?_⟩
  · rcases h.own b e with h' | h'
    · exact h'
    · omega
  · rcases k.own b hb with h' | h'
    · exact h.own b h'
    · right; omega
theorem Nx.ext {col : Nat → Nat} {H H' : Heap} {S : Nat → Prop} {k : Nat} (hf : Fr S H H') (hS : ∀ b, S b → col b ≠ 0) : Nx col (extC col H.size H'.size k) H H' := by
  refine ⟨hf.mono fun b _ => hS b, fun b hb => ?_⟩
  unfold extC at hb
  by_cases h : b < H.size
  · rw [if_pos h] at hb; exact .inl hb
  · right; omega
theorem Nx.same {col : Nat → Nat} {H H' : Heap} {S : Nat → Prop} (hf : Fr S H H') (hS : ∀ b, S b → col b ≠ 0) : Nx col col H H' :=
  ⟨hf.mono fun b _ => hS b, fun b hb => .inl hb⟩
structure SdP {α : Type} (C : α → Value) (z : List Value) (H : Heap) (s : Nat) (col : Nat → Nat) (A : Ar) (R : Rf) (vs : List α) (L L' : List (List Int)) (p g q : Nat) (TR : Nat → Prop) (Bk : Option Nat) (vk : Value) (TA : Nat → Prop) (va : Value) (TW : Nat → Prop) (vw : Value) : Prop where
  b : Blk H s [.pointer (some ⟨p, 0, none⟩), .pointer (some ⟨q, 0, none⟩), vk, va, vw]
  ar : ArAt H p g 1 z A
  rf : RfM H q TR R
  kp : OR C H Bk vk vs
  la : LL (Value.int .i64) H TA va L
  lw : LL (Value.int .i64) H TW vw L'
  cs : col s = 1
  cp : col p = 2
  cg : col g = 2
  cr : ∀ b, TR b → col b = 3
  ck : ∀ b, Bk = some b → col b = 4
  ca : ∀ b, TA b → col b = 5
  cw : ∀ b, TW b → col b = 6
  lt : ∀ b, col b ≠ 0 → b < H.size
section
variable {α : Type} {C : α → Value} {z : List Value} {H : Heap} {s : Nat} {col : Nat → Nat} {A : Ar} {R : Rf} {vs : List α} {L L' : List (List Int)} {p g q : Nat} {TR : Nat → Prop} {Bk : Option Nat} {vk : Value} {TA : Nat → Prop} {va : Value} {TW : Nat → Prop} {vw : Value}
theorem extC_old {n n' k b : Nat} (h : b < n) : extC col n n' k b = col b := if_pos h
theorem extC_new {n n' k b : Nat} (h : n ≤ b) (h' : b < n') : extC col n n' k b = k := by unfold extC; rw [if_neg (by omega), if_pos h']
theorem extC_lt {n n' k b : Nat} (hn : n ≤ n') (h : extC col n n' k b ≠ 0) : b < n' := by
  unfold extC at h
  by_cases h1 : b < n
  · omega
  · rw [if_neg h1] at h
    by_cases h2 : b < n'
    · exact h2
    · rw [if_neg h2] at h; exact absurd rfl h
theorem SdP.old (h : SdP C z H s col A R vs L L' p g q TR Bk vk TA va TW vw) {b n' k j : Nat} (hj : col b = j) (h0 : j ≠ 0) : extC col H.size n' k b = j := by
  rw [extC_old (h.lt b (by rw [hj]; exact h0)), hj]
theorem SdP.grow {H' : Heap} {S : Nat → Prop} (h : SdP C z H s col A R vs L L' p g q TR Bk vk TA va TW vw) (hf : Fr S H H') (hS : ∀ b, col b ≠ 0 → ¬ S b) : SdP C z H' s col A R vs L L' p g q TR Bk vk TA va TW vw where
  b := h.b.frame hf (hS s (by rw [h.cs]; decide))
  ar := h.ar.frame hf (hS p (by rw [h.cp]; decide)) (hS g (by rw [h.cg]; decide))
  rf := h.rf.frame hf fun b hb => hS b (by rw [h.cr b hb]; decide)
  kp := h.kp.frame hf fun b hb => hS b (by rw [h.ck b hb]; decide)
  la := h.la.frame hf fun b hb => hS b (by rw [h.ca b hb]; decide)
  lw := h.lw.frame hf fun b hb => hS b (by rw [h.cw b hb]; decide)
  cs := h.cs
  cp := h.cp
  cg := h.cg
  cr := h.cr
  ck := h.ck
  ca := h.ca
  cw := h.cw
  lt := fun b hb => Nat.lt_of_lt_of_le (h.lt b hb) hf.size
theorem SdP.setAr {H' : Heap} {A' : Ar} {g' : Nat} (h : SdP C z H s col A R vs L L' p g q TR Bk vk TA va TW vw) (hf : Fr (fun b => b = g ∨ b = p) H H') (ha : ArAt H' p g' 1 z A') (hg : g' = g ∨ H.size ≤ g') :
    SdP C z H' s (extC col H.size H'.size 2) A' R vs L L' p g' q TR Bk vk TA va TW vw ∧ Nx col (extC col H.size H'.size 2) H H' := by
  have hne : ∀ b, col b ≠ 2 → ¬ (b = g ∨ b = p) := by
    rintro b hb (rfl | rfl)
    · exact hb h.cg
    · exact hb h.cp
  refine ⟨⟨h.b.frame hf (hne _ (by rw [h.cs]; decide)), ha, h.rf.frame hf fun b hb => hne b (by rw [h.cr b hb]; decide), h.kp.frame hf fun b hb => hne b (by rw [h.ck b hb]; decide),
    h.la.frame hf fun b hb => hne b (by rw [h.ca b hb]; decide), h.lw.frame hf fun b hb => hne b (by rw [h.cw b hb]; decide),
    h.old h.cs (by decide), h.old h.cp (by decide), ?_, fun b hb => h.old (h.cr b hb) (by decide), fun b hb => h.old (h.ck b hb) (by decide), fun b hb => h.old (h.ca b hb) (by decide), fun b hb => h.old (h.cw b hb) (by decide), fun b hb => extC_lt hf.size hb⟩, Nx.ext hf ?_⟩
  · rcases hg with rfl | hg
    · exact h.old h.cg (by decide)
    · obtain ⟨c, rest, b1, b2, _⟩ := ha.at_
      exact extC_new hg b2.lt
  · rintro b (rfl | rfl)
    · rw [h.cg]; decide
    · rw [h.cp]; decide
theorem SdP.setRf {H' : Heap} {R' : Rf} {TR' : Nat → Prop} (h : SdP C z H s col A R vs L L' p g q TR Bk vk TA va TW vw) (hf : Fr TR H H') (hr : RfM H' q TR' R') (hT : ∀ b, TR' b → TR b ∨ H.size ≤ b) :
    SdP C z H' s (extC col H.size H'.size 3) A R' vs L L' p g q TR' Bk vk TA va TW vw ∧ Nx col (extC col H.size H'.size 3) H H' := by
  have hne : ∀ b, col b ≠ 3 → ¬ TR b := fun b hb e => hb (h.cr b e)
  refine ⟨⟨h.b.frame hf (hne _ (by rw [h.cs]; decide)), h.ar.frame hf (hne _ (by rw [h.cp]; decide)) (hne _ (by rw [h.cg]; decide)), hr, h.kp.frame hf fun b hb => hne b (by rw [h.ck b hb]; decide),
    h.la.frame hf fun b hb => hne b (by rw [h.ca b hb]; decide), h.lw.frame hf fun b hb => hne b (by rw [h.cw b hb]; decide),
    h.old h.cs (by decide), h.old h.cp (by decide), h.old h.cg (by decide), fun b hb => ?_, fun b hb => h.old (h.ck b hb) (by decide), fun b hb => h.old (h.ca b hb) (by decide), fun b hb => h.old (h.cw b hb) (by decide), fun b hb => extC_lt hf.size hb⟩, Nx.ext hf fun b hb => by rw [h.cr b hb]; decide⟩
  rcases hT b hb with h' | h'
  · exact h.old (h.cr b h') (by decide)
  · exact extC_new h' (hr.lt hb)
theorem SdP.setKp {H' : Heap} {vs' : List α} {Bk' : Option Nat} {vk' : Value} (h : SdP C z H s col A R vs L L' p g q TR Bk vk TA va TW vw) (hf : Fr (fun b => Bk = some b) H H') (hk : OR C H' Bk' vk' vs') (hB : Bk' = Bk ∨ ∃ g, Bk' = some g ∧ H.size ≤ g) :
    okW H' ⟨s, 2, none⟩ ∧ SdP C z (hset H' ⟨s, 2, none⟩ vk') s (extC col H.size H'.size 4) A R vs' L L' p g q TR Bk' vk' TA va TW vw ∧ Nx col (extC col H.size H'.size 4) H (hset H' ⟨s, 2, none⟩ vk') := by
  have hsz : (hset H' ⟨s, 2, none⟩ vk').size = H'.size := hset_size ..
  have hb := h.b.frame hf fun e => by have := h.ck s e; rw [h.cs] at this; cases this
  have hf2 : Fr (fun b => Bk = some b ∨ b = s) H (hset H' ⟨s, 2, none⟩ vk') := Fr.set (S := fun b => Bk = some b ∨ b = s) (a := ⟨s, 2, none⟩) (hf.mono fun b _ h => .inl h) (.inl (.inr rfl)) _
  have hne : ∀ b, col b ≠ 4 → col b ≠ 1 → ¬ (Bk = some b ∨ b = s) := by
    rintro b h4 h1 (e | rfl)
    · exact h4 (h.ck b e)
    · exact h1 h.cs
  have hBn : ∀ b, Bk' = some b → extC col H.size H'.size 4 b = 4 := fun b hb => by
    rcases hB with rfl | ⟨g', rfl, hg'⟩
    · exact h.old (h.ck b hb) (by decide)
    · have hl := hk.lt hb
      rw [← Option.some.inj hb] at hl ⊢
      exact extC_new hg' hl
  have hcs := h.old (n' := H'.size) (k := 4) h.cs (by decide)
  have hnx : Nx col (extC col H.size H'.size 4) H (hset H' ⟨s, 2, none⟩ vk') := by
    rw [← hsz]
    refine Nx.ext hf2 ?_
    rintro b (e | rfl)
    · rw [h.ck b e]; decide
    · rw [h.cs]; decide
  refine ⟨hb.okW (by simp), ⟨hb.set_same 2 vk', h.ar.frame hf2 (hne _ (by rw [h.cp]; decide) (by rw [h.cp]; decide)) (hne _ (by rw [h.cg]; decide) (by rw [h.cg]; decide)), h.rf.frame hf2 fun b hb => hne b (by rw [h.cr b hb]; decide) (by rw [h.cr b hb]; decide),
    hk.frame (Fr.set (S := (· = s)) (a := ⟨s, 2, none⟩) (Fr.refl _ H') (.inl rfl) _) (fun b hb' e => ?_),
    h.la.frame hf2 fun b hb => hne b (by rw [h.ca b hb]; decide) (by rw [h.ca b hb]; decide), h.lw.frame hf2 fun b hb => hne b (by rw [h.cw b hb]; decide) (by rw [h.cw b hb]; decide),
    hcs, h.old h.cp (by decide), h.old h.cg (by decide), fun b hb => h.old (h.cr b hb) (by decide), hBn, fun b hb => h.old (h.ca b hb) (by decide), fun b hb => h.old (h.cw b hb) (by decide), fun b hb => by rw [hsz]; exact extC_lt hf.size hb⟩, hnx⟩
  · have := hBn b hb'
    rw [e, hcs] at this
    cases this
theorem SdP.wrKp {x : α} {i gk n c : Nat} (h : SdP C z H s col A R vs L L' p g q TR (some gk) (.slice (some ⟨gk, 0, none⟩) n c) TA va TW vw) (hi : i < vs.length) :
    okW H ⟨gk, i, none⟩ ∧ SdP C z (hset H ⟨gk, i, none⟩ (C x)) s col A R (vs.set i x) L L' p g q TR (some gk) (.slice (some ⟨gk, 0, none⟩) n c) TA va TW vw ∧ Nx col col H (hset H ⟨gk, i, none⟩ (C x)) := by
  obtain ⟨w, hk⟩ := h.kp.write hi x
  have hf : Fr (· = gk) H (hset H ⟨gk, i, none⟩ (C x)) := Fr.set (S := (· = gk)) (a := ⟨gk, i, none⟩) (Fr.refl _ H) (.inl rfl) _
  have hck := h.ck gk rfl
  have hne : ∀ b, col b ≠ 4 → ¬ b = gk := by
    rintro b h4 rfl
    exact h4 hck
  exact ⟨w, ⟨h.b.frame hf (hne _ (by rw [h.cs]; decide)), h.ar.frame hf (hne _ (by rw [h.cp]; decide)) (hne _ (by rw [h.cg]; decide)), h.rf.frame hf fun b hb => hne b (by rw [h.cr b hb]; decide), hk,
    h.la.frame hf fun b hb => hne b (by rw [h.ca b hb]; decide), h.lw.frame hf fun b hb => hne b (by rw [h.cw b hb]; decide),
    h.cs, h.cp, h.cg, h.cr, h.ck, h.ca, h.cw, fun b hb => by rw [hset_size]; exact h.lt b hb⟩, Nx.same hf fun b (e : b = gk) => by rw [e, hck]; decide⟩
/-- One more list that came out (or one of those that were): it is behind the header's slot k. -/
theorem SdP.setLa {H' : Heap} {M : List (List Int)} {TA' : Nat → Prop} {va' : Value} (h : SdP C z H s col A R vs L L' p g q TR Bk vk TA va TW vw) (hf : Fr TA H H') (hk : LL (Value.int .i64) H' TA' va' M) (hB : ∀ b, TA' b → TA b ∨ H.size ≤ b) :
    okW H' ⟨s, 3, none⟩ ∧ SdP C z (hset H' ⟨s, 3, none⟩ va') s (extC col H.size H'.size 5) A R vs M L' p g q TR Bk vk TA' va' TW vw ∧ Nx col (extC col H.size H'.size 5) H (hset H' ⟨s, 3, none⟩ va') := by
  have hsz : (hset H' ⟨s, 3, none⟩ va').size = H'.size := hset_size ..
  have hb := h.b.frame hf fun e => by have := h.ca s e; rw [h.cs] at this; cases this
  have hf2 : Fr (fun b => TA b ∨ b = s) H (hset H' ⟨s, 3, none⟩ va') := Fr.set (S := fun b => TA b ∨ b = s) (a := ⟨s, 3, none⟩) (hf.mono fun b _ h => .inl h) (.inl (.inr rfl)) _
  have hne : ∀ b, col b ≠ 5 → col b ≠ 1 → ¬ (TA b ∨ b = s) := by
    rintro b h4 h1 (e | rfl)
    · exact h4 (h.ca b e)
    · exact h1 h.cs
  have hBn : ∀ b, TA' b → extC col H.size H'.size 5 b = 5 := fun b hb => by
    rcases hB b hb with e | e
    · exact h.old (h.ca b e) (by decide)
    · exact extC_new e (hk.lt hb)
  have hcs := h.old (n' := H'.size) (k := 5) h.cs (by decide)
  have hnx : Nx col (extC col H.size H'.size 5) H (hset H' ⟨s, 3, none⟩ va') := by
    rw [← hsz]
    refine Nx.ext hf2 ?_
    rintro b (e | rfl)
    · rw [h.ca b e]; decide
    · rw [h.cs]; decide
  refine ⟨hb.okW (by simp), ⟨hb.set_same 3 va', h.ar.frame hf2 (hne _ (by rw [h.cp]; decide) (by rw [h.cp]; decide)) (hne _ (by rw [h.cg]; decide) (by rw [h.cg]; decide)), h.rf.frame hf2 fun b hb => hne b (by rw [h.cr b hb]; decide) (by rw [h.cr b hb]; decide),
    h.kp.frame hf2 fun b hb => hne b (by rw [h.ck b hb]; decide) (by rw [h.ck b hb]; decide),
    hk.frame (Fr.set (S := (· = s)) (a := ⟨s, 3, none⟩) (Fr.refl _ H') (.inl rfl) _) (fun b hb' e => ?_), h.lw.frame hf2 fun b hb => hne b (by rw [h.cw b hb]; decide) (by rw [h.cw b hb]; decide),
    hcs, h.old h.cp (by decide), h.old h.cg (by decide), fun b hb => h.old (h.cr b hb) (by decide), fun b hb => h.old (h.ck b hb) (by decide), hBn, fun b hb => h.old (h.cw b hb) (by decide), fun b hb => by rw [hsz]; exact extC_lt hf.size hb⟩, hnx⟩
  · have := hBn b hb'
    rw [e, hcs] at this
    cases this
theorem SdP.setLw {H' : Heap} {M : List (List Int)} {TW' : Nat → Prop} {vw' : Value} (h : SdP C z H s col A R vs L L' p g q TR Bk vk TA va TW vw) (hf : Fr TW H H') (hk : LL (Value.int .i64) H' TW' vw' M) (hB : ∀ b, TW' b → TW b ∨ H.size ≤ b) :
    okW H' ⟨s, 4, none⟩ ∧ SdP C z (hset H' ⟨s, 4, none⟩ vw') s (extC col H.size H'.size 6) A R vs L M p g q TR Bk vk TA va TW' vw' ∧ Nx col (extC col H.size H'.size 6) H (hset H' ⟨s, 4, none⟩ vw') := by
  have hsz : (hset H' ⟨s, 4, none⟩ vw').size = H'.size := hset_size ..
  have hb := h.b.frame hf fun e => by have := h.cw s e; rw [h.cs] at this; cases this
  have hf2 : Fr (fun b => TW b ∨ b = s) H (hset H' ⟨s, 4, none⟩ vw') := Fr.set (S := fun b => TW b ∨ b = s) (a := ⟨s, 4, none⟩) (hf.mono fun b _ h => .inl h) (.inl (.inr rfl)) _
  have hne : ∀ b, col b ≠ 6 → col b ≠ 1 → ¬ (TW b ∨ b = s) := by
    rintro b h4 h1 (e | rfl)
    · exact h4 (h.cw b e)
    · exact h1 h.cs
  have hBn : ∀ b, TW' b → extC col H.size H'.size 6 b = 6 := fun b hb => by
    rcases hB b hb with e | e
    · exact h.old (h.cw b e) (by decide)
    · exact extC_new e (hk.lt hb)
  have hcs := h.old (n' := H'.size) (k := 6) h.cs (by decide)
  have hnx : Nx col (extC col H.size H'.size 6) H (hset H' ⟨s, 4, none⟩ vw') := by
    rw [← hsz]
    refine Nx.ext hf2 ?_
    rintro b (e | rfl)
    · rw [h.cw b e]; decide
    · rw [h.cs]; decide
  refine ⟨hb.okW (by simp), ⟨hb.set_same 4 vw', h.ar.frame hf2 (hne _ (by rw [h.cp]; decide) (by rw [h.cp]; decide)) (hne _ (by rw [h.cg]; decide) (by rw [h.cg]; decide)), h.rf.frame hf2 fun b hb => hne b (by rw [h.cr b hb]; decide) (by rw [h.cr b hb]; decide),
    h.kp.frame hf2 fun b hb => hne b (by rw [h.ck b hb]; decide) (by rw [h.ck b hb]; decide), h.la.frame hf2 fun b hb => hne b (by rw [h.ca b hb]; decide) (by rw [h.ca b hb]; decide),
    hk.frame (Fr.set (S := (· = s)) (a := ⟨s, 4, none⟩) (Fr.refl _ H') (.inl rfl) _) (fun b hb' e => ?_),
    hcs, h.old h.cp (by decide), h.old h.cg (by decide), fun b hb => h.old (h.cr b hb) (by decide), fun b hb => h.old (h.ck b hb) (by decide), fun b hb => h.old (h.ca b hb) (by decide), hBn, fun b hb => by rw [hsz]; exact extC_lt hf.size hb⟩, hnx⟩
  · have := hBn b hb'
    rw [e, hcs] at this
    cases this
end
/-- Each thing that is kept in the arena is kept by its handle. -/
def Kept {α : Type} (C : α → Value) (A : Ar) (vs : List α) : Prop := ∀ h v, A.get h = some v → ∃ x, v = [C x] ∧ vs[h]? = some x
/-- What a Put does. -/
theorem Ar.put_spec {A : Ar} {k : Nat} (ok : A.Ok k) (v : List Value) :
    ((A.put v).2.2 = 20 ∧ (A.put v).1 = A) ∨ ((A.put v).2.2 = 0 ∧ 1 ≤ (A.put v).2.1 ∧ (A.put v).2.1 ≤ 4096 ∧ ∀ h, (A.put v).1.get h = if h = (A.put v).2.1 then some v else A.get h) := by
  unfold Ar.put
  have hm := ok.most
  have hcf := A.count_free ok
  have hl := ok.len_le
  have hr := ok.room
  by_cases h : A.many = A.room
  · rw [if_pos h]; exact .inl ⟨rfl, rfl⟩
  · rw [if_neg h]
    right
    cases hf : A.free with
    | cons h' fs =>
      have hmem := (ok.mem h').1 (by rw [hf]; exact .head _)
      exact ⟨rfl, hmem.1, by simp only []; omega, fun i => Ar.get_set hmem.2.1⟩
    | nil =>
      rw [hf] at hcf
      simp only [List.length_nil] at hcf
      exact ⟨rfl, by simp only []; omega, by simp only []; omega, fun i => Ar.get_putNew i⟩
/-- A side, whatever is kept in it. -/
def Sd {α : Type} (C : α → Value) (z : List Value) (H : Heap) (s : Nat) (col : Nat → Nat) : Prop :=
  ∃ (A : Ar) (vs : List α) (L : List (List Int)) (p g q : Nat) (TR : Nat → Prop) (Bk : Option Nat) (vk : Value) (TA : Nat → Prop) (va : Value) (TW : Nat → Prop) (vw : Value),
    SdP C z H s col A (rfOf A) vs L L p g q TR Bk vk TA va TW vw ∧ Kept C A vs ∧ vs.length ≤ 5000 ∧ L.length ≤ 30 ∧ ∀ (j : Nat) xs, L[j]? = some xs → xs.length ≤ 5000
theorem Sd.grow {α : Type} {C : α → Value} {z : List Value} {H H' : Heap} {s : Nat} {col : Nat → Nat} {S : Nat → Prop} (h : Sd C z H s col) (hf : Fr S H H') (hS : ∀ b, col b ≠ 0 → ¬ S b) : Sd C z H' s col := by
  obtain ⟨A, vs, L, p, g, q, TR, Bk, vk, TA, va, TW, vw, P, h⟩ := h
  exact ⟨A, vs, L, p, g, q, TR, Bk, vk, TA, va, TW, vw, P.grow hf hS, h⟩
theorem Sd.lt {α : Type} {C : α → Value} {z : List Value} {H : Heap} {s : Nat} {col : Nat → Nat} (h : Sd C z H s col) {b : Nat} (hb : col b ≠ 0) : b < H.size := by
  obtain ⟨A, vs, L, p, g, q, TR, Bk, vk, TA, va, TW, vw, P, h⟩ := h
  exact P.lt b hb
end Go.Hp
