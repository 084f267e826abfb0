/-
  Linked trees as vertices and edges: what may be; rooted anew, linked, cut.
  Linked trees in memory, as whoever uses them sees them: what lies where; has; Evert, Root, Same.
  Linked trees in memory: a node more; Link.
  Linked trees in memory: Link, where it goes through.
  Linked trees in memory: Cut; New.
  Linked trees in memory: New; Most and what it hands over.
-/
import Derived.Test.YtafehbegoanajaaG2
namespace Go.Li
open Go Go.Hp
set_option linter.unusedVariables false
set_option linter.unusedSimpArgs false

structure Ls where
 n : Nat
 E : Es
 par : Par
def Ls.V (S : Ls) (h : Nat) : Prop := (1 ≤ h ∧ h ≤ S.n) ∨ (S.E h).isSome = true
structure Ls.Ok (S : Ls) : Prop where
 n1 : 1 ≤ S.n
 n64 : S.n ≤ 64
 uq : Uniq S.E
 en : ∀ h e, S.E h = some e → S.n < h ∧ (0 ≤ e.u ∧ e.u < S.n) ∧ (0 ≤ e.v ∧ e.v < S.n) ∧ e.u ≠ e.v ∧ S.par h ≠ 0
 ad : ∀ h e y, S.E h = some e → (Adj S.par h y ↔ (y = e.u.toNat + 1 ∨ y = e.v.toNat + 1))
 vx : ∀ a y, 1 ≤ a → a ≤ S.n → Adj S.par a y → (S.E y).isSome = true
 ac : ∀ h, S.V h → ∃ l, Ch S.par h l
 cl : ∀ h, S.V h → S.par h = 0 ∨ S.V (S.par h)
 dd : ∀ h, ¬ S.V h → S.par h = 0
section
variable {S : Ls}
theorem Ls.Ok.v0 (k : S.Ok) : ¬ S.V 0 := by
 rintro (⟨h, _⟩ | h)
 ·omega
 ·obtain ⟨e, he⟩ := Option.isSome_iff_exists.1 h
  have := (k.en 0 e he).1
  omega
theorem Ls.vtx {v : Nat} (h : v < S.n) : S.V (v + 1) := .inl ⟨by omega, by omega⟩
theorem Ls.Ok.live (k : S.Ok) {h : Nat} {l : List Nat} (c : Ch S.par h l) (hV : S.V h) : ∀ x ∈ l, S.V x := by
 induction c with
 | root _ => intro x hx; rw [List.mem_singleton.1 hx]; exact hV
 | @step h l h0 c ih =>
  intro x hx
  rcases List.mem_cons.1 hx with rfl | hx
  ·exact hV
  ·exact ih ((k.cl h hV).resolve_left h0) x hx
theorem Ls.Ok.eno (k : S.Ok) {a : Nat} (h1 : a ≤ S.n) : S.E a = none := by
 cases he : S.E a with
 | none => rfl
 | some e => have := (k.en a e he).1; omega
theorem Ls.Ok.no_kid (k : S.Ok) {h : Nat} (hV : ¬ S.V h) (h0 : h ≠ 0) (y : Nat) : S.par y ≠ h := fun e => by
 by_cases hy : S.V y
 ·rcases k.cl y hy with h1 | h1
  ·exact h0 (by rw [← e, h1])
  ·exact hV (e ▸ h1)
 ·exact h0 (by rw [← e, k.dd y hy])
def Ls.ev (S : Ls) (l : List Nat) : Ls := { S with par := Li.ev S.par 0 l }
theorem Ls.Ok.evert (k : S.Ok) {a : Nat} {l : List Nat} (ha : 1 ≤ a ∧ a ≤ S.n) (hl : Ch S.par a l) : (S.ev l).Ok where
 n1 := k.n1
 n64 := k.n64
 uq := k.uq
 en := fun h e he => by
  obtain ⟨h1, h2, h3, h4, h5⟩ := k.en h e he
  refine ⟨h1, h2, h3, h4, ?_⟩
  show Li.ev S.par 0 l h ≠ 0
  by_cases hm : h ∈ l
  ·obtain ⟨p, q, ep⟩ := List.append_of_mem hm
   rcases List.eq_nil_or_concat p with rfl | ⟨p', z, rfl⟩
   ·obtain ⟨r, er⟩ := hl.head
    rw [er] at ep
    have : a = h := by simpa using (List.cons.inj ep).1
    have h1' : S.n < h := h1
    omega
   ·have e2 : l = p' ++ z :: h :: q := by rw [ep]; simp
    have hnd := hl.nodup
    have hnz := hl.nz (by omega)
    rw [e2] at hnd ⊢
    rw [ev_next hnd]
    rintro rfl
    exact hnz (by rw [e2]; simp)
  ·rw [ev_not_mem hm]; exact h5
 ad := fun h e y he => by
  rw [← k.ad h e y he]
  exact ev_adj hl (by omega)
 vx := fun b y h1 h2 h3 => k.vx b y h1 h2 ((ev_adj hl (by omega)).1 h3)
 ac := fun h hV => by
  obtain ⟨m, hm⟩ := k.ac h hV
  exact ev_acyc hl (by omega) hm
 cl := fun h hV => by
  rcases ev_mem (par := S.par) (l := l) (prev := 0) (i := h) with e | e | ⟨_, e⟩
  ·exact .inl e
  ·exact .inr (k.live hl (.inl ha) _ e)
  ·have := k.cl h hV
   rw [← e] at this
   exact this
 dd := fun h hV => by
  have hm : h ∉ l := fun hm => hV (k.live hl (.inl ha) h hm)
  show Li.ev S.par 0 l h = 0
  rw [ev_not_mem hm]
  exact k.dd h hV
theorem adj_setP {par : Par} {a p x y : Nat} (ha : par a = 0) (hp : p ≠ 0) (ha0 : a ≠ 0) : Adj (setP par a p) x y ↔ Adj par x y ∨ (x = a ∧ y = p) ∨ (x = p ∧ y = a) := by
 unfold Adj setP
 by_cases hx : x = a
 ·subst hx
  by_cases hy : y = x
  ·subst hy
   simp only [if_true, ha]
   constructor
   ·rintro (⟨h1, h2⟩ | ⟨h1, h2⟩)
    ·exact .inr (.inl ⟨trivial, h1.symm⟩)
    ·exact .inr (.inr ⟨h1.symm, trivial⟩)
   ·rintro ((⟨h1, h2⟩ | ⟨h1, h2⟩) | ⟨_, h1⟩ | ⟨h1, _⟩)
    ·exact absurd h1.symm h2
    ·exact absurd h1.symm h2
    ·exact .inl ⟨h1.symm, by rw [h1]; exact hp⟩
    ·exact .inl ⟨h1.symm, by rw [h1]; exact hp⟩
  ·simp only [if_true, hy, if_false, ha]
   constructor
   ·rintro (⟨h1, h2⟩ | ⟨h1, h2⟩)
    ·exact .inr (.inl ⟨trivial, h1.symm⟩)
    ·exact .inl (.inr ⟨h1, h2⟩)
   ·rintro ((⟨h1, h2⟩ | ⟨h1, h2⟩) | ⟨_, h1⟩ | ⟨_, h1⟩)
    ·exact absurd h1.symm h2
    ·exact .inr ⟨h1, h2⟩
    ·exact .inl ⟨h1.symm, by rw [h1]; exact hp⟩
    ·exact absurd h1 (by simp)
 ·by_cases hy : y = a
  ·subst hy
   simp only [if_true, hx, if_false, ha, and_true, false_and, false_or]
   constructor
   ·rintro (⟨h1, h2⟩ | ⟨h1, h2⟩)
    ·exact .inl (.inl ⟨h1, h2⟩)
    ·exact .inr h1.symm
   ·rintro ((⟨h1, h2⟩ | ⟨h1, h2⟩) | h1)
    ·exact .inl ⟨h1, h2⟩
    ·exact absurd h1.symm h2
    ·exact .inr ⟨h1.symm, by rw [h1]; exact hp⟩
  ·simp only [hx, hy, if_false, false_and, and_false, or_false]
def Ls.link (S : Ls) (l : List Nat) (h : Nat) (e : Ed) : Ls :=
 { S with E := setE S.E h (some e), par := setP (setP (Li.ev S.par 0 l) h (e.v.toNat + 1)) (e.u.toNat + 1) h }
theorem Ls.Ok.linkOk (k : S.Ok) {u v h : Nat} {l lv : List Nat} {e : Ed} (hu : u < S.n) (hv : v < S.n) (eu : e.u = (u : Nat)) (ev' : e.v = (v : Nat)) (hl : Ch S.par (u + 1) l) (hlv : Ch (Li.ev S.par 0 l) (v + 1) lv) (hul : u + 1 ∉ lv) (hh : S.n < h) (hE : S.E h = none)
  (hid : ∀ x e', S.E x = some e' → e'.id ≠ e.id) : (S.link l h e).Ok := by
 have k1 := k.evert ⟨by omega, by omega⟩ hl
 have hV : ¬ S.V h := by
  rintro (⟨_, h1⟩ | h1)
  ·omega
  ·rw [hE] at h1; cases h1
 have p0 : Li.ev S.par 0 l (u + 1) = 0 := by obtain ⟨r, rfl⟩ := hl.head; exact ev_head
 have ph : Li.ev S.par 0 l h = 0 := k1.dd h hV
 have nk := k1.no_kid hV (by omega)
 have nk' : ∀ y, Li.ev S.par 0 l y ≠ h := nk
 have tu : e.u.toNat = u := by omega
 have tv : e.v.toNat = v := by omega
 have huv : u ≠ v := fun e => hul (by rw [e]; exact hlv.mem_self)
 have hlive := k1.live hlv (Ls.vtx (S := S.ev l) hv)
 have hhl : h ∉ lv := fun hm => hV (hlive h hm)
 have hne : h ≠ u + 1 := by omega
 generalize hP1 : Li.ev S.par 0 l = P1 at *
 have a2 : ∀ x y, Adj (setP P1 h (v + 1)) x y ↔ Adj P1 x y ∨ (x = h ∧ y = v + 1) ∨ (x = v + 1 ∧ y = h) := fun x y => adj_setP ph (by omega) (by omega)
 have p2u : setP P1 h (v + 1) (u + 1) = 0 := by rw [setP_ne _ (Ne.symm hne)]; exact p0
 have a3 : ∀ x y, Adj (setP (setP P1 h (v + 1)) (u + 1) h) x y ↔ (Adj P1 x y ∨ (x = h ∧ y = v + 1) ∨ (x = v + 1 ∧ y = h)) ∨ (x = u + 1 ∧ y = h) ∨ (x = h ∧ y = u + 1) := fun x y => by
  rw [adj_setP p2u (by omega) (by omega), a2]
 have nadj : ∀ y, ¬ Adj P1 h y := fun y => by
  rintro (⟨h1, h2⟩ | ⟨h1, h2⟩)
  ·rw [ph] at h1; exact h2 h1.symm
  ·exact nk' y h1
 have epar : (S.link l h e).par = setP (setP P1 h (v + 1)) (u + 1) h := by unfold Ls.link; rw [tu, tv, hP1]
 have eE : (S.link l h e).E = setE S.E h (some e) := rfl
 have en' : (S.link l h e).n = S.n := rfl
 have hV' : ∀ x, (S.link l h e).V x ↔ S.V x ∨ x = h := fun x => by
  unfold Ls.V
  rw [eE, en']
  by_cases ex : x = h
  ·rw [ex, setE_same]; simp
  ·rw [setE_ne _ _ ex]; simp [ex]
 refine ⟨k.n1, k.n64, ?_, fun x e' he => ?_, fun x e' y he => ?_, fun a y h1 h2 h3 => ?_, fun x hx => ?_, fun x hx => ?_, fun x hx => ?_⟩
 ·intro x y a b ha hb hab
  rw [eE] at ha hb
  by_cases ex : x = h
  ·by_cases ey : y = h
   ·rw [ex, ey]
   ·rw [ex, setE_same] at ha
    rw [setE_ne _ _ ey] at hb
    obtain rfl := Option.some.inj ha
    exact absurd hab.symm (hid y b hb)
  ·rw [setE_ne _ _ ex] at ha
   by_cases ey : y = h
   ·rw [ey, setE_same] at hb
    obtain rfl := Option.some.inj hb
    exact absurd hab (hid x a ha)
   ·rw [setE_ne _ _ ey] at hb
    exact k.uq x y a b ha hb hab
 ·rw [eE] at he
  rw [epar]
  by_cases ex : x = h
  ·subst ex
   rw [setE_same] at he
   obtain rfl := Option.some.inj he
   refine ⟨hh, ⟨by omega, ?_⟩, ⟨by omega, ?_⟩, by omega, ?_⟩
   ·show e.u < ((S.n : Nat) : Int); omega
   ·show e.v < ((S.n : Nat) : Int); omega
   ·rw [setP_ne _ hne, setP_same]; omega
  ·rw [setE_ne _ _ ex] at he
   obtain ⟨q1, q2, q3, q4, q5⟩ := k1.en x e' he
   refine ⟨q1, q2, q3, q4, ?_⟩
   have q1' : S.n < x := q1
   rw [setP_ne _ (by omega), setP_ne _ ex]
   have : (S.ev l).par = P1 := hP1
   rw [this] at q5
   exact q5
 ·rw [eE] at he
  rw [epar, a3]
  by_cases ex : x = h
  ·subst ex
   rw [setE_same] at he
   obtain rfl := Option.some.inj he
   rw [tu, tv]
   constructor
   ·rintro ((h1 | ⟨_, h1⟩ | ⟨h1, _⟩) | ⟨h1, _⟩ | ⟨_, h1⟩)
    ·exact absurd h1 (nadj y)
    ·exact .inr h1
    ·omega
    ·omega
    ·exact .inl h1
   ·rintro (h1 | h1)
    ·exact .inr (.inr ⟨rfl, h1⟩)
    ·exact .inl (.inr (.inl ⟨rfl, h1⟩))
  ·rw [setE_ne _ _ ex] at he
   have q := k1.ad x e' y he
   have : (S.ev l).par = P1 := hP1
   rw [this] at q
   have q1 : S.n < x := (k1.en x e' he).1
   rw [← q]
   constructor
   ·rintro ((h1 | ⟨h1, _⟩ | ⟨h1, _⟩) | ⟨h1, _⟩ | ⟨h1, _⟩)
    ·exact h1
    ·exact absurd h1 ex
    ·omega
    ·omega
    ·exact absurd h1 ex
   ·exact fun h1 => .inl (.inl h1)
 ·rw [epar, a3] at h3
  rw [eE]
  have h2' : a ≤ S.n := h2
  rcases h3 with (h3 | ⟨h3, _⟩ | ⟨_, h3⟩) | ⟨_, h3⟩ | ⟨h3, _⟩
  ·have := k1.vx a y h1 h2 (by have e1 : (S.ev l).par = P1 := hP1; rw [e1]; exact h3)
   have this : (S.E y).isSome = true := this
   have hy : y ≠ h := by rintro rfl; rw [hE] at this; cases this
   rw [setE_ne _ _ hy]; exact this
  ·omega
  ·rw [h3, setE_same]; rfl
  ·rw [h3, setE_same]; rfl
  ·omega
 ·rw [epar]
  have step : ∀ x, (∃ m, Ch P1 x m) → ∃ m, Ch (setP (setP P1 h (v + 1)) (u + 1) h) x m := by
   rintro x ⟨m, hm⟩
   obtain ⟨m1, g1, _⟩ := hang_chain (by omega) hlv hhl hm ph
   obtain ⟨mh, gh, g2, g3⟩ := hang_chain (a := h) (p := v + 1) (by omega) hlv hhl (Ch.root ph) ph
   have emh := g3 (by simp)
   obtain ⟨m2, g4, _⟩ := hang_chain (a := u + 1) (p := h) (by omega) gh (by rw [emh]; simp; exact ⟨by omega, hul⟩) g1 p2u
   exact ⟨m2, g4⟩
  refine step x ?_
  rcases (hV' x).1 hx with h1 | h1
  ·have := k1.ac x h1
   have e1 : (S.ev l).par = P1 := hP1
   rw [e1] at this
   exact this
  ·exact ⟨_, .root (by rw [h1]; exact ph)⟩
 ·rw [hV', epar]
  by_cases e1 : x = u + 1
  ·rw [e1, setP_same]; exact .inr (.inr rfl)
  ·rw [setP_ne _ e1]
   by_cases e2 : x = h
   ·rw [e2, setP_same]; exact .inr (.inl (Ls.vtx hv))
   ·rw [setP_ne _ e2]
    rcases (hV' x).1 hx with h1 | h1
    ·have := k1.cl x h1
     have e1 : (S.ev l).par = P1 := hP1
     rw [e1] at this
     exact this.imp id .inl
    ·exact absurd h1 e2
 ·rw [hV', not_or] at hx
  rw [epar, setP_ne _ fun e => hx.1 (by rw [e]; exact Ls.vtx hu), setP_ne _ hx.2]
  have := k1.dd x hx.1
  have e1 : (S.ev l).par = P1 := hP1
  rw [e1] at this
  exact this
theorem Ls.Ok.kid (k : S.Ok) {h : Nat} {e : Ed} (he : S.E h = some e) : ∃ c p, S.par c = h ∧ S.par h = p ∧ c ≠ p ∧ ((c = e.u.toNat + 1 ∧ p = e.v.toNat + 1) ∨ (c = e.v.toNat + 1 ∧ p = e.u.toNat + 1)) ∧ (∀ y, S.par y = h → y = c) := by
 obtain ⟨q1, q2, q3, q4, q5⟩ := k.en h e he
 have hh0 : h ≠ 0 := by omega
 have hV : S.V h := .inr (by rw [he]; rfl)
 have ad := fun y => k.ad h e y he
 have hne : e.u.toNat + 1 ≠ e.v.toNat + 1 := by omega
 have hp := (ad (S.par h)).1 (.inl ⟨rfl, q5⟩)
 have oth : ∀ c, (c = e.u.toNat + 1 ∨ c = e.v.toNat + 1) → c ≠ S.par h → S.par c = h := fun c hc hcp => by
  rcases (ad c).2 hc with h1 | h1
  ·exact absurd h1.1.symm hcp
  ·exact h1.1
 have cyc : S.par (S.par h) ≠ h := fun hc => by
  obtain ⟨m, hm⟩ := k.ac h hV
  have hnd := hm.nodup
  cases hm with
  | root h0 => exact q5 h0
  | step h0 k1 =>
   cases k1 with
   | root h1 => rw [hc] at h1; exact hh0 h1
   | step h1 k2 =>
    rw [hc] at k2
    have := k2.mem_self
    simp only [List.nodup_cons, List.mem_cons, not_or] at hnd
    exact hnd.1.2 this
 have un : ∀ c, c ≠ S.par h → (c = e.u.toNat + 1 ∨ c = e.v.toNat + 1) → ∀ y, S.par y = h → y = c := fun c hcp hc y hy => by
  have h1 := (ad y).1 (.inr ⟨hy, hh0⟩)
  have h2 : y ≠ S.par h := fun e => cyc (by rw [← e]; exact hy)
  rcases hp with hp | hp <;> rcases hc with hc | hc <;> rcases h1 with h1 | h1 <;> omega
 rcases hp with hp | hp
 ·refine ⟨e.v.toNat + 1, S.par h, oth _ (.inr rfl) (by omega), rfl, by omega, .inr ⟨rfl, hp⟩, un _ (by omega) (.inr rfl)⟩
 ·refine ⟨e.u.toNat + 1, S.par h, oth _ (.inl rfl) (by omega), rfl, by omega, .inl ⟨rfl, hp⟩, un _ (by omega) (.inl rfl)⟩
def Ls.cut (S : Ls) (h c : Nat) : Ls := { S with E := setE S.E h none, par := setP (setP S.par h 0) c 0 }
theorem Ls.Ok.cutOk (k : S.Ok) {h c : Nat} {e : Ed} (he : S.E h = some e) (hc : S.par c = h) : (S.cut h c).Ok := by
 obtain ⟨q1, q2, q3, q4, q5⟩ := k.en h e he
 obtain ⟨c', p, c1, c2, c3, c4, c5⟩ := k.kid he
 obtain rfl := c5 c hc
 have hh0 : h ≠ 0 := by omega
 have hch : c ≠ h := by rcases c4 with c4 | c4 <;> omega
 have par' : ∀ x, (S.cut h c).par x = if x = h ∨ x = c then 0 else S.par x := fun x => by
  show setP (setP S.par h 0) c 0 x = _
  unfold setP
  by_cases e1 : x = c
  ·simp [e1]
  ·by_cases e2 : x = h <;> simp [e1, e2]
 have adj : ∀ x y, Adj (S.cut h c).par x y ↔ Adj S.par x y ∧ x ≠ h ∧ y ≠ h := fun x y => by
  have key : ∀ x y, ((S.cut h c).par x = y ∧ y ≠ 0) ↔ (S.par x = y ∧ y ≠ 0) ∧ x ≠ h ∧ y ≠ h := fun x y => by
   rw [par']
   by_cases e1 : x = h ∨ x = c
   ·rw [if_pos e1]
    constructor
    ·rintro ⟨h1, h2⟩; exact absurd h1.symm h2
    ·rintro ⟨⟨h1, h2⟩, h3, h4⟩
     rcases e1 with e1 | e1
     ·exact absurd e1 h3
     ·rw [e1, hc] at h1; exact absurd h1.symm h4
   ·rw [if_neg e1]
    simp only [not_or] at e1
    constructor
    ·rintro ⟨h1, h2⟩
     exact ⟨⟨h1, h2⟩, e1.1, fun h3 => e1.2 (c5 x (by rw [h1, h3]))⟩
    ·rintro ⟨h1, _⟩; exact h1
  unfold Adj
  rw [key x y, key y x]
  constructor
  ·rintro (⟨h1, h2, h3⟩ | ⟨h1, h2, h3⟩)
   ·exact ⟨.inl h1, h2, h3⟩
   ·exact ⟨.inr h1, h3, h2⟩
  ·rintro ⟨h1 | h1, h2, h3⟩
   ·exact .inl ⟨h1, h2, h3⟩
   ·exact .inr ⟨h1, h3, h2⟩
 have hV' : ∀ x, (S.cut h c).V x ↔ S.V x ∧ x ≠ h := fun x => by
  unfold Ls.V
  show (1 ≤ x ∧ x ≤ S.n) ∨ (setE S.E h none x).isSome = true ↔ _
  by_cases ex : x = h
  ·rw [ex, setE_same]; simp; omega
  ·rw [setE_ne _ _ ex]; simp [ex]
 have some' : ∀ x e', (S.cut h c).E x = some e' → x ≠ h ∧ S.E x = some e' := fun x e' hx => by
  have hx : setE S.E h none x = some e' := hx
  by_cases ex : x = h
  ·rw [ex, setE_same] at hx; cases hx
  ·rw [setE_ne _ _ ex] at hx; exact ⟨ex, hx⟩
 refine ⟨k.n1, k.n64, ?_, fun x e' hx => ?_, fun x e' y hx => ?_, fun a y h1 h2 h3 => ?_, fun x hx => ?_, fun x hx => ?_, fun x hx => ?_⟩
 ·intro x y a b ha hb
  exact k.uq x y a b (some' x a ha).2 (some' y b hb).2
 ·obtain ⟨ex, hx⟩ := some' x e' hx
  obtain ⟨r1, r2, r3, r4, r5⟩ := k.en x e' hx
  refine ⟨r1, r2, r3, r4, ?_⟩
  rw [par', if_neg]
  ·exact r5
  ·rintro (h1 | h1)
   ·exact ex h1
   ·rcases c4 with c4 | c4 <;> omega
 ·obtain ⟨ex, hx⟩ := some' x e' hx
  rw [adj, k.ad x e' y hx]
  have r1 := k.en x e' hx
  constructor
  ·exact fun h => h.1
  ·exact fun h => ⟨h, ex, by rcases h with h | h <;> omega⟩
 ·rw [adj] at h3
  have := k.vx a y h1 h2 h3.1
  show (setE S.E h none y).isSome = true
  rw [setE_ne _ _ h3.2.2]
  exact this
 ·obtain ⟨m, hm⟩ := k.ac x ((hV' x).1 hx).1
  obtain ⟨m1, g1, _⟩ := cut_chain (a := h) hm
  obtain ⟨m2, g2, _⟩ := cut_chain (a := c) g1
  exact ⟨m2, g2⟩
 ·rw [hV', par']
  by_cases e1 : x = h ∨ x = c
  ·rw [if_pos e1]; exact .inl rfl
  ·rw [if_neg e1]
   simp only [not_or] at e1
   rcases k.cl x ((hV' x).1 hx).1 with h1 | h1
   ·exact .inl h1
   ·exact .inr ⟨h1, fun h2 => e1.2 (c5 x h2)⟩
 ·rw [par']
  split
  ·rfl
  ·rename_i h1
   simp only [not_or] at h1
   exact k.dd x fun hV => hx ((hV' x).2 ⟨hV, h1.1⟩)
end
end Go.Li
namespace Go.Proofs.Ytafehbegoanajaa
open Go Go.Hp Go.Li
set_option linter.all false
set_option maxRecDepth 100000
set_option maxHeartbeats 1600000
def natV (h : Nat) : Value := .int .i64 h
@[go_sem] theorem mapT_ids : mapT Try.prog 67 = some (3, .int .i64 0) := by kernel_rfl
theorem kInt : KeyT Try.prog 3 intK := by
 obtain ⟨tk, h1, h2, _⟩ := tabI
 exact keyInt h1 h2
def inB (n : Nat) (x : Int) : Bool := decide (0 ≤ x) && decide (x < n)
theorem inB_nat {n : Nat} {x : Int} (h : inB n x = true) : ∃ v : Nat, x = (v : Int) ∧ v < n := by
 unfold inB at h
 simp only [Bool.and_eq_true, decide_eq_true_iff] at h
 exact ⟨x.toNat, by omega, by omega⟩
theorem inB_of {n v : Nat} (h : v < n) : inB n (v : Int) = true := by unfold inB; simp; omega
structure LtAt (H : Heap) (t g c len r : Nat) (Bf : Option Nat) (vf : Value) (S : Ls) (N : Nodes) (rows : List (List Nat)) (ids : Int → Option Nat) (fr : List Nat) : Prop where
 hd : Blk H t [.int .i64 S.n, .slice (some ⟨g, 0, none⟩) len c, .map (some r), vf]
 na : NA H t g c len N
 mp : ∃ k, MapF intK natV H r ids k
 fri : IR H Bf vf (natsI fr)
 ap : t ≠ r ∧ g ≠ r ∧ Bf ≠ some t ∧ Bf ≠ some g ∧ Bf ≠ some r
 ok : S.Ok
 lc : LC N S.E S.par rows S.V
 id : ∀ i h, ids i = some h ↔ ∃ e, S.E h = some e ∧ e.id = i
 free : ∀ h ∈ fr, S.n < h ∧ h < len ∧ S.E h = none
 frn : fr.Nodup
 all : ∀ h, S.n < h → h < len → (S.E h).isSome = true ∨ h ∈ fr
 lt : ∀ h, S.V h → h < len
 ln : len ≤ 130
def LtM (H : Heap) (t : Nat) (T : Nat → Prop) (S : Ls) : Prop :=
 ∃ g c len r Bf vf N rows ids fr, LtAt H t g c len r Bf vf S N rows ids fr ∧ ∀ b, T b ↔ (b = t ∨ b = g ∨ b = r ∨ Bf = some b)
section
variable {H H' : Heap} {t g c len r : Nat} {Bf : Option Nat} {vf : Value} {S : Ls} {N N' : Nodes} {rows rows' : List (List Nat)} {ids : Int → Option Nat} {fr : List Nat} {T : Nat → Prop} {K : Value → Heap → Prop}
theorem LtAt.frame {T0 : Nat → Prop} (h : LtAt H t g c len r Bf vf S N rows ids fr) (hf : Fr T0 H H') (hT : ∀ b, (b = t ∨ b = g ∨ b = r ∨ Bf = some b) → ¬ T0 b) : LtAt H' t g c len r Bf vf S N rows ids fr where
 hd := h.hd.frame hf (hT _ (.inl rfl))
 na := h.na.frame hf (hT _ (.inl rfl)) (hT _ (.inr (.inl rfl)))
 mp := ⟨_, h.mp.choose_spec.frame hf (hT _ (.inr (.inr (.inl rfl))))⟩
 fri := h.fri.frame hf fun b hb => hT _ (.inr (.inr (.inr hb)))
 ap := h.ap
 ok := h.ok
 lc := h.lc
 id := h.id
 free := h.free
 frn := h.frn
 all := h.all
 lt := h.lt
 ln := h.ln
theorem LtAt.grow (h : LtAt H t g c len r Bf vf S N rows ids fr) (hf : Fr (fun _ => False) H H') : LtAt H' t g c len r Bf vf S N rows ids fr := h.frame hf fun _ _ h => h
theorem LtAt.upd (h : LtAt H t g c len r Bf vf S N rows ids fr) {p : Par} (hN : NA H' t g c len N') (hL : LC N' S.E p rows' S.V) (hk : Ls.Ok { S with par := p }) (hf : Fr (· = g) H H') : LtAt H' t g c len r Bf vf { S with par := p } N' rows' ids fr where
 hd := h.hd.frame hf h.na.ne
 na := hN
 mp := ⟨_, h.mp.choose_spec.frame hf (Ne.symm h.ap.2.1)⟩
 fri := IR.frame h.fri hf fun b hb (e : b = g) => h.ap.2.2.2.1 (by rw [hb, e])
 ap := h.ap
 ok := hk
 lc := hL
 id := h.id
 free := h.free
 frn := h.frn
 all := h.all
 lt := h.lt
 ln := h.ln
theorem LtAt.keep (h : LtAt H t g c len r Bf vf S N rows ids fr) (hN : NA H' t g c len N') (hL : LC N' S.E S.par rows' S.V) (hf : Fr (· = g) H H') : LtAt H' t g c len r Bf vf S N' rows' ids fr := h.upd hN hL h.ok hf
theorem LtAt.m (h : LtAt H t g c len r Bf vf S N rows ids fr) : LtM H t (fun b => b = t ∨ b = g ∨ b = r ∨ Bf = some b) S := ⟨g, c, len, r, Bf, vf, N, rows, ids, fr, h, fun b => Iff.rfl⟩
theorem LtAt.mT (h : LtAt H t g c len r Bf vf S N rows ids fr) (hT : ∀ b, T b ↔ (b = t ∨ b = g ∨ b = r ∨ Bf = some b)) : LtM H t T S := ⟨g, c, len, r, Bf, vf, N, rows, ids, fr, h, hT⟩
theorem LtM.frame {T0 : Nat → Prop} (h : LtM H t T S) (hf : Fr T0 H H') (hT : ∀ b, T b → ¬ T0 b) : LtM H' t T S := by
 obtain ⟨g, c, len, r, Bf, vf, N, rows, ids, fr, h, e⟩ := h
 exact ⟨g, c, len, r, Bf, vf, N, rows, ids, fr, h.frame hf fun b hb => hT b ((e b).2 hb), e⟩
theorem LtM.grow (h : LtM H t T S) (hf : Fr (fun _ => False) H H') : LtM H' t T S := h.frame hf fun _ _ h => h
theorem LtM.ok (h : LtM H t T S) : S.Ok := by
 obtain ⟨g, c, len, r, Bf, vf, N, rows, ids, fr, h, e⟩ := h
 exact h.ok
theorem LtAt.below (h : LtAt H t g c len r Bf vf S N rows ids fr) : ∀ b, (b = t ∨ b = g ∨ b = r ∨ Bf = some b) → b < H.size := by
 rintro b (rfl | rfl | rfl | hb)
 ·exact h.hd.lt
 ·exact h.na.lt.2
 ·exact h.mp.choose_spec.lt
 ·exact h.fri.lt hb
theorem LtM.below (h : LtM H t T S) : ∀ b, T b → b < H.size := by
 obtain ⟨g, c, len, r, Bf, vf, N, rows, ids, fr, h, e⟩ := h
 exact fun b hb => h.below b ((e b).1 hb)
theorem LtM.self (h : LtM H t T S) : T t := by
 obtain ⟨g, c, len, r, Bf, vf, N, rows, ids, fr, h, e⟩ := h
 exact (e t).2 (.inl rfl)
theorem has1_ok {q : Nat} {n : Nat} {x : Int} (hq : hcell H ⟨q, 0, none⟩ = some (.pointer (some ⟨t, 0, none⟩))) (hn : hcell H ⟨t, 0, none⟩ = some (.int .i64 (n : Nat))) (fin : K (.bool (!inB n x)) H) :
  CallsH Try.prog 60 #[.int .i64 x, .pointer (some ⟨q, 0, none⟩)] H K := by
 unfold inB at fin
 refine call60 (by simp) ?_
 simp only [Try.f60, Option.getD_some]
 by_cases h0 : x < 0
 ·have t1 : (x < 0) = True := by simp [h0]
  have t2 : decide (0 ≤ x) = false := by simp; omega
  rw [t2] at fin
  repeat' (first|(with_reducible first|refine jA ?_|(refine hK _ _ ?_;clear hK K)|refine jJ fun K hK=>?_|refine jK ?_|refine jL ?_|refine jM ?_|refine jN ?_|refine jO ?_|refine jP ?_|refine jQ ?_|(refine jB ?_;clear hK K)|(refine jC ?_;clear hK K)|refine jD ?_|refine jE ?_|refine jG ?_|refine jH ?_|refine jI ?_)|((with_reducible refine jR ?hq ?_);case hq=>rfl)|((first|(with_reducible first|refine jS fun K hK=>?_|refine jT ?_|refine jU ?_)|((with_reducible refine jV ?hy fun K hK=>?_);case hy=>rfl));simp only [go_sem, Nat.reduceEqDiff, Nat.reduceAdd, Nat.reduceMul, Nat.reduceLeDiff, Nat.reduceLT, Int.reduceLT, Int.reduceLE, Int.reduceEq, Int.reduceNeg, Int.reduceToNat, Nat.reducePow, reduceIte, reduceCtorEq, t1])|((with_reducible first|refine jW ?hy ?_|refine jY ?hy ?_);case hy=>rfl)|((with_reducible first|refine jX ?hy ?_|refine jZ ?hy ?_);case hy=>rfl)|((with_reducible refine jF ?hy ?_);case hy=>decide))
  exact fin
 ·have t1 : (x < 0) = False := by simp [h0]
  have t2 : decide (0 ≤ x) = true := by simp; omega
  rw [t2] at fin
  by_cases h1 : (n : Int) ≤ x
  ·have t3 : ((n : Int) ≤ x) = True := by simp [h1]
   have t4 : decide (x < (n : Int)) = false := by simp; omega
   rw [t4] at fin
   repeat' (first|(with_reducible first|refine jA ?_|(refine hK _ _ ?_;clear hK K)|refine jJ fun K hK=>?_|refine jK ?_|refine jL ?_|refine jM ?_|refine jN ?_|refine jO ?_|refine jP ?_|refine jQ ?_|(refine jB ?_;clear hK K)|(refine jC ?_;clear hK K)|refine jD ?_|refine jE ?_|refine jG ?_|refine jH ?_|refine jI ?_)|((with_reducible refine jR ?hq ?_);case hq=>rfl)|((first|(with_reducible first|refine jS fun K hK=>?_|refine jT ?_|refine jU ?_)|((with_reducible refine jV ?hy fun K hK=>?_);case hy=>rfl));simp only [go_sem, Nat.reduceEqDiff, Nat.reduceAdd, Nat.reduceMul, Nat.reduceLeDiff, Nat.reduceLT, Int.reduceLT, Int.reduceLE, Int.reduceEq, Int.reduceNeg, Int.reduceToNat, Nat.reducePow, reduceIte, reduceCtorEq, t1, hq, hn, t3])|((with_reducible first|refine jW ?hy ?_|refine jY ?hy ?_);case hy=>rfl)|((with_reducible first|refine jX ?hy ?_|refine jZ ?hy ?_);case hy=>rfl)|((with_reducible refine jF ?hy ?_);case hy=>decide))
   exact fin
  ·have t3 : ((n : Int) ≤ x) = False := by simp [h1]
   have t4 : decide (x < (n : Int)) = true := by simp; omega
   rw [t4] at fin
   repeat' (first|(with_reducible first|refine jA ?_|(refine hK _ _ ?_;clear hK K)|refine jJ fun K hK=>?_|refine jK ?_|refine jL ?_|refine jM ?_|refine jN ?_|refine jO ?_|refine jP ?_|refine jQ ?_|(refine jB ?_;clear hK K)|(refine jC ?_;clear hK K)|refine jD ?_|refine jE ?_|refine jG ?_|refine jH ?_|refine jI ?_)|((with_reducible refine jR ?hq ?_);case hq=>rfl)|((first|(with_reducible first|refine jS fun K hK=>?_|refine jT ?_|refine jU ?_)|((with_reducible refine jV ?hy fun K hK=>?_);case hy=>rfl));simp only [go_sem, Nat.reduceEqDiff, Nat.reduceAdd, Nat.reduceMul, Nat.reduceLeDiff, Nat.reduceLT, Int.reduceLT, Int.reduceLE, Int.reduceEq, Int.reduceNeg, Int.reduceToNat, Nat.reducePow, reduceIte, reduceCtorEq, t1, hq, hn, t3])|((with_reducible first|refine jW ?hy ?_|refine jY ?hy ?_);case hy=>rfl)|((with_reducible first|refine jX ?hy ?_|refine jZ ?hy ?_);case hy=>rfl)|((with_reducible refine jF ?hy ?_);case hy=>decide))
   exact fin
theorem has_ok {b cap : Nat} {n : Nat} {xs : List Int} (hn : hcell H ⟨t, 0, none⟩ = some (.int .i64 (n : Nat))) (hx : ∀ i x, xs[i]? = some x → hcell H ⟨b, i, none⟩ = some (.int .i64 x)) (hl : xs.length < 1000) (fin : ∀ H', Fr (fun _ => False) H H' → K (.bool (xs.all (inB n))) H') :
  CallsH Try.prog 43 #[.pointer (some ⟨t, 0, none⟩), .slice (some ⟨b, 0, none⟩) xs.length cap] H K := by
 refine call43 (by simp) ?_
 simp only [Try.f43, Option.getD_some]
 repeat' (first|(with_reducible first|refine jA ?_|(refine hK _ _ ?_;clear hK K)|refine jJ fun K hK=>?_|refine jK ?_|refine jL ?_|refine jM ?_|refine jN ?_|refine jO ?_|refine jP ?_|refine jQ ?_|(refine jB ?_;clear hK K)|(refine jC ?_;clear hK K)|refine jD ?_|refine jE ?_|refine jG ?_|refine jH ?_|refine jI ?_)|((with_reducible refine jR ?hq ?_);case hq=>rfl)|((first|(with_reducible first|refine jS fun K hK=>?_|refine jT ?_|refine jU ?_)|((with_reducible refine jV ?hy fun K hK=>?_);case hy=>rfl));simp only [go_sem, Nat.reduceEqDiff, Nat.reduceAdd, Nat.reduceMul, Nat.reduceLeDiff, Nat.reduceLT, Int.reduceLT, Int.reduceLE, Int.reduceEq, Int.reduceNeg, Int.reduceToNat, Nat.reducePow, reduceIte, reduceCtorEq])|((with_reducible first|refine jW ?hy ?_|refine jY ?hy ?_);case hy=>rfl)|((with_reducible first|refine jX ?hy ?_|refine jZ ?hy ?_);case hy=>rfl)|((with_reducible refine jF ?hy ?_);case hy=>decide))
 generalize eH1 : H.push _ = H1
 have f1 : Fr (fun _ => False) H H1 := by rw [← eH1]; exact (Fr.refl _ _).push _
 have q1 : hcell H1 ⟨H.size, 0, none⟩ = some (.pointer (some ⟨t, 0, none⟩)) := by rw [← eH1]; exact (Blk.new H [.pointer (some ⟨t, 0, none⟩)] _).cellOf rfl
 have n1 : hcell H1 ⟨t, 0, none⟩ = some (.int .i64 (n : Nat)) := by rw [f1.cell (hcell_lt hn) (fun h => h)]; exact hn
 have x1 : ∀ i x, xs[i]? = some x → hcell H1 ⟨b, i, none⟩ = some (.int .i64 x) := fun i x hi => by rw [f1.cell (hcell_lt (hx i x hi)) (fun h => h)]; exact hx i x hi
 have fin' := fin H1 f1
 generalize H.size = q at q1
 clear eH1 f1 fin hn hx
 refine call59 (by simp) ?_
 simp only [Try.f59, Option.getD_some]
 repeat' (first|(with_reducible first|refine jA ?_|(refine hK _ _ ?_;clear hK K)|refine jJ fun K hK=>?_|refine jK ?_|refine jL ?_|refine jM ?_|refine jN ?_|refine jO ?_|refine jP ?_|refine jQ ?_|(refine jB ?_;clear hK K)|(refine jC ?_;clear hK K)|refine jD ?_|refine jE ?_|refine jG ?_|refine jH ?_|refine jI ?_)|((with_reducible refine jR ?hq ?_);case hq=>rfl)|((first|(with_reducible first|refine jS fun K hK=>?_|refine jT ?_|refine jU ?_)|((with_reducible refine jV ?hy fun K hK=>?_);case hy=>rfl));simp only [go_sem, Nat.reduceEqDiff, Nat.reduceAdd, Nat.reduceMul, Nat.reduceLeDiff, Nat.reduceLT, Int.reduceLT, Int.reduceLE, Int.reduceEq, Int.reduceNeg, Int.reduceToNat, Nat.reducePow, reduceIte, reduceCtorEq])|((with_reducible first|refine jW ?hy ?_|refine jY ?hy ?_);case hy=>rfl)|((with_reducible first|refine jX ?hy ?_|refine jZ ?hy ?_);case hy=>rfl)|((with_reducible refine jF ?hy ?_);case hy=>decide))
 refine call69 (by simp) ?_
 simp only [Try.f69, Option.getD_some]
 repeat' (first|(with_reducible first|refine jA ?_|(refine hK _ _ ?_;clear hK K)|refine jJ fun K hK=>?_|refine jK ?_|refine jL ?_|refine jM ?_|refine jN ?_|refine jO ?_|refine jP ?_|refine jQ ?_|(refine jB ?_;clear hK K)|(refine jC ?_;clear hK K)|refine jD ?_|refine jE ?_|refine jG ?_|refine jH ?_|refine jI ?_)|((with_reducible refine jR ?hq ?_);case hq=>rfl)|((first|(with_reducible first|refine jS fun K hK=>?_|refine jT ?_|refine jU ?_)|((with_reducible refine jV ?hy fun K hK=>?_);case hy=>rfl));simp only [go_sem, Nat.reduceEqDiff, Nat.reduceAdd, Nat.reduceMul, Nat.reduceLeDiff, Nat.reduceLT, Int.reduceLT, Int.reduceLE, Int.reduceEq, Int.reduceNeg, Int.reduceToNat, Nat.reducePow, reduceIte, reduceCtorEq])|((with_reducible first|refine jW ?hy ?_|refine jY ?hy ?_);case hy=>rfl)|((with_reducible first|refine jX ?hy ?_|refine jZ ?hy ?_);case hy=>rfl)|((with_reducible refine jF ?hy ?_);case hy=>decide))
 refine x_loop (fun m e' H' => ∃ i : Nat, H' = H1 ∧ e' 8 = .int .i64 (i : Nat) ∧ i ≤ xs.length ∧ (∀ j x, j < i → xs[j]? = some x → inB n x = true) ∧ m = xs.length - i) xs.length ⟨0, rfl, rfl, Nat.zero_le _, fun j x h => (by omega), rfl⟩ ?_
 rintro m e1 H2 ⟨i, rfl, i8, hi, hall, rfl⟩ hoff
 have i0 : e1 0 = .slice (some ⟨b, 0, none⟩) xs.length cap := (hoff 0 rfl).trans rfl
 have i1 : e1 1 = .func (.func 60) #[] #[.pointer (some ⟨q, 0, none⟩)] := (hoff 1 rfl).trans rfl
 have i7 : e1 7 = .int .i64 (xs.length : Nat) := (hoff 7 rfl).trans rfl
 clear hoff
 by_cases hlt : i < xs.length
 ·obtain ⟨x, hxi⟩ : ∃ x, xs[i]? = some x := ⟨_, List.getElem?_eq_getElem hlt⟩
  have cx := x1 i x hxi
  have ew : IntKind.i64.wrap ((i : Int) + 1) = ((i + 1 : Nat) : Int) := by rw [wrap_i64] <;> omega
  repeat' (first|(with_reducible first|refine jA ?_|(refine hK _ _ ?_;clear hK K)|refine jJ fun K hK=>?_|refine jK ?_|refine jL ?_|refine jM ?_|refine jN ?_|refine jO ?_|refine jP ?_|refine jQ ?_|(refine jB ?_;clear hK K)|(refine jC ?_;clear hK K)|refine jD ?_|refine jE ?_|refine jG ?_|refine jH ?_|refine jI ?_)|((with_reducible refine jR ?hq ?_);case hq=>rfl)|((first|(with_reducible first|refine jS fun K hK=>?_|refine jT ?_|refine jU ?_)|((with_reducible refine jV ?hy fun K hK=>?_);case hy=>rfl));simp only [go_sem, Nat.reduceEqDiff, Nat.reduceAdd, Nat.reduceMul, Nat.reduceLeDiff, Nat.reduceLT, Int.reduceLT, Int.reduceLE, Int.reduceEq, Int.reduceNeg, Int.reduceToNat, Nat.reducePow, reduceIte, reduceCtorEq, i0, i1, i7, i8, hlt, cx])|((with_reducible first|refine jW ?hy ?_|refine jY ?hy ?_);case hy=>rfl)|((with_reducible first|refine jX ?hy ?_|refine jZ ?hy ?_);case hy=>rfl)|((with_reducible refine jF ?hy ?_);case hy=>decide))
  refine has1_ok q1 n1 ?_
  cases hb : inB n x with
  | false =>
   have e : xs.all (inB n) = false := by
    rw [List.all_eq_false]
    exact ⟨x, List.mem_of_getElem? hxi, by simp [hb]⟩
   rw [e] at fin'
   have t1 : ((0 : Int) ≤ (i : Nat)) = True := by simp
   repeat' (first|(with_reducible first|refine jA ?_|(refine hK _ _ ?_;clear hK K)|refine jJ fun K hK=>?_|refine jK ?_|refine jL ?_|refine jM ?_|refine jN ?_|refine jO ?_|refine jP ?_|refine jQ ?_|(refine jB ?_;clear hK K)|(refine jC ?_;clear hK K)|refine jD ?_|refine jE ?_|refine jG ?_|refine jH ?_|refine jI ?_)|((with_reducible refine jR ?hq ?_);case hq=>rfl)|((first|(with_reducible first|refine jS fun K hK=>?_|refine jT ?_|refine jU ?_)|((with_reducible refine jV ?hy fun K hK=>?_);case hy=>rfl));simp only [go_sem, Nat.reduceEqDiff, Nat.reduceAdd, Nat.reduceMul, Nat.reduceLeDiff, Nat.reduceLT, Int.reduceLT, Int.reduceLE, Int.reduceEq, Int.reduceNeg, Int.reduceToNat, Nat.reducePow, reduceIte, reduceCtorEq, i8, t1])|((with_reducible first|refine jW ?hy ?_|refine jY ?hy ?_);case hy=>rfl)|((with_reducible first|refine jX ?hy ?_|refine jZ ?hy ?_);case hy=>rfl)|((with_reducible refine jF ?hy ?_);case hy=>decide))
   exact fin'
  | true =>
   repeat' (first|(with_reducible first|refine jA ?_|(refine hK _ _ ?_;clear hK K)|refine jJ fun K hK=>?_|refine jK ?_|refine jL ?_|refine jM ?_|refine jN ?_|refine jO ?_|refine jP ?_|refine jQ ?_|(refine jB ?_;clear hK K)|(refine jC ?_;clear hK K)|refine jD ?_|refine jE ?_|refine jG ?_|refine jH ?_|refine jI ?_)|((with_reducible refine jR ?hq ?_);case hq=>rfl)|((first|(with_reducible first|refine jS fun K hK=>?_|refine jT ?_|refine jU ?_)|((with_reducible refine jV ?hy fun K hK=>?_);case hy=>rfl));simp only [go_sem, Nat.reduceEqDiff, Nat.reduceAdd, Nat.reduceMul, Nat.reduceLeDiff, Nat.reduceLT, Int.reduceLT, Int.reduceLE, Int.reduceEq, Int.reduceNeg, Int.reduceToNat, Nat.reducePow, reduceIte, reduceCtorEq, i8, ew])|((with_reducible first|refine jW ?hy ?_|refine jY ?hy ?_);case hy=>rfl)|((with_reducible first|refine jX ?hy ?_|refine jZ ?hy ?_);case hy=>rfl)|((with_reducible refine jF ?hy ?_);case hy=>decide))
   refine loop_normal (m' := xs.length - (i + 1)) (by omega) ⟨i + 1, rfl, rfl, hlt, fun j y hj hy => ?_, rfl⟩
   rcases Nat.lt_succ_iff_lt_or_eq.1 hj with hj | rfl
   ·exact hall j y hj hy
   ·rw [hxi] at hy
    obtain rfl := Option.some.inj hy
    exact hb
 ·have t1 : (i < xs.length) = False := by simp [hlt]
  have e : xs.all (inB n) = true := by
   rw [List.all_eq_true]
   intro x hx'
   obtain ⟨j, hj, rfl⟩ := List.mem_iff_getElem.1 hx'
   exact hall j _ (by omega) (List.getElem?_eq_getElem hj)
  rw [e] at fin'
  have t2 : ((0 : Int) ≤ -1) = False := by simp
  repeat' (first|(with_reducible first|refine jA ?_|(refine hK _ _ ?_;clear hK K)|refine jJ fun K hK=>?_|refine jK ?_|refine jL ?_|refine jM ?_|refine jN ?_|refine jO ?_|refine jP ?_|refine jQ ?_|(refine jB ?_;clear hK K)|(refine jC ?_;clear hK K)|refine jD ?_|refine jE ?_|refine jG ?_|refine jH ?_|refine jI ?_)|((with_reducible refine jR ?hq ?_);case hq=>rfl)|((first|(with_reducible first|refine jS fun K hK=>?_|refine jT ?_|refine jU ?_)|((with_reducible refine jV ?hy fun K hK=>?_);case hy=>rfl));simp only [go_sem, Nat.reduceEqDiff, Nat.reduceAdd, Nat.reduceMul, Nat.reduceLeDiff, Nat.reduceLT, Int.reduceLT, Int.reduceLE, Int.reduceEq, Int.reduceNeg, Int.reduceToNat, Nat.reducePow, reduceIte, reduceCtorEq, i7, i8, t1, t2])|((with_reducible first|refine jW ?hy ?_|refine jY ?hy ?_);case hy=>rfl)|((with_reducible first|refine jX ?hy ?_|refine jZ ?hy ?_);case hy=>rfl)|((with_reducible refine jF ?hy ?_);case hy=>decide))
  exact fin'
theorem hasA1 {u : Int} {T0 : TypeId} (h : LtAt H t g c len r Bf vf S N rows ids fr) (fin : ∀ H', LtAt H' t g c len r Bf vf S N rows ids fr → Fr (fun _ => False) H H' → K (.bool (inB S.n u)) H') :
  CallsH Try.prog 43 #[.pointer (some ⟨t, 0, none⟩), .slice (some ⟨H.size, 0, none⟩) 1 1] (H.push (.cells #[.int .i64 u] T0)) K := by
 have hf : Fr (fun _ => False) H (H.push (.cells #[.int .i64 u] T0)) := (Fr.refl _ _).push _
 have h' := h.grow hf
 have bn := Blk.new H [.int .i64 u] T0
 refine has_ok (xs := [u]) (h'.hd.cellOf (i := 0) rfl) (fun i x hi => ?_) (by simp) fun H2 hf2 => ?_
 ·rw [bn.cell]
  cases i with
  | zero => simp at hi; subst hi; rfl
  | succ i => simp at hi
 ·have := fin _ (h'.grow hf2) (hf.trans hf2)
  simpa using this
theorem hasA2 {u v : Int} {T0 : TypeId} (h : LtAt H t g c len r Bf vf S N rows ids fr) (fin : ∀ H', LtAt H' t g c len r Bf vf S N rows ids fr → Fr (fun _ => False) H H' → K (.bool (inB S.n u && inB S.n v)) H') :
  CallsH Try.prog 43 #[.pointer (some ⟨t, 0, none⟩), .slice (some ⟨H.size, 0, none⟩) 2 2] (H.push (.cells #[.int .i64 u, .int .i64 v] T0)) K := by
 have hf : Fr (fun _ => False) H (H.push (.cells #[.int .i64 u, .int .i64 v] T0)) := (Fr.refl _ _).push _
 have h' := h.grow hf
 have bn := Blk.new H [.int .i64 u, .int .i64 v] T0
 refine has_ok (xs := [u, v]) (h'.hd.cellOf (i := 0) rfl) (fun i x hi => ?_) (by simp) fun H2 hf2 => ?_
 ·rw [bn.cell]
  rcases i with _ | _ | i
  ·simp at hi; subst hi; rfl
  ·simp at hi; subst hi; rfl
  ·simp at hi
 ·have := fin _ (h'.grow hf2) (hf.trans hf2)
  simpa using this
def Fg (T : Nat → Prop) (g : Nat) (H H' : Heap) : Prop := T g → Fr (· = g) H H' → Fr T H H'
theorem fr_g {H H' : Heap} (hT : T g) (hf : Fr (· = g) H H') : Fr T H H' := hf.mono fun b _ e => by rw [e]; exact hT
theorem m_same {u v ru rv : Nat} (h : LtM H t T S) (hu : u < S.n) (hv : v < S.n) (hru : RootOf S.par (u + 1) ru) (hrv : RootOf S.par (v + 1) rv) (fin : ∀ H', LtM H' t T S → Fr T H H' → K (.tuple #[.bool (decide (ru = rv)), .int .i64 0]) H') :
  CallsH Try.prog 54 #[.pointer (some ⟨t, 0, none⟩), .int .i64 (u : Nat), .int .i64 (v : Nat)] H K := by
 obtain ⟨g, c, len, r, Bf, vf, N, rows, ids, fr, h, e⟩ := h
 have hn := h.ok.n64
 have ew : IntKind.i64.wrap ((u : Int) + 1) = ((u + 1 : Nat) : Int) := by rw [wrap_i64] <;> omega
 have ew2 : IntKind.i64.wrap ((v : Int) + 1) = ((v + 1 : Nat) : Int) := by rw [wrap_i64] <;> omega
 refine call54 (by simp) ?_
 simp only [Try.f54, Option.getD_some]
 repeat' (first|(with_reducible first|refine jA ?_|(refine hK _ _ ?_;clear hK K)|refine jJ fun K hK=>?_|refine jK ?_|refine jL ?_|refine jM ?_|refine jN ?_|refine jO ?_|refine jP ?_|refine jQ ?_|(refine jB ?_;clear hK K)|(refine jC ?_;clear hK K)|refine jD ?_|refine jE ?_|refine jG ?_|refine jH ?_|refine jI ?_)|((with_reducible refine jR ?hq ?_);case hq=>rfl)|((first|(with_reducible first|refine jS fun K hK=>?_|refine jT ?_|refine jU ?_)|((with_reducible refine jV ?hy fun K hK=>?_);case hy=>rfl));simp only [go_sem, Nat.reduceEqDiff, Nat.reduceAdd, Nat.reduceMul, Nat.reduceLeDiff, Nat.reduceLT, Int.reduceLT, Int.reduceLE, Int.reduceEq, Int.reduceNeg, Int.reduceToNat, Nat.reducePow, reduceIte, reduceCtorEq])|((with_reducible first|refine jW ?hy ?_|refine jY ?hy ?_);case hy=>rfl)|((with_reducible first|refine jX ?hy ?_|refine jZ ?hy ?_);case hy=>rfl)|((with_reducible refine jF ?hy ?_);case hy=>decide))
 refine hasA2 h fun H1 h1 hf1 => ?_
 rw [inB_of hu, inB_of hv]
 repeat' (first|(with_reducible first|refine jA ?_|(refine hK _ _ ?_;clear hK K)|refine jJ fun K hK=>?_|refine jK ?_|refine jL ?_|refine jM ?_|refine jN ?_|refine jO ?_|refine jP ?_|refine jQ ?_|(refine jB ?_;clear hK K)|(refine jC ?_;clear hK K)|refine jD ?_|refine jE ?_|refine jG ?_|refine jH ?_|refine jI ?_)|((with_reducible refine jR ?hq ?_);case hq=>rfl)|((first|(with_reducible first|refine jS fun K hK=>?_|refine jT ?_|refine jU ?_)|((with_reducible refine jV ?hy fun K hK=>?_);case hy=>rfl));simp only [go_sem, Nat.reduceEqDiff, Nat.reduceAdd, Nat.reduceMul, Nat.reduceLeDiff, Nat.reduceLT, Int.reduceLT, Int.reduceLE, Int.reduceEq, Int.reduceNeg, Int.reduceToNat, Nat.reducePow, reduceIte, reduceCtorEq, ew, ew2, Bool.and_self])|((with_reducible first|refine jW ?hy ?_|refine jY ?hy ?_);case hy=>rfl)|((with_reducible first|refine jX ?hy ?_|refine jZ ?hy ?_);case hy=>rfl)|((with_reducible refine jF ?hy ?_);case hy=>decide))
 refine same_ok h1.na h1.lc h1.lt (Ls.vtx hu) (Ls.vtx hv) hru hrv fun H2 N2 rows2 hN2 hL2 hf2 => ?_
 repeat' (first|(with_reducible first|refine jA ?_|(refine hK _ _ ?_;clear hK K)|refine jJ fun K hK=>?_|refine jK ?_|refine jL ?_|refine jM ?_|refine jN ?_|refine jO ?_|refine jP ?_|refine jQ ?_|(refine jB ?_;clear hK K)|(refine jC ?_;clear hK K)|refine jD ?_|refine jE ?_|refine jG ?_|refine jH ?_|refine jI ?_)|((with_reducible refine jR ?hq ?_);case hq=>rfl)|((first|(with_reducible first|refine jS fun K hK=>?_|refine jT ?_|refine jU ?_)|((with_reducible refine jV ?hy fun K hK=>?_);case hy=>rfl));simp only [go_sem, Nat.reduceEqDiff, Nat.reduceAdd, Nat.reduceMul, Nat.reduceLeDiff, Nat.reduceLT, Int.reduceLT, Int.reduceLE, Int.reduceEq, Int.reduceNeg, Int.reduceToNat, Nat.reducePow, reduceIte, reduceCtorEq])|((with_reducible first|refine jW ?hy ?_|refine jY ?hy ?_);case hy=>rfl)|((with_reducible first|refine jX ?hy ?_|refine jZ ?hy ?_);case hy=>rfl)|((with_reducible refine jF ?hy ?_);case hy=>decide))
 exact fin _ ((h1.keep hN2 hL2 hf2).mT e) ((hf1.mono fun _ _ h => h.elim).trans (fr_g ((e g).2 (.inr (.inl rfl))) hf2))
theorem m_same_bad {u v : Int} (h : LtM H t T S) (hv : (inB S.n u && inB S.n v) = false) (fin : ∀ H', LtM H' t T S → Fr T H H' → K (.tuple #[.bool false, .int .i64 50]) H') :
  CallsH Try.prog 54 #[.pointer (some ⟨t, 0, none⟩), .int .i64 u, .int .i64 v] H K := by
 obtain ⟨g, c, len, r, Bf, vf, N, rows, ids, fr, h, e⟩ := h
 refine call54 (by simp) ?_
 simp only [Try.f54, Option.getD_some]
 repeat' (first|(with_reducible first|refine jA ?_|(refine hK _ _ ?_;clear hK K)|refine jJ fun K hK=>?_|refine jK ?_|refine jL ?_|refine jM ?_|refine jN ?_|refine jO ?_|refine jP ?_|refine jQ ?_|(refine jB ?_;clear hK K)|(refine jC ?_;clear hK K)|refine jD ?_|refine jE ?_|refine jG ?_|refine jH ?_|refine jI ?_)|((with_reducible refine jR ?hq ?_);case hq=>rfl)|((first|(with_reducible first|refine jS fun K hK=>?_|refine jT ?_|refine jU ?_)|((with_reducible refine jV ?hy fun K hK=>?_);case hy=>rfl));simp only [go_sem, Nat.reduceEqDiff, Nat.reduceAdd, Nat.reduceMul, Nat.reduceLeDiff, Nat.reduceLT, Int.reduceLT, Int.reduceLE, Int.reduceEq, Int.reduceNeg, Int.reduceToNat, Nat.reducePow, reduceIte, reduceCtorEq])|((with_reducible first|refine jW ?hy ?_|refine jY ?hy ?_);case hy=>rfl)|((with_reducible first|refine jX ?hy ?_|refine jZ ?hy ?_);case hy=>rfl)|((with_reducible refine jF ?hy ?_);case hy=>decide))
 refine hasA2 h fun H1 h1 hf1 => ?_
 rw [hv]
 repeat' (first|(with_reducible first|refine jA ?_|(refine hK _ _ ?_;clear hK K)|refine jJ fun K hK=>?_|refine jK ?_|refine jL ?_|refine jM ?_|refine jN ?_|refine jO ?_|refine jP ?_|refine jQ ?_|(refine jB ?_;clear hK K)|(refine jC ?_;clear hK K)|refine jD ?_|refine jE ?_|refine jG ?_|refine jH ?_|refine jI ?_)|((with_reducible refine jR ?hq ?_);case hq=>rfl)|((first|(with_reducible first|refine jS fun K hK=>?_|refine jT ?_|refine jU ?_)|((with_reducible refine jV ?hy fun K hK=>?_);case hy=>rfl));simp only [go_sem, Nat.reduceEqDiff, Nat.reduceAdd, Nat.reduceMul, Nat.reduceLeDiff, Nat.reduceLT, Int.reduceLT, Int.reduceLE, Int.reduceEq, Int.reduceNeg, Int.reduceToNat, Nat.reducePow, reduceIte, reduceCtorEq])|((with_reducible first|refine jW ?hy ?_|refine jY ?hy ?_);case hy=>rfl)|((with_reducible first|refine jX ?hy ?_|refine jZ ?hy ?_);case hy=>rfl)|((with_reducible refine jF ?hy ?_);case hy=>decide))
 exact fin _ (h1.mT e) (hf1.mono fun _ _ h => h.elim)
end
section
variable {H H' : Heap} {t g c len r : Nat} {Bf : Option Nat} {vf : Value} {S : Ls} {N N' : Nodes} {rows rows' : List (List Nat)} {ids : Int → Option Nat} {fr : List Nat} {T : Nat → Prop} {K : Value → Heap → Prop}
theorem putNd (hN : NA H t g c len N) {i : Nat} (hi : i < len) {x : Nd} (h1 : x.up < len) (h2 : x.l < len) (h3 : x.r < len) (h4 : x.best < len) :
  NA (hset (hset (hset (hset (hset (hset (hset (hset (hset (hset H ⟨g, i * 10, none⟩ (.int .i64 x.up)) ⟨g, i * 10 + 1, none⟩ (.int .i64 x.l)) ⟨g, i * 10 + 2, none⟩ (.int .i64 x.r)) ⟨g, i * 10 + 3, none⟩ (.bool x.turned)) ⟨g, i * 10 + 4, none⟩ (.bool x.isEdge)) ⟨g, i * 10 + 5, none⟩ (.int .i64 x.e.id))
   ⟨g, i * 10 + 6, none⟩ (.int .i64 x.e.u)) ⟨g, i * 10 + 7, none⟩ (.int .i64 x.e.v)) ⟨g, i * 10 + 8, none⟩ (.int .i64 x.e.w)) ⟨g, i * 10 + 9, none⟩ (.int .i64 x.best)) t g c len (upd N i x) ∧
  Fr (· = g) H (hset (hset (hset (hset (hset (hset (hset (hset (hset (hset H ⟨g, i * 10, none⟩ (.int .i64 x.up)) ⟨g, i * 10 + 1, none⟩ (.int .i64 x.l)) ⟨g, i * 10 + 2, none⟩ (.int .i64 x.r)) ⟨g, i * 10 + 3, none⟩ (.bool x.turned)) ⟨g, i * 10 + 4, none⟩ (.bool x.isEdge)) ⟨g, i * 10 + 5, none⟩ (.int .i64 x.e.id))
   ⟨g, i * 10 + 6, none⟩ (.int .i64 x.e.u)) ⟨g, i * 10 + 7, none⟩ (.int .i64 x.e.v)) ⟨g, i * 10 + 8, none⟩ (.int .i64 x.e.w)) ⟨g, i * 10 + 9, none⟩ (.int .i64 x.best)) := by
 obtain ⟨a0, a1, a2, a3, a4, ⟨b0, b1, b2, b3⟩, a5⟩ := x
 simp only at h1 h2 h3 h4
 have n0 := hN.set0 (v := .int .i64 a0) (r := { N i with up := a0 }) hi rfl (hN.cl.upd h1 (hN.cl.l i hi) (hN.cl.r i hi) (hN.cl.best i hi))
 have n1 := n0.set (j := 1) (v := .int .i64 a1) (r := { N i with up := a0, l := a1 }) hi (by omega) (by rw [upd_same]; rfl) (n0.cl.upd h1 h2 (hN.cl.r i hi) (hN.cl.best i hi))
 have n2 := n1.set (j := 2) (v := .int .i64 a2) (r := { N i with up := a0, l := a1, r := a2 }) hi (by omega) (by rw [upd_same]; rfl) (n1.cl.upd h1 h2 h3 (hN.cl.best i hi))
 have n3 := n2.set (j := 3) (v := .bool a3) (r := { N i with up := a0, l := a1, r := a2, turned := a3 }) hi (by omega) (by rw [upd_same]; rfl) (n2.cl.upd h1 h2 h3 (hN.cl.best i hi))
 have n4 := n3.set (j := 4) (v := .bool a4) (r := { N i with up := a0, l := a1, r := a2, turned := a3, isEdge := a4 }) hi (by omega) (by rw [upd_same]; rfl) (n3.cl.upd h1 h2 h3 (hN.cl.best i hi))
 have n5 := n4.set (j := 5) (v := .int .i64 b0) (r := { N i with up := a0, l := a1, r := a2, turned := a3, isEdge := a4, e := ⟨b0, (N i).e.u, (N i).e.v, (N i).e.w⟩ }) hi (by omega) (by rw [upd_same]; rfl) (n4.cl.upd h1 h2 h3 (hN.cl.best i hi))
 have n6 := n5.set (j := 6) (v := .int .i64 b1) (r := { N i with up := a0, l := a1, r := a2, turned := a3, isEdge := a4, e := ⟨b0, b1, (N i).e.v, (N i).e.w⟩ }) hi (by omega) (by rw [upd_same]; rfl) (n5.cl.upd h1 h2 h3 (hN.cl.best i hi))
 have n7 := n6.set (j := 7) (v := .int .i64 b2) (r := { N i with up := a0, l := a1, r := a2, turned := a3, isEdge := a4, e := ⟨b0, b1, b2, (N i).e.w⟩ }) hi (by omega) (by rw [upd_same]; rfl) (n6.cl.upd h1 h2 h3 (hN.cl.best i hi))
 have n8 := n7.set (j := 8) (v := .int .i64 b3) (r := { N i with up := a0, l := a1, r := a2, turned := a3, isEdge := a4, e := ⟨b0, b1, b2, b3⟩ }) hi (by omega) (by rw [upd_same]; rfl) (n7.cl.upd h1 h2 h3 (hN.cl.best i hi))
 have n9 := n8.set (j := 9) (v := .int .i64 a5) (r := ⟨a0, a1, a2, a3, a4, ⟨b0, b1, b2, b3⟩, a5⟩) hi (by omega) (by rw [upd_same]; rfl) (n8.cl.upd h1 h2 h3 h4)
 refine ⟨?_, ((((((((((Fr.refl (· = g) H).set (.inl rfl) _).set (.inl rfl) _).set (.inl rfl) _).set (.inl rfl) _).set (.inl rfl) _).set (.inl rfl) _).set (.inl rfl) _).set (.inl rfl) _).set (.inl rfl) _).set (.inl rfl) _⟩
 have e : ∀ (M : Nodes) (p q : Nd), upd (upd M i p) i q = upd M i q := fun M p q => by
  funext j; unfold upd; split <;> rfl
 simp only [e] at n9
 exact n9
theorem _root_.Go.Li.LC.dead {N : Nodes} {E : Es} {par : Par} {V : Nat → Prop} (k : LC N E par rows V) {h : Nat} {x : Nd} (hV : ¬ V h) (h0 : h ≠ 0) (hx : x.isEdge = false) (hE : E h = none) : LC (upd N h x) E par rows V where
 eok := ⟨fun i => by
  by_cases e : i = h
  ·subst e; rw [upd_same, hx, hE]; rfl
  ·rw [upd_ne _ _ e]; exact k.eok.is i, fun i y hy => by
  by_cases e : i = h
  ·subst e; rw [hE] at hy; cases hy
  ·rw [upd_ne _ _ e]; exact k.eok.e i y hy, k.eok.uq⟩
 z := by rw [upd_ne _ _ (Ne.symm h0)]; exact k.z
 v0 := k.v0
 trees := fun xs hx => by
  obtain ⟨T, hT, eT⟩ := k.trees xs hx
  refine ⟨T, hT.congr fun i hi => upd_ne _ _ fun e => hV ?_, eT⟩
  rw [← e]
  exact (k.use i).1 (List.mem_flatten.2 ⟨xs, hx, by rw [← eT]; exact hi⟩)
 link := k.link
 ne := k.ne
 nd := k.nd
 use := k.use
 cl := k.cl
 ac := k.ac
theorem edges_le (k : S.Ok) (hall : ∀ h, S.n < h → h < len → (S.E h).isSome = true) : len ≤ 2 * S.n + 1 := by
 have hk : ∀ h, S.n < h → h < len → ∃ c, 1 ≤ c ∧ c ≤ S.n ∧ S.par c = h := fun h h1 h2 => by
  obtain ⟨e, he⟩ := Option.isSome_iff_exists.1 (hall h h1 h2)
  obtain ⟨q1, q2, q3, q4, q5⟩ := k.en h e he
  obtain ⟨c, p, c1, c2, c3, c4, c5⟩ := k.kid he
  refine ⟨c, ?_, ?_, c1⟩
  ·rcases c4 with c4 | c4 <;> omega
  ·rcases c4 with c4 | c4 <;> omega
 have h1 := (List.nodup_range' (s := S.n + 1) (n := len - S.n - 1)).length_le_of_subset (l₂ := (List.range' 1 S.n).map S.par) (fun x hx => by
  have hi := List.mem_range'_1.1 hx
  obtain ⟨c, c1, c2, c3⟩ := hk x (by omega) (by omega)
  exact List.mem_map.2 ⟨c, List.mem_range'_1.2 (by omega), c3⟩)
 simp only [List.length_map, List.length_range'] at h1
 omega
def okArg (id w : Int) : Bool := decide (0 ≤ id) && (decide (id ≤ 1099511627776) && (decide (-1099511627776 ≤ w) && decide (w ≤ 1099511627776)))
theorem natsI_append (l : List Nat) (x : Nat) : natsI (l ++ [x]) = natsI l ++ [((x : Nat) : Int)] := by unfold natsI; simp
theorem link_out {u v id w : Int} (h : LtM H t T S) (hv : (inB S.n u && inB S.n v) = false) (fin : ∀ H', LtM H' t T S → Fr T H H' → K (.int .i64 50) H') :
  CallsH Try.prog 47 #[.pointer (some ⟨t, 0, none⟩), .int .i64 u, .int .i64 v, .int .i64 id, .int .i64 w] H K := by
 obtain ⟨g, c, len, r, Bf, vf, N, rows, ids, fr, h, e⟩ := h
 refine call47 (by simp) ?_
 simp only [Try.f47, Option.getD_some]
 repeat' (first|(with_reducible first|refine jA ?_|(refine hK _ _ ?_;clear hK K)|refine jJ fun K hK=>?_|refine jK ?_|refine jL ?_|refine jM ?_|refine jN ?_|refine jO ?_|refine jP ?_|refine jQ ?_|(refine jB ?_;clear hK K)|(refine jC ?_;clear hK K)|refine jD ?_|refine jE ?_|refine jG ?_|refine jH ?_|refine jI ?_)|((with_reducible refine jR ?hq ?_);case hq=>rfl)|((first|(with_reducible first|refine jS fun K hK=>?_|refine jT ?_|refine jU ?_)|((with_reducible refine jV ?hy fun K hK=>?_);case hy=>rfl));simp only [go_sem, Nat.reduceEqDiff, Nat.reduceAdd, Nat.reduceMul, Nat.reduceLeDiff, Nat.reduceLT, Int.reduceLT, Int.reduceLE, Int.reduceEq, Int.reduceNeg, Int.reduceToNat, Nat.reducePow, reduceIte, reduceCtorEq])|((with_reducible first|refine jW ?hy ?_|refine jY ?hy ?_);case hy=>rfl)|((with_reducible first|refine jX ?hy ?_|refine jZ ?hy ?_);case hy=>rfl)|((with_reducible refine jF ?hy ?_);case hy=>decide))
 refine hasA2 h fun H1 h1 hf1 => ?_
 rw [hv]
 repeat' (first|(with_reducible first|refine jA ?_|(refine hK _ _ ?_;clear hK K)|refine jJ fun K hK=>?_|refine jK ?_|refine jL ?_|refine jM ?_|refine jN ?_|refine jO ?_|refine jP ?_|refine jQ ?_|(refine jB ?_;clear hK K)|(refine jC ?_;clear hK K)|refine jD ?_|refine jE ?_|refine jG ?_|refine jH ?_|refine jI ?_)|((with_reducible refine jR ?hq ?_);case hq=>rfl)|((first|(with_reducible first|refine jS fun K hK=>?_|refine jT ?_|refine jU ?_)|((with_reducible refine jV ?hy fun K hK=>?_);case hy=>rfl));simp only [go_sem, Nat.reduceEqDiff, Nat.reduceAdd, Nat.reduceMul, Nat.reduceLeDiff, Nat.reduceLT, Int.reduceLT, Int.reduceLE, Int.reduceEq, Int.reduceNeg, Int.reduceToNat, Nat.reducePow, reduceIte, reduceCtorEq])|((with_reducible first|refine jW ?hy ?_|refine jY ?hy ?_);case hy=>rfl)|((with_reducible first|refine jX ?hy ?_|refine jZ ?hy ?_);case hy=>rfl)|((with_reducible refine jF ?hy ?_);case hy=>decide))
 exact fin _ (h1.mT e) (hf1.mono fun _ _ h => h.elim)
theorem link_arg {u v id w : Int} (h : LtM H t T S) (hv : (inB S.n u && inB S.n v) = true) (ha : okArg id w = false) (fin : ∀ H', LtM H' t T S → Fr T H H' → K (.int .i64 1) H') :
  CallsH Try.prog 47 #[.pointer (some ⟨t, 0, none⟩), .int .i64 u, .int .i64 v, .int .i64 id, .int .i64 w] H K := by
 obtain ⟨g, c, len, r, Bf, vf, N, rows, ids, fr, h, e⟩ := h
 refine call47 (by simp) ?_
 simp only [Try.f47, Option.getD_some]
 repeat' (first|(with_reducible first|refine jA ?_|(refine hK _ _ ?_;clear hK K)|refine jJ fun K hK=>?_|refine jK ?_|refine jL ?_|refine jM ?_|refine jN ?_|refine jO ?_|refine jP ?_|refine jQ ?_|(refine jB ?_;clear hK K)|(refine jC ?_;clear hK K)|refine jD ?_|refine jE ?_|refine jG ?_|refine jH ?_|refine jI ?_)|((with_reducible refine jR ?hq ?_);case hq=>rfl)|((first|(with_reducible first|refine jS fun K hK=>?_|refine jT ?_|refine jU ?_)|((with_reducible refine jV ?hy fun K hK=>?_);case hy=>rfl));simp only [go_sem, Nat.reduceEqDiff, Nat.reduceAdd, Nat.reduceMul, Nat.reduceLeDiff, Nat.reduceLT, Int.reduceLT, Int.reduceLE, Int.reduceEq, Int.reduceNeg, Int.reduceToNat, Nat.reducePow, reduceIte, reduceCtorEq])|((with_reducible first|refine jW ?hy ?_|refine jY ?hy ?_);case hy=>rfl)|((with_reducible first|refine jX ?hy ?_|refine jZ ?hy ?_);case hy=>rfl)|((with_reducible refine jF ?hy ?_);case hy=>decide))
 refine hasA2 h fun H1 h1 hf1 => ?_
 have fin' := fin _ (h1.mT e) (hf1.mono fun _ _ h => h.elim)
 unfold okArg at ha
 rw [hv]
 by_cases a1 : id < 0
 ·have t1 : (id < 0) = True := by simp [a1]
  repeat' (first|(with_reducible first|refine jA ?_|(refine hK _ _ ?_;clear hK K)|refine jJ fun K hK=>?_|refine jK ?_|refine jL ?_|refine jM ?_|refine jN ?_|refine jO ?_|refine jP ?_|refine jQ ?_|(refine jB ?_;clear hK K)|(refine jC ?_;clear hK K)|refine jD ?_|refine jE ?_|refine jG ?_|refine jH ?_|refine jI ?_)|((with_reducible refine jR ?hq ?_);case hq=>rfl)|((first|(with_reducible first|refine jS fun K hK=>?_|refine jT ?_|refine jU ?_)|((with_reducible refine jV ?hy fun K hK=>?_);case hy=>rfl));simp only [go_sem, Nat.reduceEqDiff, Nat.reduceAdd, Nat.reduceMul, Nat.reduceLeDiff, Nat.reduceLT, Int.reduceLT, Int.reduceLE, Int.reduceEq, Int.reduceNeg, Int.reduceToNat, Nat.reducePow, reduceIte, reduceCtorEq, t1])|((with_reducible first|refine jW ?hy ?_|refine jY ?hy ?_);case hy=>rfl)|((with_reducible first|refine jX ?hy ?_|refine jZ ?hy ?_);case hy=>rfl)|((with_reducible refine jF ?hy ?_);case hy=>decide))
  exact fin'
 ·have t1 : (id < 0) = False := by simp [a1]
  by_cases a2 : 1099511627776 < id
  ·have t2 : (1099511627776 < id) = True := by simp [a2]
   repeat' (first|(with_reducible first|refine jA ?_|(refine hK _ _ ?_;clear hK K)|refine jJ fun K hK=>?_|refine jK ?_|refine jL ?_|refine jM ?_|refine jN ?_|refine jO ?_|refine jP ?_|refine jQ ?_|(refine jB ?_;clear hK K)|(refine jC ?_;clear hK K)|refine jD ?_|refine jE ?_|refine jG ?_|refine jH ?_|refine jI ?_)|((with_reducible refine jR ?hq ?_);case hq=>rfl)|((first|(with_reducible first|refine jS fun K hK=>?_|refine jT ?_|refine jU ?_)|((with_reducible refine jV ?hy fun K hK=>?_);case hy=>rfl));simp only [go_sem, Nat.reduceEqDiff, Nat.reduceAdd, Nat.reduceMul, Nat.reduceLeDiff, Nat.reduceLT, Int.reduceLT, Int.reduceLE, Int.reduceEq, Int.reduceNeg, Int.reduceToNat, Nat.reducePow, reduceIte, reduceCtorEq, t1, t2])|((with_reducible first|refine jW ?hy ?_|refine jY ?hy ?_);case hy=>rfl)|((with_reducible first|refine jX ?hy ?_|refine jZ ?hy ?_);case hy=>rfl)|((with_reducible refine jF ?hy ?_);case hy=>decide))
   exact fin'
  ·have t2 : (1099511627776 < id) = False := by simp [a2]
   by_cases a3 : w < -1099511627776
   ·have t3 : (w < -1099511627776) = True := by simp [a3]
    repeat' (first|(with_reducible first|refine jA ?_|(refine hK _ _ ?_;clear hK K)|refine jJ fun K hK=>?_|refine jK ?_|refine jL ?_|refine jM ?_|refine jN ?_|refine jO ?_|refine jP ?_|refine jQ ?_|(refine jB ?_;clear hK K)|(refine jC ?_;clear hK K)|refine jD ?_|refine jE ?_|refine jG ?_|refine jH ?_|refine jI ?_)|((with_reducible refine jR ?hq ?_);case hq=>rfl)|((first|(with_reducible first|refine jS fun K hK=>?_|refine jT ?_|refine jU ?_)|((with_reducible refine jV ?hy fun K hK=>?_);case hy=>rfl));simp only [go_sem, Nat.reduceEqDiff, Nat.reduceAdd, Nat.reduceMul, Nat.reduceLeDiff, Nat.reduceLT, Int.reduceLT, Int.reduceLE, Int.reduceEq, Int.reduceNeg, Int.reduceToNat, Nat.reducePow, reduceIte, reduceCtorEq, t1, t2, t3])|((with_reducible first|refine jW ?hy ?_|refine jY ?hy ?_);case hy=>rfl)|((with_reducible first|refine jX ?hy ?_|refine jZ ?hy ?_);case hy=>rfl)|((with_reducible refine jF ?hy ?_);case hy=>decide))
    exact fin'
   ·have t3 : (w < -1099511627776) = False := by simp [a3]
    have t4 : (1099511627776 < w) = True := by
     simp at ha
     simp
     omega
    repeat' (first|(with_reducible first|refine jA ?_|(refine hK _ _ ?_;clear hK K)|refine jJ fun K hK=>?_|refine jK ?_|refine jL ?_|refine jM ?_|refine jN ?_|refine jO ?_|refine jP ?_|refine jQ ?_|(refine jB ?_;clear hK K)|(refine jC ?_;clear hK K)|refine jD ?_|refine jE ?_|refine jG ?_|refine jH ?_|refine jI ?_)|((with_reducible refine jR ?hq ?_);case hq=>rfl)|((first|(with_reducible first|refine jS fun K hK=>?_|refine jT ?_|refine jU ?_)|((with_reducible refine jV ?hy fun K hK=>?_);case hy=>rfl));simp only [go_sem, Nat.reduceEqDiff, Nat.reduceAdd, Nat.reduceMul, Nat.reduceLeDiff, Nat.reduceLT, Int.reduceLT, Int.reduceLE, Int.reduceEq, Int.reduceNeg, Int.reduceToNat, Nat.reducePow, reduceIte, reduceCtorEq, t1, t2, t3, t4])|((with_reducible first|refine jW ?hy ?_|refine jY ?hy ?_);case hy=>rfl)|((with_reducible first|refine jX ?hy ?_|refine jZ ?hy ?_);case hy=>rfl)|((with_reducible refine jF ?hy ?_);case hy=>decide))
    exact fin'
theorem okArg_ts {id w : Int} (ha : okArg id w = true) : ((id < 0) = False ∧ (1099511627776 < id) = False) ∧ (w < -1099511627776) = False ∧ (1099511627776 < w) = False := by
 unfold okArg at ha
 simp only [Bool.and_eq_true, decide_eq_true_iff] at ha
 refine ⟨⟨?_, ?_⟩, ?_, ?_⟩ <;> simp <;> omega
theorem link_twice {u v id w : Int} {k : Nat} {x : Ed} (h : LtM H t T S) (hv : (inB S.n u && inB S.n v) = true) (ha : okArg id w = true) (hk : S.E k = some x) (hx : x.id = id) (fin : ∀ H', LtM H' t T S → Fr T H H' → K (.int .i64 52) H') :
  CallsH Try.prog 47 #[.pointer (some ⟨t, 0, none⟩), .int .i64 u, .int .i64 v, .int .i64 id, .int .i64 w] H K := by
 obtain ⟨g, c, len, r, Bf, vf, N, rows, ids, fr, h, e⟩ := h
 obtain ⟨⟨t1, t2⟩, t3, t4⟩ := okArg_ts ha
 refine call47 (by simp) ?_
 simp only [Try.f47, Option.getD_some]
 repeat' (first|(with_reducible first|refine jA ?_|(refine hK _ _ ?_;clear hK K)|refine jJ fun K hK=>?_|refine jK ?_|refine jL ?_|refine jM ?_|refine jN ?_|refine jO ?_|refine jP ?_|refine jQ ?_|(refine jB ?_;clear hK K)|(refine jC ?_;clear hK K)|refine jD ?_|refine jE ?_|refine jG ?_|refine jH ?_|refine jI ?_)|((with_reducible refine jR ?hq ?_);case hq=>rfl)|((first|(with_reducible first|refine jS fun K hK=>?_|refine jT ?_|refine jU ?_)|((with_reducible refine jV ?hy fun K hK=>?_);case hy=>rfl));simp only [go_sem, Nat.reduceEqDiff, Nat.reduceAdd, Nat.reduceMul, Nat.reduceLeDiff, Nat.reduceLT, Int.reduceLT, Int.reduceLE, Int.reduceEq, Int.reduceNeg, Int.reduceToNat, Nat.reducePow, reduceIte, reduceCtorEq])|((with_reducible first|refine jW ?hy ?_|refine jY ?hy ?_);case hy=>rfl)|((with_reducible first|refine jX ?hy ?_|refine jZ ?hy ?_);case hy=>rfl)|((with_reducible refine jF ?hy ?_);case hy=>decide))
 refine hasA2 h fun H1 h1 hf1 => ?_
 have hid := (h1.id id k).2 ⟨x, hk, hx⟩
 have d2 := h1.hd.cellOf (i := 2) rfl
 rw [hv]
 repeat' (first|(with_reducible first|refine jA ?_|(refine hK _ _ ?_;clear hK K)|refine jJ fun K hK=>?_|refine jK ?_|refine jL ?_|refine jM ?_|refine jN ?_|refine jO ?_|refine jP ?_|refine jQ ?_|(refine jB ?_;clear hK K)|(refine jC ?_;clear hK K)|refine jD ?_|refine jE ?_|refine jG ?_|refine jH ?_|refine jI ?_)|((with_reducible refine jR ?hq ?_);case hq=>rfl)|((first|(with_reducible first|refine jS fun K hK=>?_|refine jT ?_|refine jU ?_)|((with_reducible refine jV ?hy fun K hK=>?_);case hy=>rfl));simp only [go_sem, Nat.reduceEqDiff, Nat.reduceAdd, Nat.reduceMul, Nat.reduceLeDiff, Nat.reduceLT, Int.reduceLT, Int.reduceLE, Int.reduceEq, Int.reduceNeg, Int.reduceToNat, Nat.reducePow, reduceIte, reduceCtorEq, t1, t2, t3, t4, d2])|((with_reducible first|refine jW ?hy ?_|refine jY ?hy ?_);case hy=>rfl)|((with_reducible first|refine jX ?hy ?_|refine jZ ?hy ?_);case hy=>rfl)|((with_reducible refine jF ?hy ?_);case hy=>decide))
 refine rd_lookupQ (vf := natV) mapT_ids kInt h1.mp.choose_spec id true ?_
 rw [hid]
 simp only [Option.map_some, gotV, natV, if_true]
 repeat' (first|(with_reducible first|refine jA ?_|(refine hK _ _ ?_;clear hK K)|refine jJ fun K hK=>?_|refine jK ?_|refine jL ?_|refine jM ?_|refine jN ?_|refine jO ?_|refine jP ?_|refine jQ ?_|(refine jB ?_;clear hK K)|(refine jC ?_;clear hK K)|refine jD ?_|refine jE ?_|refine jG ?_|refine jH ?_|refine jI ?_)|((with_reducible refine jR ?hq ?_);case hq=>rfl)|((first|(with_reducible first|refine jS fun K hK=>?_|refine jT ?_|refine jU ?_)|((with_reducible refine jV ?hy fun K hK=>?_);case hy=>rfl));simp only [go_sem, Nat.reduceEqDiff, Nat.reduceAdd, Nat.reduceMul, Nat.reduceLeDiff, Nat.reduceLT, Int.reduceLT, Int.reduceLE, Int.reduceEq, Int.reduceNeg, Int.reduceToNat, Nat.reducePow, reduceIte, reduceCtorEq])|((with_reducible first|refine jW ?hy ?_|refine jY ?hy ?_);case hy=>rfl)|((with_reducible first|refine jX ?hy ?_|refine jZ ?hy ?_);case hy=>rfl)|((with_reducible refine jF ?hy ?_);case hy=>decide))
 exact fin _ (h1.mT e) (hf1.mono fun _ _ h => h.elim)
theorem link_same {u v : Nat} {id w : Int} {ru : Nat} (h : LtM H t T S) (hu : u < S.n) (hv : v < S.n) (ha : okArg id w = true) (hid : ∀ k x, S.E k = some x → x.id ≠ id) (hru : RootOf S.par (u + 1) ru) (hrv : RootOf S.par (v + 1) ru)
  (fin : ∀ H', LtM H' t T S → Fr T H H' → K (.int .i64 51) H') :
  CallsH Try.prog 47 #[.pointer (some ⟨t, 0, none⟩), .int .i64 (u : Nat), .int .i64 (v : Nat), .int .i64 id, .int .i64 w] H K := by
 obtain ⟨g, c, len, r, Bf, vf, N, rows, ids, fr, h, e⟩ := h
 obtain ⟨⟨t1, t2⟩, t3, t4⟩ := okArg_ts ha
 have hn := h.ok.n64
 have ew : IntKind.i64.wrap ((u : Int) + 1) = ((u + 1 : Nat) : Int) := by rw [wrap_i64] <;> omega
 have ew2 : IntKind.i64.wrap ((v : Int) + 1) = ((v + 1 : Nat) : Int) := by rw [wrap_i64] <;> omega
 refine call47 (by simp) ?_
 simp only [Try.f47, Option.getD_some]
 repeat' (first|(with_reducible first|refine jA ?_|(refine hK _ _ ?_;clear hK K)|refine jJ fun K hK=>?_|refine jK ?_|refine jL ?_|refine jM ?_|refine jN ?_|refine jO ?_|refine jP ?_|refine jQ ?_|(refine jB ?_;clear hK K)|(refine jC ?_;clear hK K)|refine jD ?_|refine jE ?_|refine jG ?_|refine jH ?_|refine jI ?_)|((with_reducible refine jR ?hq ?_);case hq=>rfl)|((first|(with_reducible first|refine jS fun K hK=>?_|refine jT ?_|refine jU ?_)|((with_reducible refine jV ?hy fun K hK=>?_);case hy=>rfl));simp only [go_sem, Nat.reduceEqDiff, Nat.reduceAdd, Nat.reduceMul, Nat.reduceLeDiff, Nat.reduceLT, Int.reduceLT, Int.reduceLE, Int.reduceEq, Int.reduceNeg, Int.reduceToNat, Nat.reducePow, reduceIte, reduceCtorEq])|((with_reducible first|refine jW ?hy ?_|refine jY ?hy ?_);case hy=>rfl)|((with_reducible first|refine jX ?hy ?_|refine jZ ?hy ?_);case hy=>rfl)|((with_reducible refine jF ?hy ?_);case hy=>decide))
 refine hasA2 h fun H1 h1 hf1 => ?_
 have hid' : ids id = none := by
  cases hi : ids id with
  | none => rfl
  | some k =>
   obtain ⟨x, h2, h3⟩ := (h1.id id k).1 hi
   exact absurd h3 (hid k x h2)
 have d2 := h1.hd.cellOf (i := 2) rfl
 rw [inB_of hu, inB_of hv]
 repeat' (first|(with_reducible first|refine jA ?_|(refine hK _ _ ?_;clear hK K)|refine jJ fun K hK=>?_|refine jK ?_|refine jL ?_|refine jM ?_|refine jN ?_|refine jO ?_|refine jP ?_|refine jQ ?_|(refine jB ?_;clear hK K)|(refine jC ?_;clear hK K)|refine jD ?_|refine jE ?_|refine jG ?_|refine jH ?_|refine jI ?_)|((with_reducible refine jR ?hq ?_);case hq=>rfl)|((first|(with_reducible first|refine jS fun K hK=>?_|refine jT ?_|refine jU ?_)|((with_reducible refine jV ?hy fun K hK=>?_);case hy=>rfl));simp only [go_sem, Nat.reduceEqDiff, Nat.reduceAdd, Nat.reduceMul, Nat.reduceLeDiff, Nat.reduceLT, Int.reduceLT, Int.reduceLE, Int.reduceEq, Int.reduceNeg, Int.reduceToNat, Nat.reducePow, reduceIte, reduceCtorEq, t1, t2, t3, t4, d2, Bool.and_self])|((with_reducible first|refine jW ?hy ?_|refine jY ?hy ?_);case hy=>rfl)|((with_reducible first|refine jX ?hy ?_|refine jZ ?hy ?_);case hy=>rfl)|((with_reducible refine jF ?hy ?_);case hy=>decide))
 refine rd_lookupQ (vf := natV) mapT_ids kInt h1.mp.choose_spec id true ?_
 rw [hid']
 simp only [Option.map_none, gotV, if_true]
 repeat' (first|(with_reducible first|refine jA ?_|(refine hK _ _ ?_;clear hK K)|refine jJ fun K hK=>?_|refine jK ?_|refine jL ?_|refine jM ?_|refine jN ?_|refine jO ?_|refine jP ?_|refine jQ ?_|(refine jB ?_;clear hK K)|(refine jC ?_;clear hK K)|refine jD ?_|refine jE ?_|refine jG ?_|refine jH ?_|refine jI ?_)|((with_reducible refine jR ?hq ?_);case hq=>rfl)|((first|(with_reducible first|refine jS fun K hK=>?_|refine jT ?_|refine jU ?_)|((with_reducible refine jV ?hy fun K hK=>?_);case hy=>rfl));simp only [go_sem, Nat.reduceEqDiff, Nat.reduceAdd, Nat.reduceMul, Nat.reduceLeDiff, Nat.reduceLT, Int.reduceLT, Int.reduceLE, Int.reduceEq, Int.reduceNeg, Int.reduceToNat, Nat.reducePow, reduceIte, reduceCtorEq, ew, ew2])|((with_reducible first|refine jW ?hy ?_|refine jY ?hy ?_);case hy=>rfl)|((with_reducible first|refine jX ?hy ?_|refine jZ ?hy ?_);case hy=>rfl)|((with_reducible refine jF ?hy ?_);case hy=>decide))
 refine same_ok h1.na h1.lc h1.lt (Ls.vtx hu) (Ls.vtx hv) hru hrv fun H2 N2 rows2 hN2 hL2 hf2 => ?_
 simp only [decide_true]
 repeat' (first|(with_reducible first|refine jA ?_|(refine hK _ _ ?_;clear hK K)|refine jJ fun K hK=>?_|refine jK ?_|refine jL ?_|refine jM ?_|refine jN ?_|refine jO ?_|refine jP ?_|refine jQ ?_|(refine jB ?_;clear hK K)|(refine jC ?_;clear hK K)|refine jD ?_|refine jE ?_|refine jG ?_|refine jH ?_|refine jI ?_)|((with_reducible refine jR ?hq ?_);case hq=>rfl)|((first|(with_reducible first|refine jS fun K hK=>?_|refine jT ?_|refine jU ?_)|((with_reducible refine jV ?hy fun K hK=>?_);case hy=>rfl));simp only [go_sem, Nat.reduceEqDiff, Nat.reduceAdd, Nat.reduceMul, Nat.reduceLeDiff, Nat.reduceLT, Int.reduceLT, Int.reduceLE, Int.reduceEq, Int.reduceNeg, Int.reduceToNat, Nat.reducePow, reduceIte, reduceCtorEq])|((with_reducible first|refine jW ?hy ?_|refine jY ?hy ?_);case hy=>rfl)|((with_reducible first|refine jX ?hy ?_|refine jZ ?hy ?_);case hy=>rfl)|((with_reducible refine jF ?hy ?_);case hy=>decide))
 exact fin _ ((h1.keep hN2 hL2 hf2).mT e) ((hf1.mono fun _ _ h => h.elim).trans (fr_g ((e g).2 (.inr (.inl rfl))) hf2))
end
section
variable {H H' : Heap} {t g c len r : Nat} {Bf : Option Nat} {vf : Value} {S : Ls} {N N' : Nodes} {rows rows' : List (List Nat)} {ids : Int → Option Nat} {fr : List Nat} {T : Nat → Prop} {K : Value → Heap → Prop}
theorem rowsN_succ (N : Nodes) (len : Nat) (x : Nd) : rowsN (upd N len x) (len + 1) = rowsN N len ++ x.cells := by
 have e1 : rowsN (upd N len x) len = rowsN N len := rowsN_congr fun i hi => upd_ne _ _ (by omega)
 unfold rowsN at e1 ⊢
 rw [List.range_succ, List.flatMap_append, e1]
 simp [upd_same]
structure Pre (H0 H : Heap) (t : Nat) (T : Nat → Prop) (S : Ls) (h g c len r : Nat) (Bf : Option Nat) (vf : Value) (N : Nodes) (rows : List (List Nat)) (ids : Int → Option Nat) (fr : List Nat) : Prop where
 at_ : LtAt H t g c len r Bf vf S N rows ids (fr ++ [h])
 fr : Fr T H0 H
 foot : ∀ b, (b = t ∨ b = g ∨ b = r ∨ Bf = some b) → T b ∨ H0.size ≤ b
theorem LtAt.refree (h : LtAt H t g c len r Bf vf S N rows ids fr) {fr' : List Nat} {c' : Nat} {H' : Heap} {v : Value} (hv : IR H' Bf v (natsI fr')) (hd : Blk H' t [.int .i64 S.n, .slice (some ⟨g, 0, none⟩) len c, .map (some r), v]) (hf : Fr (· = t) H H')
  (h1 : ∀ x ∈ fr', x ∈ fr) (h2 : fr'.Nodup) (h3 : ∀ x ∈ fr, x ∈ fr') : LtAt H' t g c len r Bf v S N rows ids fr' where
 hd := hd
 na := by
  obtain ⟨rest, k1, k2⟩ := h.na.nd
  exact ⟨hd.cellOf rfl, ⟨rest, k1.frame hf (Ne.symm h.na.ne), k2⟩, h.na.ne, h.na.cl, h.na.z⟩
 mp := ⟨_, h.mp.choose_spec.frame hf (Ne.symm h.ap.1)⟩
 fri := hv
 ap := h.ap
 ok := h.ok
 lc := h.lc
 id := h.id
 free := fun x hx => h.free x (h1 x hx)
 frn := h2
 all := fun x a b => (h.all x a b).imp (fun h => h) (h3 x)
 lt := h.lt
 ln := h.ln
theorem grown (h : LtAt H t g c len r Bf vf S N rows ids []) {H' : Heap} {g' c' : Nat} {B' : Option Nat} {v' : Value} {rest' : List Value}
  (hd : Blk H' t [.int .i64 S.n, .slice (some ⟨g', 0, none⟩) (len + 1) c', .map (some r), v']) (hb : Blk H' g' (rowsN N len ++ Nd.zero.cells ++ rest')) (hl : (len + 1) * 10 + rest'.length = c' * 10) (hc : len + 1 ≤ c')
  (hv : IR H' B' v' (natsI [len])) (hm : ∃ k, MapF intK natV H' r ids k) (hg : t ≠ g' ∧ g' ≠ r) (hB : B' ≠ some t ∧ B' ≠ some g' ∧ B' ≠ some r) :
  LtAt H' t g' c' (len + 1) r B' v' S (upd N len Nd.zero) rows ids [len] := by
 have hlen := edges_le (len := len) h.ok fun x h1 h2 => (h.all x h1 h2).resolve_right (by simp)
 have hn := h.ok.n64
 have hnl : S.n < len := by
  have := h.lt S.n (.inl ⟨h.ok.n1, Nat.le_refl _⟩)
  exact this
 have hV : ¬ S.V len := fun hv => absurd (h.lt len hv) (by omega)
 have hE : S.E len = none := by
  cases he : S.E len with
  | none => rfl
  | some e => exact absurd (.inr (by rw [he]; rfl)) hV
 refine ⟨hd, ⟨hd.cellOf rfl, ⟨rest', by rw [rowsN_succ]; exact hb, hl, hc⟩, hg.1, ?_, by omega, by omega⟩, hm, hv, ⟨h.ap.1, hg.2, hB⟩, h.ok, h.lc.dead hV (by omega) rfl hE, h.id, ?_, by simp, ?_, ?_, by omega⟩
 ·have hz := h.na.cl
  refine ⟨fun i hi => ?_, fun i hi => ?_, fun i hi => ?_, fun i hi => ?_⟩ <;> by_cases e : i = len
  ·rw [e, upd_same]; exact Nat.succ_pos _
  ·rw [upd_ne _ _ e]; have := hz.up i (by omega); omega
  ·rw [e, upd_same]; exact Nat.succ_pos _
  ·rw [upd_ne _ _ e]; have := hz.l i (by omega); omega
  ·rw [e, upd_same]; exact Nat.succ_pos _
  ·rw [upd_ne _ _ e]; have := hz.r i (by omega); omega
  ·rw [e, upd_same]; exact Nat.succ_pos _
  ·rw [upd_ne _ _ e]; have := hz.best i (by omega); omega
 ·intro x hx
  obtain rfl := List.mem_singleton.1 hx
  exact ⟨hnl, by omega, hE⟩
 ·intro x h1 h2
  by_cases e : x = len
  ·exact .inr (by simp [e])
  ·exact .inl ((h.all x h1 (by omega)).resolve_right (by simp))
 ·intro x hx
  have := h.lt x hx
  omega
theorem ir_drop {B : Option Nat} {v : Value} {xs : List Int} {x : Int} (h : IR H B v (xs ++ [x])) : ∃ gf cf, B = some gf ∧ v = .slice (some ⟨gf, 0, none⟩) (xs.length + 1) cf ∧ hcell H ⟨gf, xs.length, none⟩ = some (.int .i64 x) ∧ xs.length ≤ cf ∧ IR H (some gf) (.slice (some ⟨gf, 0, none⟩) xs.length cf) xs := by
 obtain ⟨gf, cf, rest, h1, h2, h3, h4, h5⟩ := h.row (by simp)
 simp only [List.length_append, List.length_cons, List.length_nil] at h2 h4 h5
 refine ⟨gf, cf, h1, h2, h3.cellOf ?_, by omega, by simp, .inr ⟨gf, cf, .int .i64 x :: rest, rfl, rfl, ?_, ?_, by omega⟩⟩
 ·simp
 ·simpa using h3
 ·simp; omega
theorem link_ok {L : Value → Heap → Prop} {u v : Nat} {id w : Int} {ru rv : Nat} {l lv : List Nat} (h : LtM H t T S) (hu : u < S.n) (hv : v < S.n) (ha : okArg id w = true) (hid : ∀ k x, S.E k = some x → x.id ≠ id) (hru : RootOf S.par (u + 1) ru) (hrv : RootOf S.par (v + 1) rv) (hne : ru ≠ rv)
  (hl : Ch S.par (u + 1) l) (hlv : Ch (ev S.par 0 l) (v + 1) lv) (hul : u + 1 ∉ lv)
  (fin : ∀ H' T' k, LtM H' t T' (S.link l k ⟨id, (u : Nat), (v : Nat), w⟩) → S.n < k → S.E k = none → Fr T H H' → (∀ b, T' b → T b ∨ H.size ≤ b) → L (.int .i64 0) H') :
  CallsH Try.prog 47 #[.pointer (some ⟨t, 0, none⟩), .int .i64 (u : Nat), .int .i64 (v : Nat), .int .i64 id, .int .i64 w] H L := by
 obtain ⟨g, c, len, r, Bf, vf, N, rows, ids, fr, h, e⟩ := h
 obtain ⟨⟨t1, t2⟩, t3, t4⟩ := okArg_ts ha
 obtain ⟨rl, rfl⟩ := hl.head
 have hn := h.ok.n64
 have ew : IntKind.i64.wrap ((u : Int) + 1) = ((u + 1 : Nat) : Int) := by rw [wrap_i64] <;> omega
 have ew2 : IntKind.i64.wrap ((v : Int) + 1) = ((v + 1 : Nat) : Int) := by rw [wrap_i64] <;> omega
 refine call47 (by simp) ?_
 simp only [Try.f47, Option.getD_some]
 repeat' (first|(with_reducible first|refine jA ?_|(refine hK _ _ ?_;clear hK K)|refine jJ fun K hK=>?_|refine jK ?_|refine jL ?_|refine jM ?_|refine jN ?_|refine jO ?_|refine jP ?_|refine jQ ?_|(refine jB ?_;clear hK K)|(refine jC ?_;clear hK K)|refine jD ?_|refine jE ?_|refine jG ?_|refine jH ?_|refine jI ?_)|((with_reducible refine jR ?hq ?_);case hq=>rfl)|((first|(with_reducible first|refine jS fun K hK=>?_|refine jT ?_|refine jU ?_)|((with_reducible refine jV ?hy fun K hK=>?_);case hy=>rfl));simp only [go_sem, Nat.reduceEqDiff, Nat.reduceAdd, Nat.reduceMul, Nat.reduceLeDiff, Nat.reduceLT, Int.reduceLT, Int.reduceLE, Int.reduceEq, Int.reduceNeg, Int.reduceToNat, Nat.reducePow, reduceIte, reduceCtorEq])|((with_reducible first|refine jW ?hy ?_|refine jY ?hy ?_);case hy=>rfl)|((with_reducible first|refine jX ?hy ?_|refine jZ ?hy ?_);case hy=>rfl)|((with_reducible refine jF ?hy ?_);case hy=>decide))
 refine hasA2 h fun H1 h1 hf1 => ?_
 have hid' : ids id = none := by
  cases hi : ids id with
  | none => rfl
  | some k =>
   obtain ⟨x, h2, h3⟩ := (h1.id id k).1 hi
   exact absurd h3 (hid k x h2)
 have d2 := h1.hd.cellOf (i := 2) rfl
 rw [inB_of hu, inB_of hv]
 repeat' (first|(with_reducible first|refine jA ?_|(refine hK _ _ ?_;clear hK K)|refine jJ fun K hK=>?_|refine jK ?_|refine jL ?_|refine jM ?_|refine jN ?_|refine jO ?_|refine jP ?_|refine jQ ?_|(refine jB ?_;clear hK K)|(refine jC ?_;clear hK K)|refine jD ?_|refine jE ?_|refine jG ?_|refine jH ?_|refine jI ?_)|((with_reducible refine jR ?hq ?_);case hq=>rfl)|((first|(with_reducible first|refine jS fun K hK=>?_|refine jT ?_|refine jU ?_)|((with_reducible refine jV ?hy fun K hK=>?_);case hy=>rfl));simp only [go_sem, Nat.reduceEqDiff, Nat.reduceAdd, Nat.reduceMul, Nat.reduceLeDiff, Nat.reduceLT, Int.reduceLT, Int.reduceLE, Int.reduceEq, Int.reduceNeg, Int.reduceToNat, Nat.reducePow, reduceIte, reduceCtorEq, t1, t2, t3, t4, d2, Bool.and_self])|((with_reducible first|refine jW ?hy ?_|refine jY ?hy ?_);case hy=>rfl)|((with_reducible first|refine jX ?hy ?_|refine jZ ?hy ?_);case hy=>rfl)|((with_reducible refine jF ?hy ?_);case hy=>decide))
 refine rd_lookupQ (vf := natV) mapT_ids kInt h1.mp.choose_spec id true ?_
 rw [hid']
 simp only [Option.map_none, gotV, if_true]
 repeat' (first|(with_reducible first|refine jA ?_|(refine hK _ _ ?_;clear hK K)|refine jJ fun K hK=>?_|refine jK ?_|refine jL ?_|refine jM ?_|refine jN ?_|refine jO ?_|refine jP ?_|refine jQ ?_|(refine jB ?_;clear hK K)|(refine jC ?_;clear hK K)|refine jD ?_|refine jE ?_|refine jG ?_|refine jH ?_|refine jI ?_)|((with_reducible refine jR ?hq ?_);case hq=>rfl)|((first|(with_reducible first|refine jS fun K hK=>?_|refine jT ?_|refine jU ?_)|((with_reducible refine jV ?hy fun K hK=>?_);case hy=>rfl));simp only [go_sem, Nat.reduceEqDiff, Nat.reduceAdd, Nat.reduceMul, Nat.reduceLeDiff, Nat.reduceLT, Int.reduceLT, Int.reduceLE, Int.reduceEq, Int.reduceNeg, Int.reduceToNat, Nat.reducePow, reduceIte, reduceCtorEq, ew, ew2])|((with_reducible first|refine jW ?hy ?_|refine jY ?hy ?_);case hy=>rfl)|((with_reducible first|refine jX ?hy ?_|refine jZ ?hy ?_);case hy=>rfl)|((with_reducible refine jF ?hy ?_);case hy=>decide))
 refine same_ok h1.na h1.lc h1.lt (Ls.vtx hu) (Ls.vtx hv) hru hrv fun H2 N2 rows2 hN2 hL2 hf2 => ?_
 have ed : decide (ru = rv) = false := by simp [hne]
 rw [ed]
 have h2 := h1.keep hN2 hL2 hf2
 have hfT : Fr T H H2 := (hf1.mono fun _ _ h => h.elim).trans (fr_g ((e g).2 (.inr (.inl rfl))) hf2)
 have s12 := hfT.size
 clear h1 hf1 d2 hN2 hL2 hf2 h
 repeat' (first|(with_reducible first|refine jA ?_|(refine hK _ _ ?_;clear hK K)|refine jJ fun K hK=>?_|refine jK ?_|refine jL ?_|refine jM ?_|refine jN ?_|refine jO ?_|refine jP ?_|refine jQ ?_|(refine jB ?_;clear hK K)|(refine jC ?_;clear hK K)|refine jD ?_|refine jE ?_|refine jG ?_|refine jH ?_|refine jI ?_)|((with_reducible refine jR ?hq ?_);case hq=>rfl)|((first|(with_reducible first|refine jS fun K hK=>?_|refine jT ?_|refine jU ?_)|((with_reducible refine jV ?hy fun K hK=>?_);case hy=>rfl));simp only [go_sem, Nat.reduceEqDiff, Nat.reduceAdd, Nat.reduceMul, Nat.reduceLeDiff, Nat.reduceLT, Int.reduceLT, Int.reduceLE, Int.reduceEq, Int.reduceNeg, Int.reduceToNat, Nat.reducePow, reduceIte, reduceCtorEq])|((with_reducible first|refine jW ?hy ?_|refine jY ?hy ?_);case hy=>rfl)|((with_reducible first|refine jX ?hy ?_|refine jZ ?hy ?_);case hy=>rfl)|((with_reducible refine jF ?hy ?_);case hy=>decide))
 rename_i KT hKT K1 hK1
 have tail : ∀ (e' : Env) (H5 : Heap) (g c len : Nat) (Bf : Option Nat) (vf : Value) (N : Nodes) (rows : List (List Nat)) (fr : List Nat) (k : Nat), LtAt H5 t g c len r Bf vf S N rows ids (fr ++ [k]) → Fr T H H5 → (∀ b, (b = t ∨ b = g ∨ b = r ∨ Bf = some b) → T b ∨ H.size ≤ b) →
   e' 0 = .pointer (some ⟨t, 0, none⟩) → e' 1 = .int .i64 (u : Nat) → e' 2 = .int .i64 (v : Nat) → e' 3 = .int .i64 id → e' 4 = .int .i64 w → KT e' H5 := by
  clear hK1 hK K K1 h2 e rows fr rows2 N2
  intro e' H5 g c len Bf vf N rows fr k h5 hf5 hft i0 i1 i2 i3 i4
  refine hKT _ _ ?_
  clear hKT KT
  have s5 := hf5.size
  have hkf := h5.free k (by simp)
  obtain ⟨hk1, hk2, hk3⟩ := hkf
  have hkfr : k ∉ fr := fun hm => by
   have := h5.frn
   rw [List.nodup_append] at this
   exact this.2.2 k hm k (by simp) rfl
  have hfri := h5.fri
  rw [natsI_append] at hfri
  obtain ⟨gf, cf, rfl, rfl, ck, hcf, hfr6⟩ := ir_drop hfri
  have hnl : (natsI fr).length = fr.length := by unfold natsI; simp
  rw [hnl] at ck hcf hfr6
  have hfl : fr.length < 4096 := by
   have h1 := len_bound (n := len) h5.frn fun x hx => (h5.free x hx).2.1
   have := h5.ln
   simp at h1
   omega
  have d3 := h5.hd.cellOf (i := 3) rfl
  rw [hnl] at d3
  have ex : IntKind.i64.wrap (((fr.length + 1 : Nat) : Int) - 1) = (fr.length : Nat) := by rw [wrap_i64] <;> omega
  have w3 := h5.hd.okW (i := 3) (by simp)
  have tx1 : ((fr.length : Int) < ((fr.length + 1 : Nat) : Int)) = True := by simp; omega
  have tx2 : (fr.length < fr.length + 1) = True := by simp
  have tx3 : (fr.length ≤ cf) = True := by simp [hcf]
  have hok := h5.ok
  have hd6 := h5.hd.set_same 3 (.slice (some ⟨gf, 0, none⟩) fr.length cf)
  have f6 := hset_fr H5 t 3 (.slice (some ⟨gf, 0, none⟩) fr.length cf)
  have na6 : NA (hset H5 ⟨t, 3, none⟩ (.slice (some ⟨gf, 0, none⟩) fr.length cf)) t g c len N := by
   obtain ⟨rest, k1, k2⟩ := h5.na.nd
   exact ⟨hd6.cellOf rfl, ⟨rest, k1.frame f6 (Ne.symm h5.na.ne), k2⟩, h5.na.ne, h5.na.cl, h5.na.z⟩
  obtain ⟨mk, hmk⟩ := h5.mp
  have mp6 := hmk.frame f6 (Ne.symm h5.ap.1)
  have fr6 := hfr6.frame f6 (fun b hb (e : b = t) => h5.ap.2.2.1 (by rw [hb, e]))
  have hd6' : Blk (hset H5 ⟨t, 3, none⟩ (.slice (some ⟨gf, 0, none⟩) fr.length cf)) t [.int .i64 S.n, .slice (some ⟨g, 0, none⟩) len c, .map (some r), .slice (some ⟨gf, 0, none⟩) fr.length cf] := hd6
  repeat' (first|(with_reducible first|refine jA ?_|(refine hK _ _ ?_;clear hK K)|refine jJ fun K hK=>?_|refine jK ?_|refine jL ?_|refine jM ?_|refine jN ?_|refine jO ?_|refine jP ?_|refine jQ ?_|(refine jB ?_;clear hK K)|(refine jC ?_;clear hK K)|refine jD ?_|refine jE ?_|refine jG ?_|refine jH ?_|refine jI ?_)|((with_reducible refine jR ?hq ?_);case hq=>rfl)|((first|(with_reducible first|refine jS fun K hK=>?_|refine jT ?_|refine jU ?_)|((with_reducible refine jV ?hy fun K hK=>?_);case hy=>rfl));simp only [go_sem, Nat.reduceEqDiff, Nat.reduceAdd, Nat.reduceMul, Nat.reduceLeDiff, Nat.reduceLT, Int.reduceLT, Int.reduceLE, Int.reduceEq, Int.reduceNeg, Int.reduceToNat, Nat.reducePow, reduceIte, reduceCtorEq, i0, i1, i2, i3, i4, d3, ex, ck, w3, tx1, tx2, tx3, Nat.sub_zero, ite_self])|((with_reducible first|refine jW ?hy ?_|refine jY ?hy ?_);case hy=>rfl)|((with_reducible first|refine jX ?hy ?_|refine jZ ?hy ?_);case hy=>rfl)|((with_reducible refine jF ?hy ?_);case hy=>decide))
  generalize hset H5 ⟨t, 3, none⟩ (.slice (some ⟨gf, 0, none⟩) fr.length cf) = H6 at hd6 hd6' f6 na6 mp6 fr6
  clear hd6 d3 w3 ck
  have e2 := hd6'.cellOf (i := 2) rfl
  simp only [go_sem, Nat.reduceEqDiff, Nat.reduceAdd, Nat.reduceMul, Nat.reduceLeDiff, Nat.reduceLT, Int.reduceLT, Int.reduceLE, Int.reduceEq, Int.reduceNeg, Int.reduceToNat, Nat.reducePow, reduceIte, reduceCtorEq, e2]
  repeat' (first|(with_reducible first|refine jA ?_|(refine hK _ _ ?_;clear hK K)|refine jJ fun K hK=>?_|refine jK ?_|refine jL ?_|refine jM ?_|refine jN ?_|refine jO ?_|refine jP ?_|refine jQ ?_|(refine jB ?_;clear hK K)|(refine jC ?_;clear hK K)|refine jD ?_|refine jE ?_|refine jG ?_|refine jH ?_|refine jI ?_)|((with_reducible refine jR ?hq ?_);case hq=>rfl)|((first|(with_reducible first|refine jS fun K hK=>?_|refine jT ?_|refine jU ?_)|((with_reducible refine jV ?hy fun K hK=>?_);case hy=>rfl));simp only [go_sem, Nat.reduceEqDiff, Nat.reduceAdd, Nat.reduceMul, Nat.reduceLeDiff, Nat.reduceLT, Int.reduceLT, Int.reduceLE, Int.reduceEq, Int.reduceNeg, Int.reduceToNat, Nat.reducePow, reduceIte, reduceCtorEq, i3])|((with_reducible first|refine jW ?hy ?_|refine jY ?hy ?_);case hy=>rfl)|((with_reducible first|refine jX ?hy ?_|refine jZ ?hy ?_);case hy=>rfl)|((with_reducible refine jF ?hy ?_);case hy=>decide))
  refine hp_updF (vf := natV) mapT_ids kInt mp6 id k fun H7 hM7 hf7 _ _ => ?_
  have hd7 := hd6'.frame hf7 h5.ap.1
  have na7 := na6.frame hf7 h5.ap.1 h5.ap.2.1
  have fr7 := fr6.frame hf7 (fun b hb (e : b = r) => h5.ap.2.2.2.2 (by rw [hb, e]))
  have hd7c := na7.hd
  have hVk : ¬ S.V k := by
   rintro (⟨_, h1⟩ | h1)
   ·omega
   ·rw [hk3] at h1; cases h1
  have hk0 : k ≠ 0 := by omega
  have hn8 := putNd na7 hk2 (x := newNd k ⟨id, (u : Nat), (v : Nat), w⟩) na7.z.1 na7.z.1 na7.z.1 hk2
  simp only [newNd, Nd.zero, Ed.zero, Int.cast_ofNat_Int] at hn8
  obtain ⟨na8, f8⟩ := hn8
  have o0 := na7.okw0 hk2
  have o1 := na7.okw hk2 1 (by omega)
  have o2 := na7.okw hk2 2 (by omega)
  have o3 := na7.okw hk2 3 (by omega)
  have o4 := na7.okw hk2 4 (by omega)
  have o5 := na7.okw hk2 5 (by omega)
  have o6 := na7.okw hk2 6 (by omega)
  have o7 := na7.okw hk2 7 (by omega)
  have o8 := na7.okw hk2 8 (by omega)
  have o9 := na7.okw hk2 9 (by omega)
  repeat' (first|(with_reducible first|refine jA ?_|(refine hK _ _ ?_;clear hK K)|refine jJ fun K hK=>?_|refine jK ?_|refine jL ?_|refine jM ?_|refine jN ?_|refine jO ?_|refine jP ?_|refine jQ ?_|(refine jB ?_;clear hK K)|(refine jC ?_;clear hK K)|refine jD ?_|refine jE ?_|refine jG ?_|refine jH ?_|refine jI ?_)|((with_reducible refine jR ?hq ?_);case hq=>rfl)|((first|(with_reducible first|refine jS fun K hK=>?_|refine jT ?_|refine jU ?_)|((with_reducible refine jV ?hy fun K hK=>?_);case hy=>rfl));simp only [go_sem, Nat.reduceEqDiff, Nat.reduceAdd, Nat.reduceMul, Nat.reduceLeDiff, Nat.reduceLT, Int.reduceLT, Int.reduceLE, Int.reduceEq, Int.reduceNeg, Int.reduceToNat, Nat.reducePow, reduceIte, reduceCtorEq, i0, i1, i2, i3, i4, hd7c, hk2, o0, o1, o2, o3, o4, o5, o6, o7, o8, o9, okW_hset, ew])|((with_reducible first|refine jW ?hy ?_|refine jY ?hy ?_);case hy=>rfl)|((with_reducible first|refine jX ?hy ?_|refine jZ ?hy ?_);case hy=>rfl)|((with_reducible refine jF ?hy ?_);case hy=>decide))
  have hL8 : LC (upd N k (newNd k ⟨id, (u : Nat), (v : Nat), w⟩)) (setE S.E k (some ⟨id, (u : Nat), (v : Nat), w⟩)) S.par ([k] :: rows) (fun i => S.V i ∨ i = k) := h5.lc.add hk0 hVk hk3 (hok.dd k hVk) (fun x e' hx => hid x e' hx)
  have hV8 : ∀ i, (S.V i ∨ i = k) → i < len := fun i hi => by
   rcases hi with hi | rfl
   ·exact h5.lt i hi
   ·exact hk2
  refine evert_ok (rows := [k] :: rows) na8 hL8 hV8 (.inl (Ls.vtx hu)) hl fun H9 N9 R9 b9 hN9 hL9 hT9 el9 hf9 => ?_
  have hul' : u + 1 < len := hV8 _ (.inl (Ls.vtx hu))
  have hvl' : v + 1 < len := hV8 _ (.inl (Ls.vtx hv))
  have hd9 := hN9.hd
  have w9 := hN9.okw0 hul'
  have hN10 := setUpA hN9 hul' hk2
  have hf10 := hset_fr H9 g ((u + 1) * 10) (.int .i64 (k : Nat))
  repeat' (first|(with_reducible first|refine jA ?_|(refine hK _ _ ?_;clear hK K)|refine jJ fun K hK=>?_|refine jK ?_|refine jL ?_|refine jM ?_|refine jN ?_|refine jO ?_|refine jP ?_|refine jQ ?_|(refine jB ?_;clear hK K)|(refine jC ?_;clear hK K)|refine jD ?_|refine jE ?_|refine jG ?_|refine jH ?_|refine jI ?_)|((with_reducible refine jR ?hq ?_);case hq=>rfl)|((first|(with_reducible first|refine jS fun K hK=>?_|refine jT ?_|refine jU ?_)|((with_reducible refine jV ?hy fun K hK=>?_);case hy=>rfl));simp only [go_sem, Nat.reduceEqDiff, Nat.reduceAdd, Nat.reduceMul, Nat.reduceLeDiff, Nat.reduceLT, Int.reduceLT, Int.reduceLE, Int.reduceEq, Int.reduceNeg, Int.reduceToNat, Nat.reducePow, reduceIte, reduceCtorEq, i0, i1, i2, i3, i4, hd9, ew, hul', w9])|((with_reducible first|refine jW ?hy ?_|refine jY ?hy ?_);case hy=>rfl)|((with_reducible first|refine jX ?hy ?_|refine jZ ?hy ?_);case hy=>rfl)|((with_reducible refine jF ?hy ?_);case hy=>decide))
  have hd10 := hN10.hd
  have w10 := hN10.okw0 hk2
  have hN11 := setUpA hN10 hk2 hvl'
  have hf11 := hset_fr (hset H9 ⟨g, (u + 1) * 10, none⟩ (.int .i64 (k : Nat))) g (k * 10) (.int .i64 ((v + 1 : Nat) : Int))
  simp only [go_sem, Nat.reduceEqDiff, Nat.reduceAdd, Nat.reduceMul, Nat.reduceLeDiff, Nat.reduceLT, Int.reduceLT, Int.reduceLE, Int.reduceEq, Int.reduceNeg, Int.reduceToNat, Nat.reducePow, reduceIte, reduceCtorEq, hd10]
  repeat' (first|(with_reducible first|refine jA ?_|(refine hK _ _ ?_;clear hK K)|refine jJ fun K hK=>?_|refine jK ?_|refine jL ?_|refine jM ?_|refine jN ?_|refine jO ?_|refine jP ?_|refine jQ ?_|(refine jB ?_;clear hK K)|(refine jC ?_;clear hK K)|refine jD ?_|refine jE ?_|refine jG ?_|refine jH ?_|refine jI ?_)|((with_reducible refine jR ?hq ?_);case hq=>rfl)|((first|(with_reducible first|refine jS fun K hK=>?_|refine jT ?_|refine jU ?_)|((with_reducible refine jV ?hy fun K hK=>?_);case hy=>rfl));simp only [go_sem, Nat.reduceEqDiff, Nat.reduceAdd, Nat.reduceMul, Nat.reduceLeDiff, Nat.reduceLT, Int.reduceLT, Int.reduceLE, Int.reduceEq, Int.reduceNeg, Int.reduceToNat, Nat.reducePow, reduceIte, reduceCtorEq, i0, i1, i2, i3, i4, hd10, ew2, hk2, w10])|((with_reducible first|refine jW ?hy ?_|refine jY ?hy ?_);case hy=>rfl)|((with_reducible first|refine jX ?hy ?_|refine jZ ?hy ?_);case hy=>rfl)|((with_reducible refine jF ?hy ?_);case hy=>decide))
  have k1 := hok.evert ⟨by omega, by omega⟩ hl
  have hnk : ∀ y, ev S.par 0 ((u + 1) :: rl) y ≠ k := k1.no_kid (h := k) hVk hk0
  have hpk : ev S.par 0 ((u + 1) :: rl) k = 0 := k1.dd k hVk
  obtain ⟨R', hR'⟩ := hL9.alone (h := k) (.inr rfl) hpk hnk
  have huk : u + 1 ≠ k := by omega
  have hL10 : LC (upd N9 (u + 1) { N9 (u + 1) with up := k }) (setE S.E k (some ⟨id, (u : Nat), (v : Nat), w⟩)) (setP (ev S.par 0 ((u + 1) :: rl)) (u + 1) k) (((u + 1) :: rl) :: R9) (fun i => S.V i ∨ i = k) :=
   LC.hang hL9 hT9 el9 ev_head (Or.inr rfl) (Ch.root hpk) (by simp; omega)
  have hL10' := hL10.perm hR'
  obtain ⟨T2, hT2, eT2⟩ := hL10'.trees [k] (.head _)
  have eT3 : T2.root = k := by
   cases T2 with
   | nil => simp [Tr.list] at eT2
   | node a x b =>
    have h1 : x ∈ [k] := by rw [← eT2]; simp [Tr.list]
    simpa [Tr.root] using h1
  have hpk10 : setP (ev S.par 0 ((u + 1) :: rl)) (u + 1) k k = 0 := by rw [setP_ne _ (Ne.symm huk)]; exact hpk
  have hlv10 : Ch (setP (ev S.par 0 ((u + 1) :: rl)) (u + 1) k) (v + 1) lv := hlv.congr fun x hx => setP_ne _ fun e => hul (e ▸ hx)
  have hklv : k ∉ lv := fun hm => hVk (k1.live hlv (Ls.vtx (S := S.ev ((u + 1) :: rl)) hv) k hm)
  have hL11 := LC.hang (T := T2) (r := []) hL10' (by have := hT2; simp only [List.headD_cons] at this; rw [hpk10] at this; exact this) eT2 hpk10 (.inl (Ls.vtx hv)) hlv10 hklv
  rw [eT3] at hL11
  have hpar : setP (setP (ev S.par 0 ((u + 1) :: rl)) (u + 1) k) k (v + 1) = (S.link ((u + 1) :: rl) k ⟨id, (u : Nat), (v : Nat), w⟩).par := by
   show _ = setP (setP (ev S.par 0 ((u + 1) :: rl)) k (v + 1)) (u + 1) k
   funext i
   unfold setP
   by_cases e1 : i = k
   ·subst e1; simp [Ne.symm huk]
   ·simp [e1]
  rw [hpar] at hL11
  have hokL := hok.linkOk (h := k) (e := ⟨id, (u : Nat), (v : Nat), w⟩) hu hv rfl rfl hl hlv hul hk1 hk3 (fun x e' hx => hid x e' hx)
  have hg := (((f8.trans hf9).trans hf10).trans hf11)
  have hVL : ∀ x, (S.link ((u + 1) :: rl) k ⟨id, (u : Nat), (v : Nat), w⟩).V x ↔ S.V x ∨ x = k := fun x => by
   show ((1 ≤ x ∧ x ≤ S.n) ∨ (setE S.E k (some _) x).isSome = true) ↔ ((1 ≤ x ∧ x ≤ S.n) ∨ (S.E x).isSome = true) ∨ x = k
   by_cases ex : x = k
   ·rw [ex, setE_same]; simp
   ·rw [setE_ne _ _ ex]; simp [ex]
  have hVe : (S.link ((u + 1) :: rl) k ⟨id, (u : Nat), (v : Nat), w⟩).V = fun x => S.V x ∨ x = k := funext fun x => propext (hVL x)
  refine fin _ (fun b => b = t ∨ b = g ∨ b = r ∨ some gf = some b) k ⟨g, c, len, r, some gf, .slice (some ⟨gf, 0, none⟩) fr.length cf, _, [k] :: R', fun j => if j = id then some k else ids j, fr, ⟨?_, hN11, ?_, ?_, h5.ap, hokL, ?_, fun i h' => ?_, fun x hx => ?_, ?_, fun x a b => ?_, fun x hx => ?_, h5.ln⟩, fun b => Iff.rfl⟩ hk1 hk3 ?_ (fun b hb => hft b hb)
  ·exact hd7.frame hg h5.na.ne
  ·exact ⟨_, hM7.frame hg (Ne.symm h5.ap.2.1)⟩
  ·exact fr7.frame hg fun b hb (e : b = g) => h5.ap.2.2.2.1 (by rw [hb, e])
  ·rw [hVe]; exact hL11
  ·show (if i = id then some k else ids i) = some h' ↔ ∃ e, setE S.E k (some ⟨id, (u : Nat), (v : Nat), w⟩) h' = some e ∧ e.id = i
   by_cases ei : i = id
   ·rw [if_pos ei]
    constructor
    ·intro h1
     obtain rfl := Option.some.inj h1
     exact ⟨_, setE_same _ _ _, ei.symm⟩
    ·rintro ⟨x, h1, h2⟩
     by_cases ek : h' = k
     ·rw [ek]
     ·rw [setE_ne _ _ ek] at h1
      exact absurd (h2.trans ei) (hid h' x h1)
   ·rw [if_neg ei, h5.id i h']
    by_cases ek : h' = k
    ·rw [ek, setE_same]
     constructor
     ·rintro ⟨x, h1, h2⟩
      rw [hk3] at h1; cases h1
     ·rintro ⟨x, h1, h2⟩
      obtain rfl := Option.some.inj h1
      exact absurd h2.symm ei
    ·rw [setE_ne _ _ ek]
  ·have h1 := h5.free x (List.mem_append_left _ hx)
   refine ⟨h1.1, h1.2.1, ?_⟩
   show setE S.E k _ x = none
   rw [setE_ne _ _ fun (e : x = k) => hkfr (e ▸ hx)]
   exact h1.2.2
  ·have := h5.frn
   rw [List.nodup_append] at this
   exact this.1
  ·show (setE S.E k _ x).isSome = true ∨ x ∈ fr
   by_cases ek : x = k
   ·rw [ek, setE_same]; exact .inl rfl
   ·rw [setE_ne _ _ ek]
    refine (h5.all x a b).imp (fun h => h) fun h => ?_
    rcases List.mem_append.1 h with h | h
    ·exact h
    ·exact absurd (List.mem_singleton.1 h) ek
  ·exact hV8 x ((hVL x).1 hx)
  ·refine hf5.trans' (S' := fun b => b = t ∨ b = r ∨ b = g) (((f6.mono fun _ _ h => .inl h).trans (hf7.mono fun _ _ h => .inr (.inl h))).trans (hg.mono fun _ _ h => .inr (.inr h))) fun b hb hS => ?_
   rcases hS with h1 | h1 | h1
   ·exact (hft b (.inl h1)).resolve_right (by omega)
   ·exact (hft b (.inr (.inr (.inl h1)))).resolve_right (by omega)
   ·exact (hft b (.inr (.inl h1))).resolve_right (by omega)
 clear hKT
 have hTt : T t := (e t).2 (.inl rfl)
 have hTg : T g := (e g).2 (.inr (.inl rfl))
 obtain ⟨fa, fc, hfa⟩ := h2.fri.slice
 have hnl : (natsI fr).length = fr.length := by unfold natsI; simp
 rw [hnl] at hfa
 subst hfa
 have d3 := h2.hd.cellOf (i := 3) rfl
 rcases (show fr = [] ∨ ∃ fr0 k, fr = fr0 ++ [k] from by
  rcases List.eq_nil_or_concat fr with h | ⟨a, b, h⟩
  ·exact .inl h
  ·exact .inr ⟨a, b, by rw [h, List.concat_eq_append]⟩) with rfl | ⟨fr0, k, rfl⟩
 ·simp only [go_sem, Nat.reduceEqDiff, Nat.reduceAdd, Nat.reduceMul, Nat.reduceLeDiff, Nat.reduceLT, Int.reduceLT, Int.reduceLE, Int.reduceEq, Int.reduceNeg, Int.reduceToNat, Nat.reducePow, reduceIte, reduceCtorEq, d3]
  repeat' (first|(with_reducible first|refine jA ?_|(refine hK _ _ ?_;clear hK K)|refine jJ fun K hK=>?_|refine jK ?_|refine jL ?_|refine jM ?_|refine jN ?_|refine jO ?_|refine jP ?_|refine jQ ?_|(refine jB ?_;clear hK K)|(refine jC ?_;clear hK K)|refine jD ?_|refine jE ?_|refine jG ?_|refine jH ?_|refine jI ?_)|((with_reducible refine jR ?hq ?_);case hq=>rfl)|((first|(with_reducible first|refine jS fun K hK=>?_|refine jT ?_|refine jU ?_)|((with_reducible refine jV ?hy fun K hK=>?_);case hy=>rfl));simp only [go_sem, Nat.reduceEqDiff, Nat.reduceAdd, Nat.reduceMul, Nat.reduceLeDiff, Nat.reduceLT, Int.reduceLT, Int.reduceLE, Int.reduceEq, Int.reduceNeg, Int.reduceToNat, Nat.reducePow, reduceIte, reduceCtorEq])|((with_reducible first|refine jW ?hy ?_|refine jY ?hy ?_);case hy=>rfl)|((with_reducible first|refine jX ?hy ?_|refine jZ ?hy ?_);case hy=>rfl)|((with_reducible refine jF ?hy ?_);case hy=>decide))
  refine hK1 _ _ ?_
  clear hK1 K1
  repeat' (first|(with_reducible first|refine jA ?_|(refine hK _ _ ?_;clear hK K)|refine jJ fun K hK=>?_|refine jK ?_|refine jL ?_|refine jM ?_|refine jN ?_|refine jO ?_|refine jP ?_|refine jQ ?_|(refine jB ?_;clear hK K)|(refine jC ?_;clear hK K)|refine jD ?_|refine jE ?_|refine jG ?_|refine jH ?_|refine jI ?_)|((with_reducible refine jR ?hq ?_);case hq=>rfl)|((first|(with_reducible first|refine jS fun K hK=>?_|refine jT ?_|refine jU ?_)|((with_reducible refine jV ?hy fun K hK=>?_);case hy=>rfl));simp only [go_sem, Nat.reduceEqDiff, Nat.reduceAdd, Nat.reduceMul, Nat.reduceLeDiff, Nat.reduceLT, Int.reduceLT, Int.reduceLE, Int.reduceEq, Int.reduceNeg, Int.reduceToNat, Nat.reducePow, reduceIte, reduceCtorEq])|((with_reducible first|refine jW ?hy ?_|refine jY ?hy ?_);case hy=>rfl)|((with_reducible first|refine jX ?hy ?_|refine jZ ?hy ?_);case hy=>rfl)|((with_reducible refine jF ?hy ?_);case hy=>decide))
  have d1 := h2.hd.cellOf (i := 1) rfl
  obtain ⟨rest, hb2, hr2, hc2⟩ := h2.na.nd
  have hgl := h2.na.lt
  have hlen := h2.ln
  have hmr := h2.mp.choose_spec
  have hrl := hmr.lt
  simp only [go_sem, Nat.reduceEqDiff, Nat.reduceAdd, Nat.reduceMul, Nat.reduceLeDiff, Nat.reduceLT, Int.reduceLT, Int.reduceLE, Int.reduceEq, Int.reduceNeg, Int.reduceToNat, Nat.reducePow, reduceIte, reduceCtorEq, d1]
  repeat' (first|(with_reducible first|refine jA ?_|(refine hK _ _ ?_;clear hK K)|refine jJ fun K hK=>?_|refine jK ?_|refine jL ?_|refine jM ?_|refine jN ?_|refine jO ?_|refine jP ?_|refine jQ ?_|(refine jB ?_;clear hK K)|(refine jC ?_;clear hK K)|refine jD ?_|refine jE ?_|refine jG ?_|refine jH ?_|refine jI ?_)|((with_reducible refine jR ?hq ?_);case hq=>rfl)|((first|(with_reducible first|refine jS fun K hK=>?_|refine jT ?_|refine jU ?_)|((with_reducible refine jV ?hy fun K hK=>?_);case hy=>rfl));simp only [go_sem, Nat.reduceEqDiff, Nat.reduceAdd, Nat.reduceMul, Nat.reduceLeDiff, Nat.reduceLT, Int.reduceLT, Int.reduceLE, Int.reduceEq, Int.reduceNeg, Int.reduceToNat, Nat.reducePow, reduceIte, reduceCtorEq])|((with_reducible first|refine jW ?hy ?_|refine jY ?hy ?_);case hy=>rfl)|((with_reducible first|refine jX ?hy ?_|refine jZ ?hy ?_);case hy=>rfl)|((with_reducible refine jF ?hy ?_);case hy=>decide))
  generalize eH3 : H2.push _ = H3
  have f3 : Fr (fun _ => False) H2 H3 := by rw [← eH3]; exact (Fr.refl _ _).push _
  have s3 : H3.size = H2.size + 1 := by rw [← eH3]; simp
  have b3 : Blk H3 H2.size Nd.zero.cells := by rw [← eH3]; exact Blk.new H2 Nd.zero.cells _
  clear eH3
  refine append_row (g := g) (n := len) (m := 1) (c := c) (l := rowsN N2 len) (rest := rest) (new := Nd.zero.cells) (sz := 10) (e := 93) (by kernel_rfl) tl93 (hb2.frame f3 fun h => h) (rowsN_len _ _) hr2 hc2 (readL_blk b3 10 0 0 (by simp [Nd.cells])) (by simp [Nd.cells, Nd.zero, Ed.zero, plainVal]) (by decide) (by simp only []; omega) rfl rfl fun H4 g' c' rest' hb4 hl4 hc4 hf4 hg4 => ?_
  have htg : t ≠ g := h2.na.ne
  have hd4 := (h2.hd.frame f3 fun h => h).frame hf4 htg
  have w1 := hd4.okW (i := 1) (by simp)
  have htg' : t ≠ g' := by rcases hg4 with e | e <;> omega
  have hgr' : g' ≠ r := by
   have := h2.ap.2.1
   rcases hg4 with e | e <;> omega
  have hd5 := hd4.set_same 1 (.slice (some ⟨g', 0, none⟩) (len + 1) c')
  have f5 := hset_fr H4 t 1 (.slice (some ⟨g', 0, none⟩) (len + 1) c')
  have hb5 := hb4.frame f5 (Ne.symm htg')
  have hBt : ∀ b, Bf = some b → b ≠ t ∧ b ≠ g ∧ b ≠ r ∧ b < H2.size := fun b hb => ⟨fun e => h2.ap.2.2.1 (by rw [hb, e]), fun e => h2.ap.2.2.2.1 (by rw [hb, e]), fun e => h2.ap.2.2.2.2 (by rw [hb, e]), h2.fri.lt hb⟩
  have fri5 := ((h2.fri.frame f3 fun b _ h => h).frame hf4 fun b hb (e : b = g) => (hBt b hb).2.1 e).frame f5 fun b hb (e : b = t) => (hBt b hb).1 e
  have mp5 := ((hmr.frame f3 fun h => h).frame hf4 (Ne.symm h2.ap.2.1)).frame f5 (Ne.symm h2.ap.1)
  have fT5 : Fr T H (hset H4 ⟨t, 1, none⟩ (.slice (some ⟨g', 0, none⟩) (len + 1) c')) := ((hfT.trans (f3.mono fun _ _ h => h.elim)).trans (hf4.mono fun b _ e => by rw [e]; exact hTg)).trans (f5.mono fun b _ e => by rw [e]; exact hTt)
  have s45 := hf4.size
  have s5 : (hset H4 ⟨t, 1, none⟩ (.slice (some ⟨g', 0, none⟩) (len + 1) c')).size = H4.size := hset_size _ _ _
  repeat' (first|(with_reducible first|refine jA ?_|(refine hK _ _ ?_;clear hK K)|refine jJ fun K hK=>?_|refine jK ?_|refine jL ?_|refine jM ?_|refine jN ?_|refine jO ?_|refine jP ?_|refine jQ ?_|(refine jB ?_;clear hK K)|(refine jC ?_;clear hK K)|refine jD ?_|refine jE ?_|refine jG ?_|refine jH ?_|refine jI ?_)|((with_reducible refine jR ?hq ?_);case hq=>rfl)|((first|(with_reducible first|refine jS fun K hK=>?_|refine jT ?_|refine jU ?_)|((with_reducible refine jV ?hy fun K hK=>?_);case hy=>rfl));simp only [go_sem, Nat.reduceEqDiff, Nat.reduceAdd, Nat.reduceMul, Nat.reduceLeDiff, Nat.reduceLT, Int.reduceLT, Int.reduceLE, Int.reduceEq, Int.reduceNeg, Int.reduceToNat, Nat.reducePow, reduceIte, reduceCtorEq, w1])|((with_reducible first|refine jW ?hy ?_|refine jY ?hy ?_);case hy=>rfl)|((with_reducible first|refine jX ?hy ?_|refine jZ ?hy ?_);case hy=>rfl)|((with_reducible refine jF ?hy ?_);case hy=>decide))
  have hd5' : Blk (hset H4 ⟨t, 1, none⟩ (.slice (some ⟨g', 0, none⟩) (len + 1) c')) t [.int .i64 S.n, .slice (some ⟨g', 0, none⟩) (len + 1) c', .map (some r), .slice fa ([] : List Nat).length fc] := hd5
  generalize hset H4 ⟨t, 1, none⟩ (.slice (some ⟨g', 0, none⟩) (len + 1) c') = H5 at hd5' hb5 f5 fri5 mp5 fT5 s5
  clear hd5
  have c1 := hd5'.cellOf (i := 1) rfl
  have c3 := hd5'.cellOf (i := 3) rfl
  have exl : IntKind.i64.wrap (((len + 1 : Nat) : Int) - 1) = (len : Nat) := by rw [wrap_i64] <;> omega
  simp only [go_sem, Nat.reduceEqDiff, Nat.reduceAdd, Nat.reduceMul, Nat.reduceLeDiff, Nat.reduceLT, Int.reduceLT, Int.reduceLE, Int.reduceEq, Int.reduceNeg, Int.reduceToNat, Nat.reducePow, reduceIte, reduceCtorEq, c3]
  repeat' (first|(with_reducible first|refine jA ?_|(refine hK _ _ ?_;clear hK K)|refine jJ fun K hK=>?_|refine jK ?_|refine jL ?_|refine jM ?_|refine jN ?_|refine jO ?_|refine jP ?_|refine jQ ?_|(refine jB ?_;clear hK K)|(refine jC ?_;clear hK K)|refine jD ?_|refine jE ?_|refine jG ?_|refine jH ?_|refine jI ?_)|((with_reducible refine jR ?hq ?_);case hq=>rfl)|((first|(with_reducible first|refine jS fun K hK=>?_|refine jT ?_|refine jU ?_)|((with_reducible refine jV ?hy fun K hK=>?_);case hy=>rfl));simp only [go_sem, Nat.reduceEqDiff, Nat.reduceAdd, Nat.reduceMul, Nat.reduceLeDiff, Nat.reduceLT, Int.reduceLT, Int.reduceLE, Int.reduceEq, Int.reduceNeg, Int.reduceToNat, Nat.reducePow, reduceIte, reduceCtorEq, c1, exl])|((with_reducible first|refine jW ?hy ?_|refine jY ?hy ?_);case hy=>rfl)|((with_reducible first|refine jX ?hy ?_|refine jZ ?hy ?_);case hy=>rfl)|((with_reducible refine jF ?hy ?_);case hy=>decide))
  refine append_ir elems34 tl3 fri5 rfl (by decide) (by simp [natsI]) rfl ?_
  intro v' H7 B' hv7 hf7 hB7
  have hd7 := hd5'.frame hf7 fun h => (hBt t h).1 rfl
  have w3 := hd7.okW (i := 3) (by simp)
  have hd8 := hd7.set_same 3 v'
  have f8 := hset_fr H7 t 3 v'
  have s7 := hf7.size
  have hg'lt : g' < H5.size := hb5.lt
  have hBg' : ∀ b, Bf = some b → b ≠ g' := fun b hb => by
   have := hBt b hb
   rcases hg4 with e | e <;> omega
  have hB't : ∀ b, B' = some b → b ≠ t ∧ b ≠ g' ∧ b ≠ r ∧ (Bf = some b ∨ H5.size ≤ b) := fun b hb => by
   rcases hB7 with e | ⟨x, e1, e2⟩
   ·rw [e] at hb
    have := hBt b hb
    exact ⟨this.1, hBg' b hb, this.2.2.1, .inl hb⟩
   ·rw [e1] at hb
    obtain rfl := Option.some.inj hb
    refine ⟨by omega, by omega, by omega, .inr e2⟩
  have hb8 := (hb5.frame hf7 fun h => hBg' g' h rfl).frame f8 (Ne.symm htg')
  have mp8 := (mp5.frame hf7 fun h => (hBt r h).2.2.1 rfl).frame f8 (Ne.symm h2.ap.1)
  have hv8 := hv7.frame f8 fun b hb (e : b = t) => (hB't b hb).1 e
  have hG := grown h2 (v' := v') (B' := B') (H' := hset H7 ⟨t, 3, none⟩ v') hd8 hb8 hl4 hc4 hv8 ⟨_, mp8⟩ ⟨htg', hgr'⟩ ⟨fun e => (hB't t e).1 rfl, fun e => (hB't g' e).2.1 rfl, fun e => (hB't r e).2.2.1 rfl⟩
  obtain ⟨va, vc, hvs⟩ := hv7.slice
  subst hvs
  repeat' (first|(with_reducible first|refine jA ?_|(refine hK _ _ ?_;clear hK K)|refine jJ fun K hK=>?_|refine jK ?_|refine jL ?_|refine jM ?_|refine jN ?_|refine jO ?_|refine jP ?_|refine jQ ?_|(refine jB ?_;clear hK K)|(refine jC ?_;clear hK K)|refine jD ?_|refine jE ?_|refine jG ?_|refine jH ?_|refine jI ?_)|((with_reducible refine jR ?hq ?_);case hq=>rfl)|((first|(with_reducible first|refine jS fun K hK=>?_|refine jT ?_|refine jU ?_)|((with_reducible refine jV ?hy fun K hK=>?_);case hy=>rfl));simp only [go_sem, Nat.reduceEqDiff, Nat.reduceAdd, Nat.reduceMul, Nat.reduceLeDiff, Nat.reduceLT, Int.reduceLT, Int.reduceLE, Int.reduceEq, Int.reduceNeg, Int.reduceToNat, Nat.reducePow, reduceIte, reduceCtorEq, w3])|((with_reducible first|refine jW ?hy ?_|refine jY ?hy ?_);case hy=>rfl)|((with_reducible first|refine jX ?hy ?_|refine jZ ?hy ?_);case hy=>rfl)|((with_reducible refine jF ?hy ?_);case hy=>decide))
  refine tail _ _ g' c' (len + 1) B' _ (upd N2 len Nd.zero) rows2 [] len hG ?_ (fun b hb => ?_) ?_ ?_ ?_ ?_ ?_
  ·refine (fT5.trans (hf7.mono fun b _ hb => (e b).2 (.inr (.inr (.inr hb))))).trans (f8.mono fun b _ eb => by rw [eb]; exact hTt)
  ·rcases hb with rfl | rfl | rfl | hb
   ·exact .inl hTt
   ·rcases hg4 with eg | eg
    ·rw [eg]; exact .inl hTg
    ·exact .inr (by omega)
   ·exact .inl ((e b).2 (.inr (.inr (.inl rfl))))
   ·rcases (hB't b hb).2.2.2 with h1 | h1
    ·exact .inl ((e b).2 (.inr (.inr (.inr h1))))
    ·exact .inr (by omega)
  all_goals rfl
 ·have tl0 : ((((fr0 ++ [k]).length : Nat) : Int) == 0) = false := by simp; omega
  simp only [go_sem, Nat.reduceEqDiff, Nat.reduceAdd, Nat.reduceMul, Nat.reduceLeDiff, Nat.reduceLT, Int.reduceLT, Int.reduceLE, Int.reduceEq, Int.reduceNeg, Int.reduceToNat, Nat.reducePow, reduceIte, reduceCtorEq, d3]
  repeat' (first|(with_reducible first|refine jA ?_|(refine hK _ _ ?_;clear hK K)|refine jJ fun K hK=>?_|refine jK ?_|refine jL ?_|refine jM ?_|refine jN ?_|refine jO ?_|refine jP ?_|refine jQ ?_|(refine jB ?_;clear hK K)|(refine jC ?_;clear hK K)|refine jD ?_|refine jE ?_|refine jG ?_|refine jH ?_|refine jI ?_)|((with_reducible refine jR ?hq ?_);case hq=>rfl)|((first|(with_reducible first|refine jS fun K hK=>?_|refine jT ?_|refine jU ?_)|((with_reducible refine jV ?hy fun K hK=>?_);case hy=>rfl));simp only [go_sem, Nat.reduceEqDiff, Nat.reduceAdd, Nat.reduceMul, Nat.reduceLeDiff, Nat.reduceLT, Int.reduceLT, Int.reduceLE, Int.reduceEq, Int.reduceNeg, Int.reduceToNat, Nat.reducePow, reduceIte, reduceCtorEq, tl0])|((with_reducible first|refine jW ?hy ?_|refine jY ?hy ?_);case hy=>rfl)|((with_reducible first|refine jX ?hy ?_|refine jZ ?hy ?_);case hy=>rfl)|((with_reducible refine jF ?hy ?_);case hy=>decide))
  refine hK1 _ _ ?_
  clear hK1 K1
  repeat' (first|(with_reducible first|refine jA ?_|(refine hK _ _ ?_;clear hK K)|refine jJ fun K hK=>?_|refine jK ?_|refine jL ?_|refine jM ?_|refine jN ?_|refine jO ?_|refine jP ?_|refine jQ ?_|(refine jB ?_;clear hK K)|(refine jC ?_;clear hK K)|refine jD ?_|refine jE ?_|refine jG ?_|refine jH ?_|refine jI ?_)|((with_reducible refine jR ?hq ?_);case hq=>rfl)|((first|(with_reducible first|refine jS fun K hK=>?_|refine jT ?_|refine jU ?_)|((with_reducible refine jV ?hy fun K hK=>?_);case hy=>rfl));simp only [go_sem, Nat.reduceEqDiff, Nat.reduceAdd, Nat.reduceMul, Nat.reduceLeDiff, Nat.reduceLT, Int.reduceLT, Int.reduceLE, Int.reduceEq, Int.reduceNeg, Int.reduceToNat, Nat.reducePow, reduceIte, reduceCtorEq])|((with_reducible first|refine jW ?hy ?_|refine jY ?hy ?_);case hy=>rfl)|((with_reducible first|refine jX ?hy ?_|refine jZ ?hy ?_);case hy=>rfl)|((with_reducible refine jF ?hy ?_);case hy=>decide))
  refine tail _ _ g c len Bf _ N2 rows2 fr0 k h2 hfT (fun b hb => .inl ((e b).2 hb)) ?_ ?_ ?_ ?_ ?_ <;> rfl
end
section
variable {H H' : Heap} {t g c len r : Nat} {Bf : Option Nat} {vf : Value} {S : Ls} {N N' : Nodes} {rows rows' : List (List Nat)} {ids : Int → Option Nat} {fr : List Nat} {T : Nat → Prop} {K : Value → Heap → Prop}
theorem cut_bad {id : Int} (h : LtM H t T S) (hid : ∀ k x, S.E k = some x → x.id ≠ id) (fin : ∀ H', LtM H' t T S → Fr T H H' → K (.int .i64 53) H') :
  CallsH Try.prog 48 #[.pointer (some ⟨t, 0, none⟩), .int .i64 id] H K := by
 have hM := h
 obtain ⟨g, c, len, r, Bf, vf, N, rows, ids, fr, h, e⟩ := h
 have hid' : ids id = none := by
  cases hi : ids id with
  | none => rfl
  | some k =>
   obtain ⟨x, h2, h3⟩ := (h.id id k).1 hi
   exact absurd h3 (hid k x h2)
 have d2 := h.hd.cellOf (i := 2) rfl
 refine call48 (by simp) ?_
 simp only [Try.f48, Option.getD_some]
 repeat' (first|(with_reducible first|refine jA ?_|(refine hK _ _ ?_;clear hK K)|refine jJ fun K hK=>?_|refine jK ?_|refine jL ?_|refine jM ?_|refine jN ?_|refine jO ?_|refine jP ?_|refine jQ ?_|(refine jB ?_;clear hK K)|(refine jC ?_;clear hK K)|refine jD ?_|refine jE ?_|refine jG ?_|refine jH ?_|refine jI ?_)|((with_reducible refine jR ?hq ?_);case hq=>rfl)|((first|(with_reducible first|refine jS fun K hK=>?_|refine jT ?_|refine jU ?_)|((with_reducible refine jV ?hy fun K hK=>?_);case hy=>rfl));simp only [go_sem, Nat.reduceEqDiff, Nat.reduceAdd, Nat.reduceMul, Nat.reduceLeDiff, Nat.reduceLT, Int.reduceLT, Int.reduceLE, Int.reduceEq, Int.reduceNeg, Int.reduceToNat, Nat.reducePow, reduceIte, reduceCtorEq, d2])|((with_reducible first|refine jW ?hy ?_|refine jY ?hy ?_);case hy=>rfl)|((with_reducible first|refine jX ?hy ?_|refine jZ ?hy ?_);case hy=>rfl)|((with_reducible refine jF ?hy ?_);case hy=>decide))
 refine rd_lookupQ (vf := natV) mapT_ids kInt h.mp.choose_spec id true ?_
 rw [hid']
 simp only [Option.map_none, gotV, if_true]
 repeat' (first|(with_reducible first|refine jA ?_|(refine hK _ _ ?_;clear hK K)|refine jJ fun K hK=>?_|refine jK ?_|refine jL ?_|refine jM ?_|refine jN ?_|refine jO ?_|refine jP ?_|refine jQ ?_|(refine jB ?_;clear hK K)|(refine jC ?_;clear hK K)|refine jD ?_|refine jE ?_|refine jG ?_|refine jH ?_|refine jI ?_)|((with_reducible refine jR ?hq ?_);case hq=>rfl)|((first|(with_reducible first|refine jS fun K hK=>?_|refine jT ?_|refine jU ?_)|((with_reducible refine jV ?hy fun K hK=>?_);case hy=>rfl));simp only [go_sem, Nat.reduceEqDiff, Nat.reduceAdd, Nat.reduceMul, Nat.reduceLeDiff, Nat.reduceLT, Int.reduceLT, Int.reduceLE, Int.reduceEq, Int.reduceNeg, Int.reduceToNat, Nat.reducePow, reduceIte, reduceCtorEq])|((with_reducible first|refine jW ?hy ?_|refine jY ?hy ?_);case hy=>rfl)|((with_reducible first|refine jX ?hy ?_|refine jZ ?hy ?_);case hy=>rfl)|((with_reducible refine jF ?hy ?_);case hy=>decide))
 exact fin _ hM (.refl _ _)
theorem cut_ok {id : Int} {h k : Nat} {x : Ed} (hM : LtM H t T S) (hh : S.E h = some x) (hx : x.id = id) (hk : S.par k = h) (fin : ∀ H' T', LtM H' t T' (S.cut h k) → Fr T H H' → (∀ b, T' b → T b ∨ H.size ≤ b) → K (.int .i64 0) H') :
  CallsH Try.prog 48 #[.pointer (some ⟨t, 0, none⟩), .int .i64 id] H K := by
 obtain ⟨g, c, len, r, Bf, vf, N, rows, ids, fr, h0, e⟩ := hM
 have hok := h0.ok
 have hn := hok.n64
 obtain ⟨q1, q2, q3, q4, q5⟩ := hok.en h x hh
 obtain ⟨k', p, c1, c2, c3, c4, c5⟩ := hok.kid hh
 obtain rfl := c5 k hk
 have hVh : S.V h := .inr (by rw [hh]; rfl)
 have hVk : S.V k := by rcases c4 with c4 | c4 <;> exact .inl ⟨by omega, by omega⟩
 have hVp : S.V p := by rcases c4 with c4 | c4 <;> exact .inl ⟨by omega, by omega⟩
 have hlt := h0.lt h hVh
 have hids : ids id = some h := (h0.id id h).2 ⟨x, hh, hx⟩
 have hkh : k ≠ h := by rcases c4 with c4 | c4 <;> omega
 have hph : p ≠ h := by rcases c4 with c4 | c4 <;> omega
 have hNe : (N h).e = x := h0.lc.eok.e h x hh
 have d1 := h0.hd.cellOf (i := 1) rfl
 have d2 := h0.hd.cellOf (i := 2) rfl
 have x5 := h0.na.cell (j := 5) hlt rfl
 have x6 := h0.na.cell (j := 6) hlt rfl
 have x7 := h0.na.cell (j := 7) hlt rfl
 have x8 := h0.na.cell (j := 8) hlt rfl
 rw [hNe] at x5 x6 x7 x8
 have hT0 := h0.na.lt
 have n1 : ¬ H.size = g := by omega
 have n2 : ¬ g = H.size := by omega
 have l1 : g < H.size := by omega
 have hTt : T t := (e t).2 (.inl rfl)
 have hTg : T g := (e g).2 (.inr (.inl rfl))
 have hTr : T r := (e r).2 (.inr (.inr (.inl rfl)))
 have pk : setP S.par h 0 k = h := by rw [setP_ne _ hkh]; exact hk
 have rk : RootOf (setP S.par h 0) k h := ⟨[k, h], .step (by rw [pk]; omega) (by rw [pk]; exact .root (setP_same _ _ _)), rfl⟩
 have rh : RootOf (setP S.par h 0) h h := RootOf.self (setP_same _ _ _)
 have rp : ∃ rp, RootOf (setP S.par h 0) p rp ∧ rp ≠ h := by
  obtain ⟨lp, hlp⟩ := hok.ac p hVp
  have hhp : h ∉ lp := fun hm => by
   obtain ⟨m, hm2⟩ := hok.ac h hVh
   have hnd := hm2.nodup
   cases hm2 with
   | root h1 => exact q5 h1
   | step h1 k1 =>
    rw [c2] at k1
    obtain rfl := k1.uniq hlp
    rw [List.nodup_cons] at hnd
    exact hnd.1 hm
  have h1 := hlp.congr (par' := setP S.par h 0) fun y hy => setP_ne _ fun e => hhp (e ▸ hy)
  obtain ⟨rp, hrp⟩ : ∃ rp, lp.getLast? = some rp := by
   cases hl : lp.getLast? with
   | none => rw [List.getLast?_eq_none_iff] at hl; exact absurd hl hlp.ne
   | some y => exact ⟨y, rfl⟩
  exact ⟨rp, ⟨lp, h1, hrp⟩, fun e => hhp (e ▸ List.mem_of_getLast? hrp)⟩
 refine call48 (by simp) ?_
 simp only [Try.f48, Option.getD_some]
 repeat' (first|(with_reducible first|refine jA ?_|(refine hK _ _ ?_;clear hK K)|refine jJ fun K hK=>?_|refine jK ?_|refine jL ?_|refine jM ?_|refine jN ?_|refine jO ?_|refine jP ?_|refine jQ ?_|(refine jB ?_;clear hK K)|(refine jC ?_;clear hK K)|refine jD ?_|refine jE ?_|refine jG ?_|refine jH ?_|refine jI ?_)|((with_reducible refine jR ?hq ?_);case hq=>rfl)|((first|(with_reducible first|refine jS fun K hK=>?_|refine jT ?_|refine jU ?_)|((with_reducible refine jV ?hy fun K hK=>?_);case hy=>rfl));simp only [go_sem, Nat.reduceEqDiff, Nat.reduceAdd, Nat.reduceMul, Nat.reduceLeDiff, Nat.reduceLT, Int.reduceLT, Int.reduceLE, Int.reduceEq, Int.reduceNeg, Int.reduceToNat, Nat.reducePow, reduceIte, reduceCtorEq, d2])|((with_reducible first|refine jW ?hy ?_|refine jY ?hy ?_);case hy=>rfl)|((with_reducible first|refine jX ?hy ?_|refine jZ ?hy ?_);case hy=>rfl)|((with_reducible refine jF ?hy ?_);case hy=>decide))
 refine rd_lookupQ (vf := natV) mapT_ids kInt h0.mp.choose_spec id true ?_
 rw [hids]
 simp only [Option.map_some, gotV, natV, if_true]
 repeat' (first|(with_reducible first|refine jA ?_|(refine hK _ _ ?_;clear hK K)|refine jJ fun K hK=>?_|refine jK ?_|refine jL ?_|refine jM ?_|refine jN ?_|refine jO ?_|refine jP ?_|refine jQ ?_|(refine jB ?_;clear hK K)|(refine jC ?_;clear hK K)|refine jD ?_|refine jE ?_|refine jG ?_|refine jH ?_|refine jI ?_)|((with_reducible refine jR ?hq ?_);case hq=>rfl)|((first|(with_reducible first|refine jS fun K hK=>?_|refine jT ?_|refine jU ?_)|((with_reducible refine jV ?hy fun K hK=>?_);case hy=>rfl));simp only [go_sem, Nat.reduceEqDiff, Nat.reduceAdd, Nat.reduceMul, Nat.reduceLeDiff, Nat.reduceLT, Int.reduceLT, Int.reduceLE, Int.reduceEq, Int.reduceNeg, Int.reduceToNat, Nat.reducePow, reduceIte, reduceCtorEq, d1, x5, x6, x7, x8, hlt, n1, n2, l1, hcell_push, hcell_top, okW_push, okW_top, hcell_hset_ne, hcell_hset_off, hcell_hset_eq, okW_hset, hset_size, Array.size_push, Nat.lt_add_one, ne_add_one, add_one_ne, Nat.add_assoc, add_same, add_lt_same, Nat.reduceEqDiff, lt_add_k, add_k_ne, ne_add_k])|((with_reducible first|refine jW ?hy ?_|refine jY ?hy ?_);case hy=>rfl)|((with_reducible first|refine jX ?hy ?_|refine jZ ?hy ?_);case hy=>rfl)|((with_reducible refine jF ?hy ?_);case hy=>decide))
 generalize eH1 : hset _ _ _ = H1
 have f1 : Fr (fun _ => False) H H1 := by rw [← eH1]; exact (by ((repeat (first | refine Fr.set ?_ (by simp) _ | refine Fr.push ?_ _)); exact Fr.refl _ _))
 have q1' : Cells [(H.size, 1, .int .i64 x.u), (H.size, 2, .int .i64 x.v)] H1 := by
  rw [← eH1]
  simp only [go_sem, Nat.reduceEqDiff, Nat.reduceAdd, Nat.reduceMul, Nat.reduceLeDiff, Nat.reduceLT, Int.reduceLT, Int.reduceLE, Int.reduceEq, Int.reduceNeg, Int.reduceToNat, Nat.reducePow, reduceIte, reduceCtorEq, Cells, and_true, hcell_push, hcell_top, okW_push, okW_top, hcell_hset_ne, hcell_hset_off, hcell_hset_eq, okW_hset, hset_size, Array.size_push, Nat.lt_add_one, ne_add_one, add_one_ne, Nat.add_assoc, add_same, add_lt_same, Nat.reduceEqDiff, lt_add_k, add_k_ne, ne_add_k]
 clear eH1
 have h1 := h0.grow f1
 have s1 := f1.size
 refine apart_ok h1.na h1.lc h1.lt hVh fun H2 N2 rows2 hN2 hL2 hf2 => ?_
 have hne2 : H.size ≠ g := n1
 have q2' := q1'.frame hf2 (fun y hy => by
  simp only [List.mem_cons, List.not_mem_nil, or_false] at hy
  rcases hy with rfl | rfl <;> exact hne2)
 simp only [Cells, and_true] at q2'
 obtain ⟨qu, qv⟩ := q2'
 obtain ⟨xu, hxu⟩ : ∃ xu : Nat, x.u = (xu : Nat) := ⟨x.u.toNat, by omega⟩
 obtain ⟨xv, hxv⟩ : ∃ xv : Nat, x.v = (xv : Nat) := ⟨x.v.toNat, by omega⟩
 rw [hxu] at qu q2 c4
 rw [hxv] at qv q3 c4
 simp only [Int.toNat_natCast] at c4
 have ewu : IntKind.i64.wrap ((xu : Int) + 1) = ((xu + 1 : Nat) : Int) := by rw [wrap_i64] <;> omega
 have ewv : IntKind.i64.wrap ((xv : Int) + 1) = ((xv + 1 : Nat) : Int) := by rw [wrap_i64] <;> omega
 have hVu : S.V (xu + 1) := .inl ⟨by omega, by omega⟩
 obtain ⟨rpv, hrp, hrpn⟩ := rp
 repeat' (first|(with_reducible first|refine jA ?_|(refine hK _ _ ?_;clear hK K)|refine jJ fun K hK=>?_|refine jK ?_|refine jL ?_|refine jM ?_|refine jN ?_|refine jO ?_|refine jP ?_|refine jQ ?_|(refine jB ?_;clear hK K)|(refine jC ?_;clear hK K)|refine jD ?_|refine jE ?_|refine jG ?_|refine jH ?_|refine jI ?_)|((with_reducible refine jR ?hq ?_);case hq=>rfl)|((first|(with_reducible first|refine jS fun K hK=>?_|refine jT ?_|refine jU ?_)|((with_reducible refine jV ?hy fun K hK=>?_);case hy=>rfl));simp only [go_sem, Nat.reduceEqDiff, Nat.reduceAdd, Nat.reduceMul, Nat.reduceLeDiff, Nat.reduceLT, Int.reduceLT, Int.reduceLE, Int.reduceEq, Int.reduceNeg, Int.reduceToNat, Nat.reducePow, reduceIte, reduceCtorEq, qu, ewu])|((with_reducible first|refine jW ?hy ?_|refine jY ?hy ?_);case hy=>rfl)|((with_reducible first|refine jX ?hy ?_|refine jZ ?hy ?_);case hy=>rfl)|((with_reducible refine jF ?hy ?_);case hy=>decide))
 rename_i KT hKT K1 hK1
 have tail : ∀ (e' : Env) (H3 : Heap) (N3 : Nodes) (rows3 : List (List Nat)) (low : Nat), e' 0 = .pointer (some ⟨t, 0, none⟩) → e' 1 = .int .i64 id → e' 5 = .int .i64 (h : Nat) → e' 8 = .int .i64 (low : Nat) → low + 1 = k → NA H3 t g c len N3 → LC N3 S.E (setP S.par h 0) rows3 S.V → Fr (· = g) H1 H3 → KT e' H3 := by
  clear hK1 hK K K1
  intro e' H3 N3 rows3 low i0 i1 i5 i8 hlow hN3 hL3 hf3
  refine hKT _ _ ?_
  clear hKT KT
  have ewl : IntKind.i64.wrap ((low : Int) + 1) = (k : Nat) := by
   have := h0.lt k hVk
   have := h0.ln
   rw [wrap_i64] <;> omega
  repeat' (first|(with_reducible first|refine jA ?_|(refine hK _ _ ?_;clear hK K)|refine jJ fun K hK=>?_|refine jK ?_|refine jL ?_|refine jM ?_|refine jN ?_|refine jO ?_|refine jP ?_|refine jQ ?_|(refine jB ?_;clear hK K)|(refine jC ?_;clear hK K)|refine jD ?_|refine jE ?_|refine jG ?_|refine jH ?_|refine jI ?_)|((with_reducible refine jR ?hq ?_);case hq=>rfl)|((first|(with_reducible first|refine jS fun K hK=>?_|refine jT ?_|refine jU ?_)|((with_reducible refine jV ?hy fun K hK=>?_);case hy=>rfl));simp only [go_sem, Nat.reduceEqDiff, Nat.reduceAdd, Nat.reduceMul, Nat.reduceLeDiff, Nat.reduceLT, Int.reduceLT, Int.reduceLE, Int.reduceEq, Int.reduceNeg, Int.reduceToNat, Nat.reducePow, reduceIte, reduceCtorEq, i0, i1, i5, i8, ewl])|((with_reducible first|refine jW ?hy ?_|refine jY ?hy ?_);case hy=>rfl)|((with_reducible first|refine jX ?hy ?_|refine jZ ?hy ?_);case hy=>rfl)|((with_reducible refine jF ?hy ?_);case hy=>decide))
  refine apart_ok hN3 hL3 h0.lt hVk fun H4 N4 rows4 hN4 hL4 hf4 => ?_
  have hf14 := hf3.trans hf4
  have hd4 := h1.hd.frame hf14 h1.na.ne
  have m4 := h1.mp.choose_spec.frame hf14 (Ne.symm h1.ap.2.1)
  have fr4 := h1.fri.frame hf14 fun b hb (eb : b = g) => h1.ap.2.2.2.1 (by rw [hb, eb])
  have d2 := hd4.cellOf (i := 2) rfl
  repeat' (first|(with_reducible first|refine jA ?_|(refine hK _ _ ?_;clear hK K)|refine jJ fun K hK=>?_|refine jK ?_|refine jL ?_|refine jM ?_|refine jN ?_|refine jO ?_|refine jP ?_|refine jQ ?_|(refine jB ?_;clear hK K)|(refine jC ?_;clear hK K)|refine jD ?_|refine jE ?_|refine jG ?_|refine jH ?_|refine jI ?_)|((with_reducible refine jR ?hq ?_);case hq=>rfl)|((first|(with_reducible first|refine jS fun K hK=>?_|refine jT ?_|refine jU ?_)|((with_reducible refine jV ?hy fun K hK=>?_);case hy=>rfl));simp only [go_sem, Nat.reduceEqDiff, Nat.reduceAdd, Nat.reduceMul, Nat.reduceLeDiff, Nat.reduceLT, Int.reduceLT, Int.reduceLE, Int.reduceEq, Int.reduceNeg, Int.reduceToNat, Nat.reducePow, reduceIte, reduceCtorEq, i0, i1, i5, i8, d2])|((with_reducible first|refine jW ?hy ?_|refine jY ?hy ?_);case hy=>rfl)|((with_reducible first|refine jX ?hy ?_|refine jZ ?hy ?_);case hy=>rfl)|((with_reducible refine jF ?hy ?_);case hy=>decide))
  refine hp_delF (ty := 0) (vf := natV) mapT_ids kInt m4 id fun H5 hM5 hf5 _ _ => ?_
  have na5 := hN4.frame hf5 h1.ap.1 h1.ap.2.1
  have hd5 := hd4.frame hf5 h1.ap.1
  have fr5 := fr4.frame hf5 fun b hb (eb : b = r) => h1.ap.2.2.2.2 (by rw [hb, eb])
  have d1 := na5.hd
  have hn6 := putNd na5 hlt (x := Nd.zero) na5.z.1 na5.z.1 na5.z.1 na5.z.1
  simp only [Nd.zero, Ed.zero, Int.cast_ofNat_Int] at hn6
  obtain ⟨na6, f6⟩ := hn6
  have o0 := na5.okw0 hlt
  have o1 := na5.okw hlt 1 (by omega)
  have o2 := na5.okw hlt 2 (by omega)
  have o3 := na5.okw hlt 3 (by omega)
  have o4 := na5.okw hlt 4 (by omega)
  have o5 := na5.okw hlt 5 (by omega)
  have o6 := na5.okw hlt 6 (by omega)
  have o7 := na5.okw hlt 7 (by omega)
  have o8 := na5.okw hlt 8 (by omega)
  have o9 := na5.okw hlt 9 (by omega)
  have hd6 := hd5.frame f6 h1.na.ne
  have fr6 := fr5.frame f6 fun b hb (eb : b = g) => h1.ap.2.2.2.1 (by rw [hb, eb])
  have m6 := hM5.frame f6 (Ne.symm h1.ap.2.1)
  have hpar : setP (setP S.par h 0) k 0 = (S.cut h k).par := rfl
  rw [hpar] at hL4
  have hokc := hok.cutOk hh hk
  have hch : (S.cut h k).par h = 0 := by
   show setP (setP S.par h 0) k 0 h = 0
   rw [setP_ne _ (Ne.symm hkh), setP_same]
  have hcn : ∀ y, (S.cut h k).par y ≠ h := fun y => by
   show setP (setP S.par h 0) k 0 y ≠ h
   by_cases e1 : y = k
   ·rw [e1, setP_same]; omega
   ·rw [setP_ne _ e1]
    by_cases e2 : y = h
    ·rw [e2, setP_same]; omega
    ·rw [setP_ne _ e2]
     exact fun e3 => e1 (c5 y e3)
  obtain ⟨R, hR⟩ := hL4.alone hVh hch hcn
  have hL6 := (hL4.perm hR).drop hcn
  have hVc : (S.cut h k).V = fun i => S.V i ∧ i ≠ h := funext fun i => propext (by
   show ((1 ≤ i ∧ i ≤ S.n) ∨ (setE S.E h none i).isSome = true) ↔ ((1 ≤ i ∧ i ≤ S.n) ∨ (S.E i).isSome = true) ∧ i ≠ h
   by_cases ex : i = h
   ·rw [ex, setE_same]; simp; omega
   ·rw [setE_ne _ _ ex]; simp [ex])
  have hfl : fr.length < 4096 := by
   have h1 := len_bound (n := len) h0.frn fun x hx => (h0.free x hx).2.1
   have := h0.ln
   omega
  obtain ⟨fa, fc, hfa⟩ := fr6.slice
  subst hfa
  have hsz6 : H.size ≤ (hset (hset (hset (hset (hset (hset (hset (hset (hset (hset H5 ⟨g, h * 10, none⟩ (.int .i64 0)) ⟨g, h * 10 + 1, none⟩ (.int .i64 0)) ⟨g, h * 10 + 2, none⟩ (.int .i64 0)) ⟨g, h * 10 + 3, none⟩ (.bool false)) ⟨g, h * 10 + 4, none⟩ (.bool false)) ⟨g, h * 10 + 5, none⟩ (.int .i64 0))
   ⟨g, h * 10 + 6, none⟩ (.int .i64 0)) ⟨g, h * 10 + 7, none⟩ (.int .i64 0)) ⟨g, h * 10 + 8, none⟩ (.int .i64 0)) ⟨g, h * 10 + 9, none⟩ (.int .i64 0)).size := by
   have := hf14.size
   have := hf5.size
   have := f6.size
   omega
  have d3 := hd6.cellOf (i := 3) rfl
  repeat' (first|(with_reducible first|refine jA ?_|(refine hK _ _ ?_;clear hK K)|refine jJ fun K hK=>?_|refine jK ?_|refine jL ?_|refine jM ?_|refine jN ?_|refine jO ?_|refine jP ?_|refine jQ ?_|(refine jB ?_;clear hK K)|(refine jC ?_;clear hK K)|refine jD ?_|refine jE ?_|refine jG ?_|refine jH ?_|refine jI ?_)|((with_reducible refine jR ?hq ?_);case hq=>rfl)|((first|(with_reducible first|refine jS fun K hK=>?_|refine jT ?_|refine jU ?_)|((with_reducible refine jV ?hy fun K hK=>?_);case hy=>rfl));simp only [go_sem, Nat.reduceEqDiff, Nat.reduceAdd, Nat.reduceMul, Nat.reduceLeDiff, Nat.reduceLT, Int.reduceLT, Int.reduceLE, Int.reduceEq, Int.reduceNeg, Int.reduceToNat, Nat.reducePow, reduceIte, reduceCtorEq, i0, i1, i5, i8, d1, hlt, o0, o1, o2, o3, o4, o5, o6, o7, o8, o9, okW_hset])|((with_reducible first|refine jW ?hy ?_|refine jY ?hy ?_);case hy=>rfl)|((with_reducible first|refine jX ?hy ?_|refine jZ ?hy ?_);case hy=>rfl)|((with_reducible refine jF ?hy ?_);case hy=>decide))
  generalize hset _ _ _ = H6 at na6 f6 hd6 fr6 m6 d3 hsz6
  simp only [go_sem, Nat.reduceEqDiff, Nat.reduceAdd, Nat.reduceMul, Nat.reduceLeDiff, Nat.reduceLT, Int.reduceLT, Int.reduceLE, Int.reduceEq, Int.reduceNeg, Int.reduceToNat, Nat.reducePow, reduceIte, reduceCtorEq, d3]
  repeat' (first|(with_reducible first|refine jA ?_|(refine hK _ _ ?_;clear hK K)|refine jJ fun K hK=>?_|refine jK ?_|refine jL ?_|refine jM ?_|refine jN ?_|refine jO ?_|refine jP ?_|refine jQ ?_|(refine jB ?_;clear hK K)|(refine jC ?_;clear hK K)|refine jD ?_|refine jE ?_|refine jG ?_|refine jH ?_|refine jI ?_)|((with_reducible refine jR ?hq ?_);case hq=>rfl)|((first|(with_reducible first|refine jS fun K hK=>?_|refine jT ?_|refine jU ?_)|((with_reducible refine jV ?hy fun K hK=>?_);case hy=>rfl));simp only [go_sem, Nat.reduceEqDiff, Nat.reduceAdd, Nat.reduceMul, Nat.reduceLeDiff, Nat.reduceLT, Int.reduceLT, Int.reduceLE, Int.reduceEq, Int.reduceNeg, Int.reduceToNat, Nat.reducePow, reduceIte, reduceCtorEq, i5])|((with_reducible first|refine jW ?hy ?_|refine jY ?hy ?_);case hy=>rfl)|((with_reducible first|refine jX ?hy ?_|refine jZ ?hy ?_);case hy=>rfl)|((with_reducible refine jF ?hy ?_);case hy=>decide))
  refine append_ir elems34 tl3 fr6 rfl (by decide) (by simp [natsI]; omega) rfl ?_
  intro v' H8 B' hv8 hf8 hB8
  have hBt : ∀ b, Bf = some b → b ≠ t ∧ b ≠ g ∧ b ≠ r := fun b hb => ⟨fun e => h1.ap.2.2.1 (by rw [hb, e]), fun e => h1.ap.2.2.2.1 (by rw [hb, e]), fun e => h1.ap.2.2.2.2 (by rw [hb, e])⟩
  have hd8 := hd6.frame hf8 fun h => (hBt t h).1 rfl
  have w3 := hd8.okW (i := 3) (by simp)
  have hd9 := hd8.set_same 3 v'
  have f9 := hset_fr H8 t 3 v'
  have hrlt := m6.lt
  have hglt := na6.lt.2
  have htlt := na6.lt.1
  have hB't : ∀ b, B' = some b → b ≠ t ∧ b ≠ g ∧ b ≠ r ∧ (Bf = some b ∨ H6.size ≤ b) := fun b hb => by
   rcases hB8 with e | ⟨y, e1, e2⟩
   ·rw [e] at hb
    have := hBt b hb
    exact ⟨this.1, this.2.1, this.2.2, .inl hb⟩
   ·rw [e1] at hb
    obtain rfl := Option.some.inj hb
    exact ⟨by omega, by omega, by omega, .inr e2⟩
  have na9 : NA (hset H8 ⟨t, 3, none⟩ v') t g c len (upd N4 h Nd.zero) := by
   obtain ⟨rest, k1, k2⟩ := na6.nd
   exact ⟨hd9.cellOf rfl, ⟨rest, (k1.frame hf8 fun h => (hBt g h).2.1 rfl).frame f9 (Ne.symm na6.ne), k2⟩, na6.ne, na6.cl, na6.z⟩
  have m9 := (m6.frame hf8 fun h => (hBt r h).2.2 rfl).frame f9 (Ne.symm h1.ap.1)
  have hv9 := hv8.frame f9 fun b hb (e : b = t) => (hB't b hb).1 e
  obtain ⟨va, vc, hvs⟩ := hv8.slice
  subst hvs
  repeat' (first|(with_reducible first|refine jA ?_|(refine hK _ _ ?_;clear hK K)|refine jJ fun K hK=>?_|refine jK ?_|refine jL ?_|refine jM ?_|refine jN ?_|refine jO ?_|refine jP ?_|refine jQ ?_|(refine jB ?_;clear hK K)|(refine jC ?_;clear hK K)|refine jD ?_|refine jE ?_|refine jG ?_|refine jH ?_|refine jI ?_)|((with_reducible refine jR ?hq ?_);case hq=>rfl)|((first|(with_reducible first|refine jS fun K hK=>?_|refine jT ?_|refine jU ?_)|((with_reducible refine jV ?hy fun K hK=>?_);case hy=>rfl));simp only [go_sem, Nat.reduceEqDiff, Nat.reduceAdd, Nat.reduceMul, Nat.reduceLeDiff, Nat.reduceLT, Int.reduceLT, Int.reduceLE, Int.reduceEq, Int.reduceNeg, Int.reduceToNat, Nat.reducePow, reduceIte, reduceCtorEq, w3])|((with_reducible first|refine jW ?hy ?_|refine jY ?hy ?_);case hy=>rfl)|((with_reducible first|refine jX ?hy ?_|refine jZ ?hy ?_);case hy=>rfl)|((with_reducible refine jF ?hy ?_);case hy=>decide))
  refine fin _ (fun b => b = t ∨ b = g ∨ b = r ∨ B' = some b) ⟨g, c, len, r, B', _, upd N4 h Nd.zero, R, fun j => if j = id then none else ids j, fr ++ [h], ⟨hd9, na9, ⟨_, m9⟩, (by rw [natsI_append]; exact hv9), ⟨h1.ap.1, h1.ap.2.1, fun e => (hB't t e).1 rfl, fun e => (hB't g e).2.1 rfl, fun e => (hB't r e).2.2.1 rfl⟩, hokc, by rw [hVc]; exact hL6, fun i h' => ?_, fun y hy => ?_, ?_, fun y a b => ?_, fun y hy => ?_, h0.ln⟩, fun b => Iff.rfl⟩ ?_ (fun b hb => ?_)
  ·show (if i = id then none else ids i) = some h' ↔ ∃ e, setE S.E h none h' = some e ∧ e.id = i
   by_cases ei : i = id
   ·rw [if_pos ei]
    constructor
    ·intro h; cases h
    ·rintro ⟨y, y1, y2⟩
     by_cases ek : h' = h
     ·rw [ek, setE_same] at y1; cases y1
     ·rw [setE_ne _ _ ek] at y1
      exact absurd (hok.uq h' h y x y1 hh (by rw [y2, ei, hx])) ek
   ·rw [if_neg ei, h0.id i h']
    by_cases ek : h' = h
    ·rw [ek, setE_same]
     constructor
     ·rintro ⟨y, y1, y2⟩
      rw [hh] at y1
      obtain rfl := Option.some.inj y1
      exact absurd (y2.symm.trans hx) ei
     ·rintro ⟨y, y1, _⟩; cases y1
    ·rw [setE_ne _ _ ek]
  ·rcases List.mem_append.1 hy with hy | hy
   ·obtain ⟨y1, y2, y3⟩ := h0.free y hy
    refine ⟨y1, y2, ?_⟩
    show setE S.E h none y = none
    by_cases ek : y = h
    ·rw [ek, setE_same]
    ·rw [setE_ne _ _ ek]; exact y3
   ·obtain rfl := List.mem_singleton.1 hy
    exact ⟨(show S.n < y by omega), hlt, setE_same _ _ _⟩
  ·rw [List.nodup_append]
   refine ⟨h0.frn, by simp, fun y hy z hz => ?_⟩
   obtain rfl := List.mem_singleton.1 hz
   rintro rfl
   have := (h0.free y hy).2.2
   rw [hh] at this; cases this
  ·show (setE S.E h none y).isSome = true ∨ y ∈ fr ++ [h]
   by_cases ek : y = h
   ·exact .inr (by simp [ek])
   ·rw [setE_ne _ _ ek]
    exact (h0.all y a b).imp (fun h => h) fun h => List.mem_append_left _ h
  ·rw [hVc] at hy
   exact h0.lt y hy.1
  ·refine (((((f1.mono (S' := T) fun _ _ h => h.elim).trans (hf14.mono fun b _ eb => by rw [eb]; exact hTg)).trans (hf5.mono fun b _ eb => by rw [eb]; exact hTr)).trans (f6.mono fun b _ eb => by rw [eb]; exact hTg)).trans (hf8.mono fun b _ hb => (e b).2 (.inr (.inr (.inr hb))))).trans (f9.mono fun b _ eb => by rw [eb]; exact hTt)
  ·rcases hb with rfl | rfl | rfl | hb
   ·exact .inl hTt
   ·exact .inl hTg
   ·exact .inl hTr
   ·rcases (hB't b hb).2.2.2 with y1 | y1
    ·exact .inl ((e b).2 (.inr (.inr (.inr y1))))
    ·exact .inr (by omega)
 clear hKT
 rcases c4 with ⟨e1, e2⟩ | ⟨e1, e2⟩
 ·subst e1
  refine same_ok hN2 hL2 h0.lt hVu hVh rk rh fun H3 N3 rows3 hN3 hL3 hf3 => ?_
  simp only [decide_true]
  repeat' (first|(with_reducible first|refine jA ?_|(refine hK _ _ ?_;clear hK K)|refine jJ fun K hK=>?_|refine jK ?_|refine jL ?_|refine jM ?_|refine jN ?_|refine jO ?_|refine jP ?_|refine jQ ?_|(refine jB ?_;clear hK K)|(refine jC ?_;clear hK K)|refine jD ?_|refine jE ?_|refine jG ?_|refine jH ?_|refine jI ?_)|((with_reducible refine jR ?hq ?_);case hq=>rfl)|((first|(with_reducible first|refine jS fun K hK=>?_|refine jT ?_|refine jU ?_)|((with_reducible refine jV ?hy fun K hK=>?_);case hy=>rfl));simp only [go_sem, Nat.reduceEqDiff, Nat.reduceAdd, Nat.reduceMul, Nat.reduceLeDiff, Nat.reduceLT, Int.reduceLT, Int.reduceLE, Int.reduceEq, Int.reduceNeg, Int.reduceToNat, Nat.reducePow, reduceIte, reduceCtorEq])|((with_reducible first|refine jW ?hy ?_|refine jY ?hy ?_);case hy=>rfl)|((with_reducible first|refine jX ?hy ?_|refine jZ ?hy ?_);case hy=>rfl)|((with_reducible refine jF ?hy ?_);case hy=>decide))
  refine hK1 _ _ ?_
  clear hK1 K1
  repeat' (first|(with_reducible first|refine jA ?_|(refine hK _ _ ?_;clear hK K)|refine jJ fun K hK=>?_|refine jK ?_|refine jL ?_|refine jM ?_|refine jN ?_|refine jO ?_|refine jP ?_|refine jQ ?_|(refine jB ?_;clear hK K)|(refine jC ?_;clear hK K)|refine jD ?_|refine jE ?_|refine jG ?_|refine jH ?_|refine jI ?_)|((with_reducible refine jR ?hq ?_);case hq=>rfl)|((first|(with_reducible first|refine jS fun K hK=>?_|refine jT ?_|refine jU ?_)|((with_reducible refine jV ?hy fun K hK=>?_);case hy=>rfl));simp only [go_sem, Nat.reduceEqDiff, Nat.reduceAdd, Nat.reduceMul, Nat.reduceLeDiff, Nat.reduceLT, Int.reduceLT, Int.reduceLE, Int.reduceEq, Int.reduceNeg, Int.reduceToNat, Nat.reducePow, reduceIte, reduceCtorEq])|((with_reducible first|refine jW ?hy ?_|refine jY ?hy ?_);case hy=>rfl)|((with_reducible first|refine jX ?hy ?_|refine jZ ?hy ?_);case hy=>rfl)|((with_reducible refine jF ?hy ?_);case hy=>decide))
  refine tail _ _ N3 rows3 xu ?_ ?_ ?_ ?_ rfl hN3 hL3 (hf2.trans hf3) <;> rfl
 ·subst e2
  refine same_ok hN2 hL2 h0.lt hVu hVh hrp rh fun H3 N3 rows3 hN3 hL3 hf3 => ?_
  rw [decide_eq_false hrpn]
  have qv3 := (hf3.cell (a := ⟨H.size, 2, none⟩) (hcell_lt qv) (by exact hne2)).trans qv
  repeat' (first|(with_reducible first|refine jA ?_|(refine hK _ _ ?_;clear hK K)|refine jJ fun K hK=>?_|refine jK ?_|refine jL ?_|refine jM ?_|refine jN ?_|refine jO ?_|refine jP ?_|refine jQ ?_|(refine jB ?_;clear hK K)|(refine jC ?_;clear hK K)|refine jD ?_|refine jE ?_|refine jG ?_|refine jH ?_|refine jI ?_)|((with_reducible refine jR ?hq ?_);case hq=>rfl)|((first|(with_reducible first|refine jS fun K hK=>?_|refine jT ?_|refine jU ?_)|((with_reducible refine jV ?hy fun K hK=>?_);case hy=>rfl));simp only [go_sem, Nat.reduceEqDiff, Nat.reduceAdd, Nat.reduceMul, Nat.reduceLeDiff, Nat.reduceLT, Int.reduceLT, Int.reduceLE, Int.reduceEq, Int.reduceNeg, Int.reduceToNat, Nat.reducePow, reduceIte, reduceCtorEq, qv3])|((with_reducible first|refine jW ?hy ?_|refine jY ?hy ?_);case hy=>rfl)|((with_reducible first|refine jX ?hy ?_|refine jZ ?hy ?_);case hy=>rfl)|((with_reducible refine jF ?hy ?_);case hy=>decide))
  refine hK1 _ _ ?_
  clear hK1 K1
  repeat' (first|(with_reducible first|refine jA ?_|(refine hK _ _ ?_;clear hK K)|refine jJ fun K hK=>?_|refine jK ?_|refine jL ?_|refine jM ?_|refine jN ?_|refine jO ?_|refine jP ?_|refine jQ ?_|(refine jB ?_;clear hK K)|(refine jC ?_;clear hK K)|refine jD ?_|refine jE ?_|refine jG ?_|refine jH ?_|refine jI ?_)|((with_reducible refine jR ?hq ?_);case hq=>rfl)|((first|(with_reducible first|refine jS fun K hK=>?_|refine jT ?_|refine jU ?_)|((with_reducible refine jV ?hy fun K hK=>?_);case hy=>rfl));simp only [go_sem, Nat.reduceEqDiff, Nat.reduceAdd, Nat.reduceMul, Nat.reduceLeDiff, Nat.reduceLT, Int.reduceLT, Int.reduceLE, Int.reduceEq, Int.reduceNeg, Int.reduceToNat, Nat.reducePow, reduceIte, reduceCtorEq])|((with_reducible first|refine jW ?hy ?_|refine jY ?hy ?_);case hy=>rfl)|((with_reducible first|refine jX ?hy ?_|refine jZ ?hy ?_);case hy=>rfl)|((with_reducible refine jF ?hy ?_);case hy=>decide))
  simp only [go_sem, Nat.reduceEqDiff, Nat.reduceAdd, Nat.reduceMul, Nat.reduceLeDiff, Nat.reduceLT, Int.reduceLT, Int.reduceLE, Int.reduceEq, Int.reduceNeg, Int.reduceToNat, Nat.reducePow, reduceIte, reduceCtorEq, qv3]
  repeat' (first|(with_reducible first|refine jA ?_|(refine hK _ _ ?_;clear hK K)|refine jJ fun K hK=>?_|refine jK ?_|refine jL ?_|refine jM ?_|refine jN ?_|refine jO ?_|refine jP ?_|refine jQ ?_|(refine jB ?_;clear hK K)|(refine jC ?_;clear hK K)|refine jD ?_|refine jE ?_|refine jG ?_|refine jH ?_|refine jI ?_)|((with_reducible refine jR ?hq ?_);case hq=>rfl)|((first|(with_reducible first|refine jS fun K hK=>?_|refine jT ?_|refine jU ?_)|((with_reducible refine jV ?hy fun K hK=>?_);case hy=>rfl));simp only [go_sem, Nat.reduceEqDiff, Nat.reduceAdd, Nat.reduceMul, Nat.reduceLeDiff, Nat.reduceLT, Int.reduceLT, Int.reduceLE, Int.reduceEq, Int.reduceNeg, Int.reduceToNat, Nat.reducePow, reduceIte, reduceCtorEq])|((with_reducible first|refine jW ?hy ?_|refine jY ?hy ?_);case hy=>rfl)|((with_reducible first|refine jX ?hy ?_|refine jZ ?hy ?_);case hy=>rfl)|((with_reducible refine jF ?hy ?_);case hy=>decide))
  refine tail _ _ N3 rows3 xv ?_ ?_ ?_ ?_ e1.symm hN3 hL3 (hf2.trans hf3) <;> rfl
end
end Go.Proofs.Ytafehbegoanajaa
namespace Go.Li
open Go Go.Hp
theorem rep_zero : ∀ n : Nat, repL n Nd.zero.cells = rowsN (fun _ => Nd.zero) n
  | 0 => rfl
  | n + 1 => by
    have h := rep_zero n
    show Nd.zero.cells ++ repL n Nd.zero.cells = _
    rw [h]
    unfold rowsN
    rw [show List.range (n + 1) = 0 :: (List.range n).map (· + 1) from List.range_succ_eq_map ..]
    simp [List.flatMap_map]
def Ls.new (n : Nat) : Ls := ⟨n, fun _ => none, fun _ => 0⟩
theorem Ls.new_uq (n : Nat) : Uniq (Ls.new n).E := fun x y a b ha => by cases ha
theorem Ls.new_ok' {n : Nat} (h1 : 1 ≤ n) (h2 : n ≤ 64) : (Ls.new n).Ok where
  n1 := h1
  n64 := h2
  uq := Ls.new_uq n
  en := fun h e he => by cases he
  ad := fun h e y he => by cases he
  vx := fun a y _ _ h => by rcases h with ⟨e, h0⟩ | ⟨e, h0⟩
                            · exact absurd e.symm h0
                            · have : (0 : Nat) = a := e
                              omega
  ac := fun h _ => ⟨[h], .root rfl⟩
  cl := fun h _ => .inl rfl
  dd := fun h _ => rfl
theorem lone_V {n h : Nat} : (Ls.new n).V h ↔ 1 ≤ h ∧ h ≤ n := by
  show ((1 ≤ h ∧ h ≤ n) ∨ false = true) ↔ _
  simp
theorem lone_LC {n : Nat} : LC (fun _ => Nd.zero) (Ls.new n).E (Ls.new n).par ((List.range' 1 n).map fun i => [i]) (Ls.new n).V where
  eok := ⟨fun h => rfl, fun h x hx => (by cases hx), (Ls.new_uq n)⟩
  z := rfl
  v0 := fun h => by have := (lone_V.1 h).1; omega
  trees := fun xs hx => by
    obtain ⟨i, hi, rfl⟩ := List.mem_map.1 hx
    have := (List.mem_range'_1.1 hi).1
    exact ⟨.node .nil i .nil, ⟨by omega, rfl, rfl, rfl, .inl ⟨rfl, fun x hx => rfl⟩, trivial, trivial⟩, rfl⟩
  link := fun xs hx => by
    obtain ⟨i, hi, rfl⟩ := List.mem_map.1 hx
    trivial
  ne := fun xs hx => by
    obtain ⟨i, hi, rfl⟩ := List.mem_map.1 hx
    simp
  nd := by
    rw [← List.flatMap_def, List.flatMap_singleton']
    exact List.nodup_range'
  use := fun h => by
    rw [← List.flatMap_def, List.flatMap_singleton', List.mem_range'_1, lone_V]
    omega
  cl := fun h _ => .inl rfl
  ac := fun h _ => ⟨[h], .root rfl⟩
end Go.Li
namespace Go.Proofs.Ytafehbegoanajaa
open Go Go.Hp Go.Li
set_option linter.all false
set_option maxRecDepth 100000
set_option maxHeartbeats 1600000
section
variable {H H' : Heap} {t g c len r : Nat} {Bf : Option Nat} {vf : Value} {S : Ls} {N N' : Nodes} {rows rows' : List (List Nat)} {ids : Int → Option Nat} {fr : List Nat} {T : Nat → Prop} {K : Value → Heap → Prop}
theorem lnew_no {n : Int} (hn : n < 1 ∨ 64 < n) (fin : K (.tuple #[.pointer none, .int .i64 1]) H) : CallsH Try.prog 28 #[.int .i64 n] H K := by
  refine call28 (by simp) ?_
  simp only [Try.f28, Option.getD_some]
  by_cases h0 : n < 1
  · have e1 : (n < 1) = True := by simp [h0]
    repeat' (first|(with_reducible first|refine jA ?_|(refine hK _ _ ?_;clear hK K)|refine jJ fun K hK=>?_|refine jK ?_|refine jL ?_|refine jM ?_|refine jN ?_|refine jO ?_|refine jP ?_|refine jQ ?_|(refine jB ?_;clear hK K)|(refine jC ?_;clear hK K)|refine jD ?_|refine jE ?_|refine jG ?_|refine jH ?_|refine jI ?_)|((with_reducible refine jR ?hq ?_);case hq=>rfl)|((first|(with_reducible first|refine jS fun K hK=>?_|refine jT ?_|refine jU ?_)|((with_reducible refine jV ?hy fun K hK=>?_);case hy=>rfl));simp only [go_sem, Nat.reduceEqDiff, Nat.reduceAdd, Nat.reduceMul, Nat.reduceLeDiff, Nat.reduceLT, Int.reduceLT, Int.reduceLE, Int.reduceEq, Int.reduceNeg, Int.reduceToNat, Nat.reducePow, reduceIte, reduceCtorEq, e1])|((with_reducible first|refine jW ?hy ?_|refine jY ?hy ?_);case hy=>rfl)|((with_reducible first|refine jX ?hy ?_|refine jZ ?hy ?_);case hy=>rfl)|((with_reducible refine jF ?hy ?_);case hy=>decide))
    exact fin
  · have e1 : (n < 1) = False := by simp [h0]
    have e2 : (64 < n) = True := by simp; omega
    repeat' (first|(with_reducible first|refine jA ?_|(refine hK _ _ ?_;clear hK K)|refine jJ fun K hK=>?_|refine jK ?_|refine jL ?_|refine jM ?_|refine jN ?_|refine jO ?_|refine jP ?_|refine jQ ?_|(refine jB ?_;clear hK K)|(refine jC ?_;clear hK K)|refine jD ?_|refine jE ?_|refine jG ?_|refine jH ?_|refine jI ?_)|((with_reducible refine jR ?hq ?_);case hq=>rfl)|((first|(with_reducible first|refine jS fun K hK=>?_|refine jT ?_|refine jU ?_)|((with_reducible refine jV ?hy fun K hK=>?_);case hy=>rfl));simp only [go_sem, Nat.reduceEqDiff, Nat.reduceAdd, Nat.reduceMul, Nat.reduceLeDiff, Nat.reduceLT, Int.reduceLT, Int.reduceLE, Int.reduceEq, Int.reduceNeg, Int.reduceToNat, Nat.reducePow, reduceIte, reduceCtorEq, e1, e2])|((with_reducible first|refine jW ?hy ?_|refine jY ?hy ?_);case hy=>rfl)|((with_reducible first|refine jX ?hy ?_|refine jZ ?hy ?_);case hy=>rfl)|((with_reducible refine jF ?hy ?_);case hy=>decide))
    exact fin
theorem opX_make {P : Program} {o : Oper} {ρ : Operand → Value} {H : Heap} {K : Value → Heap → Prop} {t e : TypeId} {l c : Operand} {n : Nat} {te : TL} {k1 k2 : IntKind} {ln cn : Int} (ho : o.op = .makeSlice t l c) (he : elems P t = some (none, e, n)) (ht : tl P e = some te) (hl : ρ l = .int k1 ln) (hc : ρ c = .int k2 cn)
    (h0 : 0 ≤ ln) (h1 : ln ≤ cn) (hb : 0 < te.bytes) (hs : cn.toNat * te.bytes ≤ 281474976710656) (hk : K (.slice (some ⟨H.size, 0, none⟩) ln.toNat cn.toNat) (H.push (.cells (repL cn.toNat te.zero.cells.toList).toArray e))) : opX P o ρ H K := by
  unfold opX
  rw [ho]
  simp only [isRdOp, he, ht, hl, hc, intX]
  exact ⟨h0, h1, hb, hs, hk⟩
theorem lnew_ok {n : Nat} (h1 : 1 ≤ n) (h2 : n ≤ 64) (fin : ∀ H' t T, LtM H' t T (Ls.new n) → Fr (fun _ => False) H H' → (∀ b, T b → H.size ≤ b) → K (.tuple #[.pointer (some ⟨t, 0, none⟩), .int .i64 0]) H') :
    CallsH Try.prog 28 #[.int .i64 (n : Nat)] H K := by
  have e1 : ((n : Int) < 1) = False := by simp; omega
  have e2 : (64 < (n : Int)) = False := by simp; omega
  have e1' : (n < 1) = False := by simp; omega
  have e2' : (64 < n) = False := by simp; omega
  have ew : IntKind.i64.wrap ((n : Int) + 1) = ((n + 1 : Nat) : Int) := by rw [wrap_i64] <;> omega
  refine call28 (by simp) ?_
  simp only [Try.f28, Option.getD_some]
  repeat' (first|(with_reducible first|refine jA ?_|(refine hK _ _ ?_;clear hK K)|refine jJ fun K hK=>?_|refine jK ?_|refine jL ?_|refine jM ?_|refine jN ?_|refine jO ?_|refine jP ?_|refine jQ ?_|(refine jB ?_;clear hK K)|(refine jC ?_;clear hK K)|refine jD ?_|refine jE ?_|refine jG ?_|refine jH ?_|refine jI ?_)|((with_reducible refine jR ?hq ?_);case hq=>rfl)|((first|(with_reducible first|refine jS fun K hK=>?_|refine jT ?_|refine jU ?_)|((with_reducible refine jV ?hy fun K hK=>?_);case hy=>rfl));simp only [go_sem, Nat.reduceEqDiff, Nat.reduceAdd, Nat.reduceMul, Nat.reduceLeDiff, Nat.reduceLT, Int.reduceLT, Int.reduceLE, Int.reduceEq, Int.reduceNeg, Int.reduceToNat, Nat.reducePow, reduceIte, reduceCtorEq, e1, e2, e1', e2', ew])|((with_reducible first|refine jW ?hy ?_|refine jY ?hy ?_);case hy=>rfl)|((with_reducible first|refine jX ?hy ?_|refine jZ ?hy ?_);case hy=>rfl)|((with_reducible refine jF ?hy ?_);case hy=>decide))
  refine ⟨Nat.le_refl _, by omega, ?_⟩
  have hrep := rep_zero (n + 1)
  have hb1 : Blk (H.push (.cells (repL (n + 1) Nd.zero.cells).toArray 93)) H.size (rowsN (fun _ => Nd.zero) (n + 1)) := by rw [hrep]; exact Blk.new H _ _
  change K _ (H.push (.cells (repL (n + 1) Nd.zero.cells).toArray 93))
  generalize hH1 : H.push _ = H1 at hb1 ⊢
  have f1 : Fr (fun _ => False) H H1 := by rw [← hH1]; exact (Fr.refl _ _).push _
  have z1 : H1.size = H.size + 1 := by rw [← hH1]; simp
  clear hH1
  repeat' (first|(with_reducible first|refine jA ?_|(refine hK _ _ ?_;clear hK K)|refine jJ fun K hK=>?_|refine jK ?_|refine jL ?_|refine jM ?_|refine jN ?_|refine jO ?_|refine jP ?_|refine jQ ?_|(refine jB ?_;clear hK K)|(refine jC ?_;clear hK K)|refine jD ?_|refine jE ?_|refine jG ?_|refine jH ?_|refine jI ?_)|((with_reducible refine jR ?hq ?_);case hq=>rfl)|((first|(with_reducible first|refine jS fun K hK=>?_|refine jT ?_|refine jU ?_)|((with_reducible refine jV ?hy fun K hK=>?_);case hy=>rfl));simp only [go_sem, Nat.reduceEqDiff, Nat.reduceAdd, Nat.reduceMul, Nat.reduceLeDiff, Nat.reduceLT, Int.reduceLT, Int.reduceLE, Int.reduceEq, Int.reduceNeg, Int.reduceToNat, Nat.reducePow, reduceIte, reduceCtorEq])|((with_reducible first|refine jW ?hy ?_|refine jY ?hy ?_);case hy=>rfl)|((with_reducible first|refine jX ?hy ?_|refine jZ ?hy ?_);case hy=>rfl)|((with_reducible refine jF ?hy ?_);case hy=>decide))
  generalize hH2 : H1.push (Obj.map #[] 0) = H2
  generalize hH3 : H2.push _ = H3
  have f12 : Fr (fun _ => False) H1 H2 := by rw [← hH2]; exact (Fr.refl _ _).push _
  have f23 : Fr (fun _ => False) H2 H3 := by rw [← hH3]; exact (Fr.refl _ _).push _
  have f13 := f12.trans f23
  have s2 : H2.size = H1.size + 1 := by rw [← hH2]; simp
  have s3 : H3.size = H2.size + 1 := by rw [← hH3]; simp
  have b3 : Blk H3 H2.size [.int .i64 n, .slice (some ⟨H.size, 0, none⟩) (n + 1) (n + 1), .map (some H1.size), .slice none 0 0] := by rw [← hH3]; exact Blk.new H2 [.int .i64 n, .slice (some ⟨H.size, 0, none⟩) (n + 1) (n + 1), .map (some H1.size), .slice none 0 0] _
  have m1 : MapF intK natV H3 H1.size (fun _ => none) 0 := by
    have : MapF intK natV H2 H1.size (fun _ => none) 0 := by rw [← hH2]; exact MapF.make _ _ _
    exact this.frame f23 fun h => h
  clear hH2 hH3
  refine fin _ _ (fun b => b = H2.size ∨ b = H.size ∨ b = H1.size ∨ (none : Option Nat) = some b) ⟨H.size, n + 1, n + 1, H1.size, none, _, fun _ => Nd.zero, _, fun _ => none, [], ⟨b3, ⟨b3.cellOf rfl, ⟨[], by rw [List.append_nil]; exact hb1.frame f13 fun h => h, by simp, Nat.le_refl _⟩, by omega, ⟨fun h _ => Nat.succ_pos n, fun h _ => Nat.succ_pos n, fun h _ => Nat.succ_pos n, fun h _ => Nat.succ_pos n⟩, by omega, by omega⟩, ⟨_, m1⟩, IR.nil _, ⟨by omega, by omega, nofun, nofun, nofun⟩, Ls.new_ok' h1 h2, lone_LC, fun i h => ?_, nofun, .nil, fun h a b => ?_, fun h hV => ?_, by omega⟩, fun b => Iff.rfl⟩ (f1.trans f13) fun b hb => ?_
  · constructor
    · intro h; cases h
    · rintro ⟨e, h, _⟩; cases h
  · exact absurd (show n < h from a) (by omega)
  · have := (lone_V.1 hV).2; omega
  · rcases hb with rfl | rfl | rfl | hb
    · omega
    · omega
    · omega
    · cases hb
end
end Go.Proofs.Ytafehbegoanajaa
