/-
  Linked trees: what each call answers, told once for the program's and for the document's.
  Calls of a script of law05, as they came in.
  LinkcutPlays: a side; one call on it, and what the document says.
  The document's linked trees: New.
-/
import Derived.Test.YtoplhfhjokjbiaaG5
import Derived.Test.YtoplhfhjokjbiaaG3
import Derived.Test.YtoplhfhjokjbiaaG4
import Derived.Test.YtoplhfhjokjbiaaHpSd
namespace Go.Li
open Go Go.Hp
open Go.Proofs.Ytoplhfhjokjbiaa (okArg inB)
def TwoIn (S : Ls) (u v : Int) : Prop := (inB S.n u && inB S.n v) = true
def LinkR (S : Ls) (u v id w c : Int) (S' : Ls) : Prop :=
 (c = 50 ∧ S' = S ∧ (inB S.n u && inB S.n v) = false) ∨ (c = 1 ∧ S' = S ∧ TwoIn S u v ∧ okArg id w = false) ∨ (c = 52 ∧ S' = S ∧ TwoIn S u v ∧ okArg id w = true ∧ ∃ g e, S.E g = some e ∧ e.id = id) ∨
 ∃ a b ra rb : Nat, u = a ∧ v = b ∧ a < S.n ∧ b < S.n ∧ okArg id w = true ∧ (∀ g e, S.E g = some e → e.id ≠ id) ∧ RootOf S.par (a + 1) (ra + 1) ∧ RootOf S.par (b + 1) (rb + 1) ∧
  ((c = 51 ∧ S' = S ∧ ra = rb) ∨ (c = 0 ∧ ra ≠ rb ∧ ∃ l g, Ch S.par (a + 1) l ∧ S.n < g ∧ S.E g = none ∧ S' = S.link l g ⟨id, (a : Nat), (b : Nat), w⟩))
def CutR (S : Ls) (id c : Int) (S' : Ls) : Prop :=
 (c = 53 ∧ S' = S ∧ ∀ g e, S.E g = some e → e.id ≠ id) ∨ (c = 0 ∧ ∃ g e k, S.E g = some e ∧ e.id = id ∧ S.par (k + 1) = g ∧ k < S.n ∧ S' = S.cut g (k + 1))
def EvertR (S : Ls) (v c : Int) (S' : Ls) : Prop :=
 (c = 50 ∧ S' = S ∧ inB S.n v = false) ∨ (c = 0 ∧ ∃ (a : Nat) (l : List Nat), v = a ∧ a < S.n ∧ Ch S.par (a + 1) l ∧ S' = S.ev l)
def RootR (S : Ls) (v r c : Int) : Prop :=
 (c = 50 ∧ r = 0 ∧ inB S.n v = false) ∨ (c = 0 ∧ ∃ a b : Nat, v = a ∧ a < S.n ∧ RootOf S.par (a + 1) (b + 1) ∧ r = b)
def SameR (S : Ls) (u v : Int) (is : Bool) (c : Int) : Prop :=
 (c = 50 ∧ is = false ∧ (inB S.n u && inB S.n v) = false) ∨ (c = 0 ∧ ∃ a b ra rb : Nat, u = a ∧ v = b ∧ a < S.n ∧ b < S.n ∧ RootOf S.par (a + 1) (ra + 1) ∧ RootOf S.par (b + 1) (rb + 1) ∧ is = decide (ra + 1 = rb + 1))
def MostR (S : Ls) (u v : Int) (e : Ed) (c : Int) : Prop :=
 (c = 50 ∧ e = Ed.zero ∧ (inB S.n u && inB S.n v) = false) ∨ ∃ a b ra rb : Nat, u = a ∧ v = b ∧ a < S.n ∧ b < S.n ∧ RootOf S.par (a + 1) (ra + 1) ∧ RootOf S.par (b + 1) (rb + 1) ∧
  ((c = 54 ∧ e = Ed.zero ∧ (ra ≠ rb ∨ a = b)) ∨ (c = 0 ∧ ra = rb ∧ a ≠ b ∧ ∃ P, SP S.par (a + 1) (b + 1) P ∧ IsMost S.E P e))
def PathR (S : Ls) (u v : Int) (zs : List Int) (c : Int) : Prop :=
 (c = 50 ∧ zs = [] ∧ (inB S.n u && inB S.n v) = false) ∨ ∃ a b ra rb : Nat, u = a ∧ v = b ∧ a < S.n ∧ b < S.n ∧ RootOf S.par (a + 1) (ra + 1) ∧ RootOf S.par (b + 1) (rb + 1) ∧
  ((c = 54 ∧ zs = [] ∧ ra ≠ rb) ∨ (c = 0 ∧ ra = rb ∧ ∃ P, SP S.par (a + 1) (b + 1) P ∧ zs = outI S.E P))
theorem two_in {S : Ls} {u v : Int} : (inB S.n u && inB S.n v) = false ∨ ∃ a b : Nat, u = a ∧ v = b ∧ a < S.n ∧ b < S.n ∧ TwoIn S u v := by
 cases h1 : inB S.n u with
 | false => exact .inl rfl
 | true => cases h2 : inB S.n v with
  | false => exact .inl rfl
  | true =>
   obtain ⟨a, ha, ha'⟩ := Go.Proofs.Ytoplhfhjokjbiaa.inB_nat h1
   obtain ⟨b, hb, hb'⟩ := Go.Proofs.Ytoplhfhjokjbiaa.inB_nat h2
   exact .inr ⟨a, b, ha, hb, ha', hb', by unfold TwoIn; rw [h1, h2]; rfl⟩
end Go.Li
namespace Go.Proofs.Ytoplhfhjokjbiaa
open Go Go.Hp Go.Li
set_option linter.all false
set_option maxRecDepth 100000
set_option maxHeartbeats 1600000
section
variable {H : Heap} {t x : Nat} {T : Nat → Prop} {S S' : Ls} {K : Value → Heap → Prop} {u v id w c r : Int}
theorem p_link (h : LtM H t T S) (fin : ∀ H' T' S' c, LinkR S u v id w c S' → LtM H' t T' S' → Fr T H H' → (∀ b, T' b → T b ∨ H.size ≤ b) → K (.int .i64 c) H') :
  CallsH Try.prog 10 #[.pointer (some ⟨t, 0, none⟩), .int .i64 u, .int .i64 v, .int .i64 id, .int .i64 w] H K := by
 have k := h.ok
 rcases two_in (S := S) (u := u) (v := v) with h1 | ⟨a, b, rfl, rfl, ha, hb, h1⟩
 ·exact link_out h h1 fun H' hM hf => fin _ _ _ _ (.inl ⟨rfl, rfl, h1⟩) hM hf fun _ h => .inl h
 cases h2 : okArg id w with
 | false => exact link_arg h h1 h2 fun H' hM hf => fin _ _ _ _ (.inr (.inl ⟨rfl, rfl, h1, h2⟩)) hM hf fun _ h => .inl h
 | true =>
  by_cases h3 : ∃ g e, S.E g = some e ∧ e.id = id
  ·obtain ⟨g, e, h4, h5⟩ := _root_.id h3
   exact link_twice h h1 h2 h4 h5 fun H' hM hf => fin _ _ _ _ (.inr (.inr (.inl ⟨rfl, rfl, h1, h2, h3⟩))) hM hf fun _ h => .inl h
  ·have hid : ∀ g e, S.E g = some e → e.id ≠ id := fun g e h4 h5 => h3 ⟨g, e, h4, h5⟩
   obtain ⟨ra, hra, _⟩ := k.root_at ha
   obtain ⟨rb, hrb, _⟩ := k.root_at hb
   by_cases h6 : ra = rb
   ·subst h6
    exact link_same h ha hb h2 hid hra hrb fun H' hM hf => fin _ _ _ _ (.inr (.inr (.inr ⟨a, b, ra, ra, rfl, rfl, ha, hb, h2, hid, hra, hrb, .inl ⟨rfl, rfl, rfl⟩⟩))) hM hf fun _ h => .inl h
   ·obtain ⟨l, hl, hlast⟩ := _root_.id hra
    have h1 := ev_root hl (by omega) hlast hrb
    rw [if_neg (by omega)] at h1
    obtain ⟨lv, hlv, hlvl⟩ := h1
    have p0 : Li.ev S.par 0 l (a + 1) = 0 := by obtain ⟨r, rfl⟩ := hl.head; exact ev_head
    have hul : a + 1 ∉ lv := fun hm => by
     have e1 := hlv.root_last hlvl hm p0
     have h0 := hrb.zero
     rw [← e1] at h0
     have := (RootOf.self h0).uniq hra
     omega
    exact link_ok h ha hb h2 hid hra hrb (by omega) hl hlv hul fun H' T' g hM hg hE hf hT => fin _ _ _ _ (.inr (.inr (.inr ⟨a, b, ra, rb, rfl, rfl, ha, hb, h2, hid, hra, hrb, .inr ⟨rfl, h6, l, g, hl, hg, hE, rfl⟩⟩))) hM hf hT
theorem d_link (h : RXM H x T S) (k : S.Ok) (hr : LinkR S u v id w c S') (fin : ∀ H', RXM H' x T S' → Fr T H H' → K (.int .i64 c) H') :
  CallsH Try.prog 33 #[.pointer (some ⟨x, 0, none⟩), .int .i64 u, .int .i64 v, .int .i64 id, .int .i64 w] H K := by
 rcases hr with ⟨rfl, rfl, h1⟩ | ⟨rfl, rfl, h1, h2⟩ | ⟨rfl, rfl, h1, h2, g, e, h4, h5⟩ | ⟨a, b, ra, rb, rfl, rfl, ha, hb, h2, hid, hra, hrb, ⟨rfl, rfl, rfl⟩ | ⟨rfl, hne, l, g, hl, hg, hE, rfl⟩⟩
 ·exact xl_out h h1 (fin _ h (Fr.refl _ _))
 ·exact xl_arg h h1 h2 (fin _ h (Fr.refl _ _))
 ·exact xl_twice h k h1 h2 h4 h5 (fin _ h (Fr.refl _ _))
 ·exact xl_same h k ha hb h2 hid hra hrb (fin _ h (Fr.refl _ _))
 ·exact xl_ok h k ha hb h2 hid hra hrb hne hl hg hE fin
theorem p_cut (h : LtM H t T S) (fin : ∀ H' T' S' c, CutR S id c S' → LtM H' t T' S' → Fr T H H' → (∀ b, T' b → T b ∨ H.size ≤ b) → K (.int .i64 c) H') :
  CallsH Try.prog 22 #[.pointer (some ⟨t, 0, none⟩), .int .i64 id] H K := by
 have k := h.ok
 by_cases h3 : ∃ g e, S.E g = some e ∧ e.id = id
 ·obtain ⟨g, e, h4, h5⟩ := h3
  obtain ⟨a, h6, h7, _⟩ := k.has1_of h4 h5
  exact cut_ok h h4 h5 h7 fun H' T' hM hf hT => fin _ _ _ _ (.inr ⟨rfl, g, e, a, h4, h5, h7, h6, rfl⟩) hM hf hT
 ·have hid : ∀ g e, S.E g = some e → e.id ≠ id := fun g e h4 h5 => h3 ⟨g, e, h4, h5⟩
  exact cut_bad h hid fun H' hM hf => fin _ _ _ _ (.inl ⟨rfl, rfl, hid⟩) hM hf fun _ h => .inl h
theorem d_cut (h : RXM H x T S) (k : S.Ok) (hr : CutR S id c S') (fin : ∀ H', RXM H' x T S' → Fr T H H' → K (.int .i64 c) H') :
  CallsH Try.prog 34 #[.pointer (some ⟨x, 0, none⟩), .int .i64 id] H K := by
 rcases hr with ⟨rfl, rfl, h1⟩ | ⟨rfl, g, e, a, h4, h5, h7, h6, rfl⟩
 ·exact xc_bad h k h1 (fin _ h (Fr.refl _ _))
 ·exact xc_ok h k h4 h5 h7 h6 fin
theorem p_evert (h : LtM H t T S) (fin : ∀ H' S' c, EvertR S v c S' → LtM H' t T S' → Fr T H H' → K (.int .i64 c) H') :
  CallsH Try.prog 17 #[.pointer (some ⟨t, 0, none⟩), .int .i64 v] H K := by
 cases h1 : inB S.n v with
 | false => exact m_evert_bad h h1 fun H' hM hf => fin _ _ _ (.inl ⟨rfl, rfl, h1⟩) hM hf
 | true =>
  obtain ⟨a, rfl, ha⟩ := inB_nat h1
  obtain ⟨l, hl⟩ := h.ok.ac (a + 1) (Ls.vtx ha)
  exact m_evert h ha hl fun H' hM hf => fin _ _ _ (.inr ⟨rfl, a, l, rfl, ha, hl, rfl⟩) hM hf
theorem d_evert (h : RXM H x T S) (k : S.Ok) (hr : EvertR S v c S') (fin : ∀ H', RXM H' x T S' → Fr T H H' → K (.int .i64 c) H') :
  CallsH Try.prog 35 #[.pointer (some ⟨x, 0, none⟩), .int .i64 v] H K := by
 rcases hr with ⟨rfl, rfl, h1⟩ | ⟨rfl, a, l, rfl, ha, hl, rfl⟩
 ·exact xe_bad h h1 (fin _ h (Fr.refl _ _))
 ·exact xe_ok h k ha hl fin
theorem p_root (h : LtM H t T S) (fin : ∀ H' r c, RootR S v r c → LtM H' t T S → Fr T H H' → K (.tuple #[.int .i64 r, .int .i64 c]) H') :
  CallsH Try.prog 16 #[.pointer (some ⟨t, 0, none⟩), .int .i64 v] H K := by
 cases h1 : inB S.n v with
 | false => exact m_root_bad h h1 fun H' hM hf => fin _ _ _ (.inl ⟨rfl, rfl, h1⟩) hM hf
 | true =>
  obtain ⟨a, rfl, ha⟩ := inB_nat h1
  obtain ⟨b, hb, _⟩ := h.ok.root_at ha
  exact m_root h ha hb fun H' hM hf => fin _ _ _ (.inr ⟨rfl, a, b, rfl, ha, hb, rfl⟩) hM hf
theorem d_root (h : RXM H x T S) (k : S.Ok) (hr : RootR S v r c) (fin : K (.tuple #[.int .i64 r, .int .i64 c]) H) :
  CallsH Try.prog 36 #[.pointer (some ⟨x, 0, none⟩), .int .i64 v] H K := by
 rcases hr with ⟨rfl, rfl, h1⟩ | ⟨rfl, a, b, rfl, ha, hb, rfl⟩
 ·exact xr_bad h h1 fin
 ·exact xr_ok h k ha hb fin
theorem p_same (h : LtM H t T S) (fin : ∀ H' is c, SameR S u v is c → LtM H' t T S → Fr T H H' → K (.tuple #[.bool is, .int .i64 c]) H') :
  CallsH Try.prog 23 #[.pointer (some ⟨t, 0, none⟩), .int .i64 u, .int .i64 v] H K := by
 rcases two_in (S := S) (u := u) (v := v) with h1 | ⟨a, b, rfl, rfl, ha, hb, h1⟩
 ·exact m_same_bad h h1 fun H' hM hf => fin _ _ _ (.inl ⟨rfl, rfl, h1⟩) hM hf
 ·obtain ⟨ra, hra, _⟩ := h.ok.root_at ha
  obtain ⟨rb, hrb, _⟩ := h.ok.root_at hb
  exact m_same h ha hb hra hrb fun H' hM hf => fin _ _ _ (.inr ⟨rfl, a, b, ra, rb, rfl, rfl, ha, hb, hra, hrb, rfl⟩) hM hf
theorem d_same {is : Bool} (h : RXM H x T S) (k : S.Ok) (hr : SameR S u v is c) (fin : K (.tuple #[.bool is, .int .i64 c]) H) :
  CallsH Try.prog 37 #[.pointer (some ⟨x, 0, none⟩), .int .i64 u, .int .i64 v] H K := by
 rcases hr with ⟨rfl, rfl, h1⟩ | ⟨rfl, a, b, ra, rb, rfl, rfl, ha, hb, hra, hrb, rfl⟩
 ·exact xs_bad h h1 fin
 ·exact xs_ok h k ha hb hra hrb fin
theorem p_most (h : LtM H t T S) (fin : ∀ H' e c, MostR S u v e c → LtM H' t T S → Fr T H H' → K (.tuple #[e.val, .int .i64 c]) H') :
  CallsH Try.prog 12 #[.pointer (some ⟨t, 0, none⟩), .int .i64 u, .int .i64 v] H K := by
 rcases two_in (S := S) (u := u) (v := v) with h1 | ⟨a, b, rfl, rfl, ha, hb, h1⟩
 ·exact m_most_bad h h1 fun H' hM hf => fin _ _ _ (.inl ⟨rfl, rfl, h1⟩) hM hf
 ·obtain ⟨ra, hra, _⟩ := h.ok.root_at ha
  obtain ⟨rb, hrb, _⟩ := h.ok.root_at hb
  by_cases e1 : a = b
  ·exact m_most_self h ha hb e1 fun H' hM hf => fin _ _ _ (.inr ⟨a, b, ra, rb, rfl, rfl, ha, hb, hra, hrb, .inl ⟨rfl, rfl, .inr e1⟩⟩) hM hf
  by_cases e2 : ra = rb
  ·subst e2
   exact m_most h ha hb e1 hra hrb fun H' P e hP hm hM hf => fin _ _ _ (.inr ⟨a, b, ra, ra, rfl, rfl, ha, hb, hra, hrb, .inr ⟨rfl, rfl, e1, P, hP, hm⟩⟩) hM hf
  ·exact m_most_none h ha hb e1 hra hrb (by omega) fun H' hM hf => fin _ _ _ (.inr ⟨a, b, ra, rb, rfl, rfl, ha, hb, hra, hrb, .inl ⟨rfl, rfl, .inl e2⟩⟩) hM hf
theorem d_most {e : Ed} (h : RXM H x T S) (k : S.Ok) (hr : MostR S u v e c) (fin : ∀ H', Fr (fun _ => False) H H' → K (.tuple #[e.val, .int .i64 c]) H') :
  CallsH Try.prog 38 #[.pointer (some ⟨x, 0, none⟩), .int .i64 u, .int .i64 v] H K := by
 rcases hr with ⟨rfl, rfl, h1⟩ | ⟨a, b, ra, rb, rfl, rfl, ha, hb, hra, hrb, ⟨rfl, rfl, h2⟩ | ⟨rfl, rfl, hne, P, hP, hm⟩⟩
 ·exact xm_bad h h1 fin
 ·exact xm_none h k ha hb hra hrb h2 fin
 ·exact xm_ok h k ha hb hne hra hrb (fun P' hP' => by rw [k.sp (Ls.vtx ha) hP' hP]; exact hm) fin
theorem p_path (h : LtM H t T S) (fin : ∀ H' zs c B w, PathR S u v zs c → IR H' B w zs → (∀ b, B = some b → H.size ≤ b) → LtM H' t T S → Fr T H H' → K (.tuple #[w, .int .i64 c]) H') :
  CallsH Try.prog 11 #[.pointer (some ⟨t, 0, none⟩), .int .i64 u, .int .i64 v] H K := by
 rcases two_in (S := S) (u := u) (v := v) with h1 | ⟨a, b, rfl, rfl, ha, hb, h1⟩
 ·exact m_path_bad h h1 fun H' hM hf => fin _ _ _ _ _ (.inl ⟨rfl, rfl, h1⟩) (IR.nil _) nofun hM hf
 ·obtain ⟨ra, hra, _⟩ := h.ok.root_at ha
  obtain ⟨rb, hrb, _⟩ := h.ok.root_at hb
  by_cases e2 : ra = rb
  ·subst e2
   exact m_path h ha hb hra hrb fun H' P B w hP hi hB hM hf => fin _ _ _ _ _ (.inr ⟨a, b, ra, ra, rfl, rfl, ha, hb, hra, hrb, .inr ⟨rfl, rfl, P, hP, rfl⟩⟩) hi hB hM hf
  ·exact m_path_none h ha hb hra hrb (by omega) fun H' hM hf => fin _ _ _ _ _ (.inr ⟨a, b, ra, rb, rfl, rfl, ha, hb, hra, hrb, .inl ⟨rfl, rfl, e2⟩⟩) (IR.nil _) nofun hM hf
theorem d_path {zs : List Int} (h : RXM H x T S) (k : S.Ok) (hr : PathR S u v zs c) (fin : ∀ H' B w, IR H' B w zs → zs.length ≤ 128 → (∀ b, B = some b → H.size ≤ b) → Fr (fun _ => False) H H' → K (.tuple #[w, .int .i64 c]) H') :
  CallsH Try.prog 39 #[.pointer (some ⟨x, 0, none⟩), .int .i64 u, .int .i64 v] H K := by
 rcases hr with ⟨rfl, rfl, h1⟩ | ⟨a, b, ra, rb, rfl, rfl, ha, hb, hra, hrb, ⟨rfl, rfl, h2⟩ | ⟨rfl, rfl, P, hP, rfl⟩⟩
 ·exact xp_bad h h1 (fin _ _ _ (IR.nil _) (by simp) nofun (Fr.refl _ _))
 ·exact xp_none h k ha hb hra hrb h2 (fin _ _ _ (IR.nil _) (by simp) nofun (Fr.refl _ _))
 ·exact xp_ok h k ha hb hra hrb fun H' P' B w hP' hi hle hB hf => by
   rw [k.sp (Ls.vtx ha) hP' hP] at hi hle
   exact fin _ _ _ hi hle hB hf
end
end Go.Proofs.Ytoplhfhjokjbiaa
namespace Go.Proofs.Ytoplhfhjokjbiaa
open Go Go.Hp Go.Li
set_option linter.all false
set_option maxRecDepth 100000
set_option maxHeartbeats 1600000
structure LOp where
 kind : Int
 u : Int
 v : Int
 id : Int
 w : Int
 other : Bool
structure LOp.Fit (o : LOp) : Prop where
 k : -9223372036854775808 ≤ o.kind ∧ o.kind ≤ 9223372036854775807
 u : -9223372036854775808 ≤ o.u ∧ o.u ≤ 9223372036854775807
 v : -9223372036854775808 ≤ o.v ∧ o.v ≤ 9223372036854775807
 id : -9223372036854775808 ≤ o.id ∧ o.id ≤ 9223372036854775807
 w : -9223372036854775808 ≤ o.w ∧ o.w ≤ 9223372036854775807
def LOp.cells (o : LOp) : List Value := [.int .i64 o.kind, .int .i64 o.u, .int .i64 o.v, .int .i64 o.id, .int .i64 o.w, .bool o.other]
def InLOps (H : Heap) (a : Option Addr) (len : Nat) (zs : Nat → LOp) : Prop :=
 ∀ i, i < len → ∃ p : Addr, a = some p ∧ (hcell H (p.add (i * 6)) = some (.int .i64 (zs i).kind) ∧ hcell H ⟨(p.add (i * 6)).block, (p.add (i * 6)).off + 1, none⟩ = some (.int .i64 (zs i).u) ∧ hcell H ⟨(p.add (i * 6)).block, (p.add (i * 6)).off + 2, none⟩ = some (.int .i64 (zs i).v) ∧
  hcell H ⟨(p.add (i * 6)).block, (p.add (i * 6)).off + 3, none⟩ = some (.int .i64 (zs i).id) ∧ hcell H ⟨(p.add (i * 6)).block, (p.add (i * 6)).off + 4, none⟩ = some (.int .i64 (zs i).w) ∧ hcell H ⟨(p.add (i * 6)).block, (p.add (i * 6)).off + 5, none⟩ = some (.bool (zs i).other)) ∧ (zs i).Fit
theorem InLOps.frame {H H' : Heap} {a : Option Addr} {len : Nat} {zs : Nat → LOp} (h : InLOps H a len zs) (hf : Fr (fun _ => False) H H') : InLOps H' a len zs := fun i hi => by
 obtain ⟨p, h1, ⟨c0, c1, c2, c3, c4, c5⟩, h5⟩ := h i hi
 have mv : ∀ {a : Addr} {v : Value}, hcell H a = some v → hcell H' a = some v := fun h => by rw [hf.cell (hcell_lt h) (fun h => h)]; exact h
 exact ⟨p, h1, ⟨mv c0, mv c1, mv c2, mv c3, mv c4, mv c5⟩, h5⟩
theorem store6 {H : Heap} {b : Nat} {x0 x1 x2 x3 x4 x5 : Value} (hb : Blk H b [x0, x1, x2, x3, x4, x5]) (v0 v1 v2 v3 v4 v5 : Value) :
  Blk (hset (hset (hset (hset (hset (hset H ⟨b, 0, none⟩ v0) ⟨b, 1, none⟩ v1) ⟨b, 2, none⟩ v2) ⟨b, 3, none⟩ v3) ⟨b, 4, none⟩ v4) ⟨b, 5, none⟩ v5) b [v0, v1, v2, v3, v4, v5] ∧
   Fr (· = b) H (hset (hset (hset (hset (hset (hset H ⟨b, 0, none⟩ v0) ⟨b, 1, none⟩ v1) ⟨b, 2, none⟩ v2) ⟨b, 3, none⟩ v3) ⟨b, 4, none⟩ v4) ⟨b, 5, none⟩ v5) :=
 ⟨(((((hb.set_same 0 _).set_same 1 _).set_same 2 _).set_same 3 _).set_same 4 _).set_same 5 _,
  Fr.set (S := (· = b)) (Fr.set (S := (· = b)) (Fr.set (S := (· = b)) (Fr.set (S := (· = b)) (Fr.set (S := (· = b)) (Fr.set (S := (· = b)) (Fr.refl _ H) (.inl rfl) _) (.inl rfl) _) (.inl rfl) _) (.inl rfl) _) (.inl rfl) _) (.inl rfl) _⟩
end Go.Proofs.Ytoplhfhjokjbiaa
namespace Go.Proofs.Ytoplhfhjokjbiaa
open Go Go.Hp Go.Li Go.Sd
set_option linter.all false
set_option maxRecDepth 100000
set_option maxHeartbeats 1600000
theorem pF (f : Nat) (S : Ls) : Part (fun H T => LtM H f T S) := ⟨fun h hf hT => h.frame hf hT, fun h => h.below⟩
theorem pD (x : Nat) (S : Ls) : Part (fun H T => RXM H x T S) := ⟨fun h hf hT => h.frame hf hT, fun h => h.below⟩
def LSd (n : Nat) (H : Heap) (s : Nat) (col : Nat → Nat) : Prop := ∃ S f x, S.n = n ∧ SdS 128 (fun H T => LtM H f T S) (fun H T => RXM H x T S) H s f x col
theorem LSd.side (n : Nat) : Side (LSd n) where
 grow := fun ⟨S, f, x, hn, h⟩ hf hQ => ⟨S, f, x, hn, h.grow (pF f S) (pD x S) hf hQ⟩
 lt := fun ⟨S, f, x, hn, h⟩ hb => h.lt hb
theorem _root_.Go.Li.LinkR.n {S S' : Ls} {u v id w c : Int} (h : LinkR S u v id w c S') : S'.n = S.n := by
 rcases h with ⟨_, rfl, _⟩ | ⟨_, rfl, _⟩ | ⟨_, rfl, _⟩ | ⟨a, b, ra, rb, _, _, _, _, _, _, _, _, ⟨_, rfl, _⟩ | ⟨_, _, l, g, _, _, _, rfl⟩⟩ <;> rfl
theorem _root_.Go.Li.CutR.n {S S' : Ls} {id c : Int} (h : CutR S id c S') : S'.n = S.n := by
 rcases h with ⟨_, rfl, _⟩ | ⟨_, g, e, k, _, _, _, _, rfl⟩ <;> rfl
theorem _root_.Go.Li.EvertR.n {S S' : Ls} {v c : Int} (h : EvertR S v c S') : S'.n = S.n := by
 rcases h with ⟨_, rfl, _⟩ | ⟨_, a, l, _, _, _, rfl⟩ <;> rfl
abbrev opL (k u v id w : Int) (ot : Bool) : Value := .agg #[.int .i64 k, .int .i64 u, .int .i64 v, .int .i64 id, .int .i64 w, .bool ot]
section
variable {H : Heap} {s : Nat} {col : Nat → Nat} {K : Value → Heap → Prop} {u v id w : Int} {ot : Bool} {n : Nat}
theorem st1 (hS : LSd n H s col) (fin : ∀ H' col', LSd n H' s col' → Nx col col' H H' → K (.bool true) H') :
  CallsH Try.prog 19 #[.pointer (some ⟨s, 0, none⟩), opL 1 u v id w ot] H K := by
 have fr0 : Fr (fun _ => False) H (H.push (.cells #[.int .i64 1, .int .i64 u, .int .i64 v, .int .i64 id, .int .i64 w, .bool ot] 54)) := (Fr.refl _ _).push _
 have b1 := Blk.new H [.int .i64 1, .int .i64 u, .int .i64 v, .int .i64 id, .int .i64 w, .bool ot] 54
 obtain ⟨S, f, x, hn, hS⟩ := hS
 have hS1 := hS.grow (pF f S) (pD x S) fr0 (fun _ _ h => h)
 have n0 : Nx col col H (H.push (.cells #[.int .i64 1, .int .i64 u, .int .i64 v, .int .i64 id, .int .i64 w, .bool ot] 54)) := Nx.same fr0 fun _ h => h.elim
 have hc0 : col H.size = 0 := Decidable.byContradiction fun h => Nat.lt_irrefl _ (hS.lt h)
 have k0 := b1.cellOf (i := 0) rfl
 have k1 := b1.cellOf (i := 1) rfl
 have k2 := b1.cellOf (i := 2) rfl
 have k3 := b1.cellOf (i := 3) rfl
 have k4 := b1.cellOf (i := 4) rfl
 obtain ⟨L, T, TX, TA, va, TW, vw, P, hL1, hL2⟩ := hS1
 have c0 := P.b.cellOf (i := 0) rfl
 have c1 := P.b.cellOf (i := 1) rfl
 have ok : S.Ok := LtM.ok P.fo
 have q1 : ((1 : Int) == 1) = true := rfl
 refine call19 (by simp) ?_
 simp only [Try.f19, Option.getD_some]
 repeat' (first|(with_reducible first|refine jA ?_|(refine hK _ _ ?_;clear hK K)|refine jJ fun K hK=>?_|refine jK ?_|refine jL ?_|refine jM ?_|refine jN ?_|refine jO ?_|refine jP ?_|refine jQ ?_|(refine jB ?_;clear hK K)|(refine jC ?_;clear hK K)|refine jD ?_|refine jE ?_|refine jG ?_|refine jH ?_|refine jI ?_)|((with_reducible refine jR ?hq ?_);case hq=>rfl)|((first|(with_reducible first|refine jS fun K hK=>?_|refine jT ?_|refine jU ?_)|((with_reducible refine jV ?hy fun K hK=>?_);case hy=>rfl));simp only [go_sem, Nat.reduceEqDiff, Nat.reduceAdd, Nat.reduceMul, Nat.reduceLeDiff, Nat.reduceLT, Int.reduceLT, Int.reduceLE, Int.reduceEq, Int.reduceNeg, Int.reduceToNat, Nat.reducePow, reduceIte, reduceCtorEq, k0, opL, q1])|((with_reducible first|refine jW ?hy ?_|refine jY ?hy ?_);case hy=>rfl)|((with_reducible first|refine jX ?hy ?_|refine jZ ?hy ?_);case hy=>rfl)|((with_reducible refine jF ?hy ?_);case hy=>decide))
 generalize hH1 : H.push (.cells #[.int .i64 1, .int .i64 u, .int .i64 v, .int .i64 id, .int .i64 w, .bool ot] 54) = H1 at *
 have qc : Cells [(s, 0, .pointer (some ⟨f, 0, none⟩)), (s, 1, .pointer (some ⟨x, 0, none⟩)), (H.size, 1, .int .i64 u), (H.size, 2, .int .i64 v), (H.size, 3, .int .i64 id), (H.size, 4, .int .i64 w)] H1 := ⟨c0, c1, k1, k2, k3, k4, trivial⟩
 have apT : ∀ y ∈ ([(s, 0, .pointer (some ⟨f, 0, none⟩)), (s, 1, .pointer (some ⟨x, 0, none⟩)), (H.size, 1, .int .i64 u), (H.size, 2, .int .i64 v), (H.size, 3, .int .i64 id), (H.size, 4, .int .i64 w)] : List (Nat × Nat × Value)), ∀ c : Nat → Nat, (c s = 1 ∧ c H.size = 0) → c y.1 ≤ 1 := by
  intro y hy c hc
  simp only [List.mem_cons, List.not_mem_nil, or_false] at hy
  rcases hy with rfl | rfl | rfl | rfl | rfl | rfl <;> simp only [hc.1, hc.2] <;> omega
 have lH : H.size < H1.size := by rw [← hH1]; simp
 refine x_drawS [] [0, 1, 2, 3, 4, 5, 6, 7, 8, 9, 10, 11, 13, 14, 15, 16, 17, 18, 19, 20, 21, 22, 23, 24, 12, 25, 26, 27] rfl (by kernel_rfl) (Cells _) qc ?_
 repeat' (first|(with_reducible refine xs_nil ?_)|((first|((with_reducible apply xs_rd);case hi=>rfl)|((with_reducible apply xs_guard_yes);(case hi=>rfl);(case hy=>rfl)));(case hr=>rfl);(case h1=>intro H' hS'; (try simp only [Cells, and_true] at hS');simp only [go_sem, Nat.reduceEqDiff, Nat.reduceAdd, Nat.reduceMul, Nat.reduceLeDiff, Nat.reduceLT, Int.reduceLT, Int.reduceLE, Int.reduceEq, Int.reduceNeg, Int.reduceToNat, Nat.reducePow, reduceIte, reduceCtorEq, hS']; rfl))|((with_reducible refine xs_tail ?hz ?_);case hz=>rfl)|((with_reducible refine xs_keep ?hz ?_);case hz=>first|(with_reducible assumption)|(simp only [go_sem, Nat.reduceEqDiff, Nat.reduceAdd, Nat.reduceMul, Nat.reduceLeDiff, Nat.reduceLT, Int.reduceLT, Int.reduceLE, Int.reduceEq, Int.reduceNeg, Int.reduceToNat, Nat.reducePow, reduceIte, reduceCtorEq, Cells, and_true]; done)|assumption)|((with_reducible apply xs_guard_no);(case hi=>rfl);(case hy=>rfl);(case hS=>assumption))|((first|((with_reducible apply xs_op);(case hi=>rfl))|((with_reducible apply xs_op_yes);(case hi=>rfl);(case hy=>rfl)));(case hr=>rfl);intro K hK; simp only [go_sem, Nat.reduceEqDiff, Nat.reduceAdd, Nat.reduceMul, Nat.reduceLeDiff, Nat.reduceLT, Int.reduceLT, Int.reduceLE, Int.reduceEq, Int.reduceNeg, Int.reduceToNat, Nat.reducePow, reduceIte, reduceCtorEq])|(with_reducible first|refine jA ?_|(refine hK _ _ ?_;clear hK K)|refine jJ fun K hK=>?_|refine jK ?_|refine jL ?_|refine jM ?_|refine jN ?_|refine jO ?_|refine jP ?_|refine jQ ?_|(refine jB ?_;clear hK K)|(refine jC ?_;clear hK K)|refine jD ?_|refine jE ?_|refine jG ?_|refine jH ?_|refine jI ?_)|((with_reducible refine jR ?hq ?_);case hq=>rfl)|((first|(with_reducible first|refine jS fun K hK=>?_|refine jT ?_|refine jU ?_)|((with_reducible refine jV ?hy fun K hK=>?_);case hy=>rfl));simp only [go_sem, Nat.reduceEqDiff, Nat.reduceAdd, Nat.reduceMul, Nat.reduceLeDiff, Nat.reduceLT, Int.reduceLT, Int.reduceLE, Int.reduceEq, Int.reduceNeg, Int.reduceToNat, Nat.reducePow, reduceIte, reduceCtorEq])|((with_reducible first|refine jW ?hy ?_|refine jY ?hy ?_);case hy=>rfl)|((with_reducible first|refine jX ?hy ?_|refine jZ ?hy ?_);case hy=>rfl)|((with_reducible refine jF ?hy ?_);case hy=>decide))
 refine p_link P.fo fun H2 T2 S2 c hR hM hf hT => ?_
 obtain ⟨P2, n2⟩ := P.setF (F' := fun H T => LtM H f T S2) (pF f S2) (pD x S) hf hM hT
 have qc2 := qc.frame hf fun y hy e => by have := apT y hy col ⟨P.cs, hc0⟩; rw [P.cf _ e] at this; omega
 repeat' (first|(with_reducible refine xs_nil ?_)|((first|((with_reducible apply xs_rd);case hi=>rfl)|((with_reducible apply xs_guard_yes);(case hi=>rfl);(case hy=>rfl)));(case hr=>rfl);(case h1=>intro H' hS'; (try simp only [Cells, and_true] at hS');simp only [go_sem, Nat.reduceEqDiff, Nat.reduceAdd, Nat.reduceMul, Nat.reduceLeDiff, Nat.reduceLT, Int.reduceLT, Int.reduceLE, Int.reduceEq, Int.reduceNeg, Int.reduceToNat, Nat.reducePow, reduceIte, reduceCtorEq, qc2, hS']; rfl))|((with_reducible refine xs_tail ?hz ?_);case hz=>rfl)|((with_reducible refine xs_keep ?hz ?_);case hz=>first|(with_reducible assumption)|(simp only [go_sem, Nat.reduceEqDiff, Nat.reduceAdd, Nat.reduceMul, Nat.reduceLeDiff, Nat.reduceLT, Int.reduceLT, Int.reduceLE, Int.reduceEq, Int.reduceNeg, Int.reduceToNat, Nat.reducePow, reduceIte, reduceCtorEq, Cells, and_true, qc2]; done)|assumption)|((with_reducible apply xs_guard_no);(case hi=>rfl);(case hy=>rfl);(case hS=>assumption))|((first|((with_reducible apply xs_op);(case hi=>rfl))|((with_reducible apply xs_op_yes);(case hi=>rfl);(case hy=>rfl)));(case hr=>rfl);intro K hK; simp only [go_sem, Nat.reduceEqDiff, Nat.reduceAdd, Nat.reduceMul, Nat.reduceLeDiff, Nat.reduceLT, Int.reduceLT, Int.reduceLE, Int.reduceEq, Int.reduceNeg, Int.reduceToNat, Nat.reducePow, reduceIte, reduceCtorEq, qc2])|(with_reducible first|refine jA ?_|(refine hK _ _ ?_;clear hK K)|refine jJ fun K hK=>?_|refine jK ?_|refine jL ?_|refine jM ?_|refine jN ?_|refine jO ?_|refine jP ?_|refine jQ ?_|(refine jB ?_;clear hK K)|(refine jC ?_;clear hK K)|refine jD ?_|refine jE ?_|refine jG ?_|refine jH ?_|refine jI ?_)|((with_reducible refine jR ?hq ?_);case hq=>rfl)|((first|(with_reducible first|refine jS fun K hK=>?_|refine jT ?_|refine jU ?_)|((with_reducible refine jV ?hy fun K hK=>?_);case hy=>rfl));simp only [go_sem, Nat.reduceEqDiff, Nat.reduceAdd, Nat.reduceMul, Nat.reduceLeDiff, Nat.reduceLT, Int.reduceLT, Int.reduceLE, Int.reduceEq, Int.reduceNeg, Int.reduceToNat, Nat.reducePow, reduceIte, reduceCtorEq, qc2])|((with_reducible first|refine jW ?hy ?_|refine jY ?hy ?_);case hy=>rfl)|((with_reducible first|refine jX ?hy ?_|refine jZ ?hy ?_);case hy=>rfl)|((with_reducible refine jF ?hy ?_);case hy=>decide))
 refine d_link P2.dc ok hR fun H3 hX hf3 => ?_
 obtain ⟨P3, n3⟩ := P2.setD (D' := fun H T => RXM H x T S2) (pF f S2) (pD x S2) hf3 hX fun _ h => .inl h
 have qc3 := qc2.frame hf3 fun y hy e => by have := apT y hy _ ⟨P2.cs, (extC_old (k := 2) (n' := H2.size) lH).trans hc0⟩; rw [P2.cd _ e] at this; omega
 have e1 : (c == c) = true := by simp
 repeat' (first|(with_reducible refine xs_nil ?_)|((first|((with_reducible apply xs_rd);case hi=>rfl)|((with_reducible apply xs_guard_yes);(case hi=>rfl);(case hy=>rfl)));(case hr=>rfl);(case h1=>intro H' hS'; (try simp only [Cells, and_true] at hS');simp only [go_sem, Nat.reduceEqDiff, Nat.reduceAdd, Nat.reduceMul, Nat.reduceLeDiff, Nat.reduceLT, Int.reduceLT, Int.reduceLE, Int.reduceEq, Int.reduceNeg, Int.reduceToNat, Nat.reducePow, reduceIte, reduceCtorEq, qc3, e1, hS']; rfl))|((with_reducible refine xs_tail ?hz ?_);case hz=>rfl)|((with_reducible refine xs_keep ?hz ?_);case hz=>first|(with_reducible assumption)|(simp only [go_sem, Nat.reduceEqDiff, Nat.reduceAdd, Nat.reduceMul, Nat.reduceLeDiff, Nat.reduceLT, Int.reduceLT, Int.reduceLE, Int.reduceEq, Int.reduceNeg, Int.reduceToNat, Nat.reducePow, reduceIte, reduceCtorEq, Cells, and_true, qc3, e1]; done)|assumption)|((with_reducible apply xs_guard_no);(case hi=>rfl);(case hy=>rfl);(case hS=>assumption))|((first|((with_reducible apply xs_op);(case hi=>rfl))|((with_reducible apply xs_op_yes);(case hi=>rfl);(case hy=>rfl)));(case hr=>rfl);intro K hK; simp only [go_sem, Nat.reduceEqDiff, Nat.reduceAdd, Nat.reduceMul, Nat.reduceLeDiff, Nat.reduceLT, Int.reduceLT, Int.reduceLE, Int.reduceEq, Int.reduceNeg, Int.reduceToNat, Nat.reducePow, reduceIte, reduceCtorEq, qc3, e1])|(with_reducible first|refine jA ?_|(refine hK _ _ ?_;clear hK K)|refine jJ fun K hK=>?_|refine jK ?_|refine jL ?_|refine jM ?_|refine jN ?_|refine jO ?_|refine jP ?_|refine jQ ?_|(refine jB ?_;clear hK K)|(refine jC ?_;clear hK K)|refine jD ?_|refine jE ?_|refine jG ?_|refine jH ?_|refine jI ?_)|((with_reducible refine jR ?hq ?_);case hq=>rfl)|((first|(with_reducible first|refine jS fun K hK=>?_|refine jT ?_|refine jU ?_)|((with_reducible refine jV ?hy fun K hK=>?_);case hy=>rfl));simp only [go_sem, Nat.reduceEqDiff, Nat.reduceAdd, Nat.reduceMul, Nat.reduceLeDiff, Nat.reduceLT, Int.reduceLT, Int.reduceLE, Int.reduceEq, Int.reduceNeg, Int.reduceToNat, Nat.reducePow, reduceIte, reduceCtorEq, qc3, e1])|((with_reducible first|refine jW ?hy ?_|refine jY ?hy ?_);case hy=>rfl)|((with_reducible first|refine jX ?hy ?_|refine jZ ?hy ?_);case hy=>rfl)|((with_reducible refine jF ?hy ?_);case hy=>decide))
 exact fin _ _ ⟨S2, f, x, hR.n.trans hn, L, T2, TX, TA, va, TW, vw, P3, hL1, hL2⟩ ((n0.trans n2).trans n3)

theorem st2 (hS : LSd n H s col) (fin : ∀ H' col', LSd n H' s col' → Nx col col' H H' → K (.bool true) H') :
  CallsH Try.prog 19 #[.pointer (some ⟨s, 0, none⟩), opL 2 u v id w ot] H K := by
 have fr0 : Fr (fun _ => False) H (H.push (.cells #[.int .i64 2, .int .i64 u, .int .i64 v, .int .i64 id, .int .i64 w, .bool ot] 54)) := (Fr.refl _ _).push _
 have b1 := Blk.new H [.int .i64 2, .int .i64 u, .int .i64 v, .int .i64 id, .int .i64 w, .bool ot] 54
 obtain ⟨S, f, x, hn, hS⟩ := hS
 have hS1 := hS.grow (pF f S) (pD x S) fr0 (fun _ _ h => h)
 have n0 : Nx col col H (H.push (.cells #[.int .i64 2, .int .i64 u, .int .i64 v, .int .i64 id, .int .i64 w, .bool ot] 54)) := Nx.same fr0 fun _ h => h.elim
 have hc0 : col H.size = 0 := Decidable.byContradiction fun h => Nat.lt_irrefl _ (hS.lt h)
 have k0 := b1.cellOf (i := 0) rfl
 have k1 := b1.cellOf (i := 1) rfl
 have k2 := b1.cellOf (i := 2) rfl
 have k3 := b1.cellOf (i := 3) rfl
 have k4 := b1.cellOf (i := 4) rfl
 obtain ⟨L, T, TX, TA, va, TW, vw, P, hL1, hL2⟩ := hS1
 have c0 := P.b.cellOf (i := 0) rfl
 have c1 := P.b.cellOf (i := 1) rfl
 have ok : S.Ok := LtM.ok P.fo
 have q1 : ((2 : Int) == 1) = false := rfl
 have q2 : ((2 : Int) == 2) = true := rfl
 refine call19 (by simp) ?_
 simp only [Try.f19, Option.getD_some]
 repeat' (first|(with_reducible first|refine jA ?_|(refine hK _ _ ?_;clear hK K)|refine jJ fun K hK=>?_|refine jK ?_|refine jL ?_|refine jM ?_|refine jN ?_|refine jO ?_|refine jP ?_|refine jQ ?_|(refine jB ?_;clear hK K)|(refine jC ?_;clear hK K)|refine jD ?_|refine jE ?_|refine jG ?_|refine jH ?_|refine jI ?_)|((with_reducible refine jR ?hq ?_);case hq=>rfl)|((first|(with_reducible first|refine jS fun K hK=>?_|refine jT ?_|refine jU ?_)|((with_reducible refine jV ?hy fun K hK=>?_);case hy=>rfl));simp only [go_sem, Nat.reduceEqDiff, Nat.reduceAdd, Nat.reduceMul, Nat.reduceLeDiff, Nat.reduceLT, Int.reduceLT, Int.reduceLE, Int.reduceEq, Int.reduceNeg, Int.reduceToNat, Nat.reducePow, reduceIte, reduceCtorEq, k0, opL, q1, q2])|((with_reducible first|refine jW ?hy ?_|refine jY ?hy ?_);case hy=>rfl)|((with_reducible first|refine jX ?hy ?_|refine jZ ?hy ?_);case hy=>rfl)|((with_reducible refine jF ?hy ?_);case hy=>decide))
 generalize hH1 : H.push (.cells #[.int .i64 2, .int .i64 u, .int .i64 v, .int .i64 id, .int .i64 w, .bool ot] 54) = H1 at *
 have qc : Cells [(s, 0, .pointer (some ⟨f, 0, none⟩)), (s, 1, .pointer (some ⟨x, 0, none⟩)), (H.size, 1, .int .i64 u), (H.size, 2, .int .i64 v), (H.size, 3, .int .i64 id), (H.size, 4, .int .i64 w)] H1 := ⟨c0, c1, k1, k2, k3, k4, trivial⟩
 have apT : ∀ y ∈ ([(s, 0, .pointer (some ⟨f, 0, none⟩)), (s, 1, .pointer (some ⟨x, 0, none⟩)), (H.size, 1, .int .i64 u), (H.size, 2, .int .i64 v), (H.size, 3, .int .i64 id), (H.size, 4, .int .i64 w)] : List (Nat × Nat × Value)), ∀ c : Nat → Nat, (c s = 1 ∧ c H.size = 0) → c y.1 ≤ 1 := by
  intro y hy c hc
  simp only [List.mem_cons, List.not_mem_nil, or_false] at hy
  rcases hy with rfl | rfl | rfl | rfl | rfl | rfl <;> simp only [hc.1, hc.2] <;> omega
 have lH : H.size < H1.size := by rw [← hH1]; simp
 refine x_drawS [] [0, 1, 2, 3, 4, 5, 7, 8, 9, 10, 11, 12, 6, 13, 14, 15] rfl (by kernel_rfl) (Cells _) qc ?_
 repeat' (first|(with_reducible refine xs_nil ?_)|((first|((with_reducible apply xs_rd);case hi=>rfl)|((with_reducible apply xs_guard_yes);(case hi=>rfl);(case hy=>rfl)));(case hr=>rfl);(case h1=>intro H' hS'; (try simp only [Cells, and_true] at hS');simp only [go_sem, Nat.reduceEqDiff, Nat.reduceAdd, Nat.reduceMul, Nat.reduceLeDiff, Nat.reduceLT, Int.reduceLT, Int.reduceLE, Int.reduceEq, Int.reduceNeg, Int.reduceToNat, Nat.reducePow, reduceIte, reduceCtorEq, hS']; rfl))|((with_reducible refine xs_tail ?hz ?_);case hz=>rfl)|((with_reducible refine xs_keep ?hz ?_);case hz=>first|(with_reducible assumption)|(simp only [go_sem, Nat.reduceEqDiff, Nat.reduceAdd, Nat.reduceMul, Nat.reduceLeDiff, Nat.reduceLT, Int.reduceLT, Int.reduceLE, Int.reduceEq, Int.reduceNeg, Int.reduceToNat, Nat.reducePow, reduceIte, reduceCtorEq, Cells, and_true]; done)|assumption)|((with_reducible apply xs_guard_no);(case hi=>rfl);(case hy=>rfl);(case hS=>assumption))|((first|((with_reducible apply xs_op);(case hi=>rfl))|((with_reducible apply xs_op_yes);(case hi=>rfl);(case hy=>rfl)));(case hr=>rfl);intro K hK; simp only [go_sem, Nat.reduceEqDiff, Nat.reduceAdd, Nat.reduceMul, Nat.reduceLeDiff, Nat.reduceLT, Int.reduceLT, Int.reduceLE, Int.reduceEq, Int.reduceNeg, Int.reduceToNat, Nat.reducePow, reduceIte, reduceCtorEq])|(with_reducible first|refine jA ?_|(refine hK _ _ ?_;clear hK K)|refine jJ fun K hK=>?_|refine jK ?_|refine jL ?_|refine jM ?_|refine jN ?_|refine jO ?_|refine jP ?_|refine jQ ?_|(refine jB ?_;clear hK K)|(refine jC ?_;clear hK K)|refine jD ?_|refine jE ?_|refine jG ?_|refine jH ?_|refine jI ?_)|((with_reducible refine jR ?hq ?_);case hq=>rfl)|((first|(with_reducible first|refine jS fun K hK=>?_|refine jT ?_|refine jU ?_)|((with_reducible refine jV ?hy fun K hK=>?_);case hy=>rfl));simp only [go_sem, Nat.reduceEqDiff, Nat.reduceAdd, Nat.reduceMul, Nat.reduceLeDiff, Nat.reduceLT, Int.reduceLT, Int.reduceLE, Int.reduceEq, Int.reduceNeg, Int.reduceToNat, Nat.reducePow, reduceIte, reduceCtorEq])|((with_reducible first|refine jW ?hy ?_|refine jY ?hy ?_);case hy=>rfl)|((with_reducible first|refine jX ?hy ?_|refine jZ ?hy ?_);case hy=>rfl)|((with_reducible refine jF ?hy ?_);case hy=>decide))
 refine p_cut P.fo fun H2 T2 S2 c hR hM hf hT => ?_
 obtain ⟨P2, n2⟩ := P.setF (F' := fun H T => LtM H f T S2) (pF f S2) (pD x S) hf hM hT
 have qc2 := qc.frame hf fun y hy e => by have := apT y hy col ⟨P.cs, hc0⟩; rw [P.cf _ e] at this; omega
 repeat' (first|(with_reducible refine xs_nil ?_)|((first|((with_reducible apply xs_rd);case hi=>rfl)|((with_reducible apply xs_guard_yes);(case hi=>rfl);(case hy=>rfl)));(case hr=>rfl);(case h1=>intro H' hS'; (try simp only [Cells, and_true] at hS');simp only [go_sem, Nat.reduceEqDiff, Nat.reduceAdd, Nat.reduceMul, Nat.reduceLeDiff, Nat.reduceLT, Int.reduceLT, Int.reduceLE, Int.reduceEq, Int.reduceNeg, Int.reduceToNat, Nat.reducePow, reduceIte, reduceCtorEq, qc2, hS']; rfl))|((with_reducible refine xs_tail ?hz ?_);case hz=>rfl)|((with_reducible refine xs_keep ?hz ?_);case hz=>first|(with_reducible assumption)|(simp only [go_sem, Nat.reduceEqDiff, Nat.reduceAdd, Nat.reduceMul, Nat.reduceLeDiff, Nat.reduceLT, Int.reduceLT, Int.reduceLE, Int.reduceEq, Int.reduceNeg, Int.reduceToNat, Nat.reducePow, reduceIte, reduceCtorEq, Cells, and_true, qc2]; done)|assumption)|((with_reducible apply xs_guard_no);(case hi=>rfl);(case hy=>rfl);(case hS=>assumption))|((first|((with_reducible apply xs_op);(case hi=>rfl))|((with_reducible apply xs_op_yes);(case hi=>rfl);(case hy=>rfl)));(case hr=>rfl);intro K hK; simp only [go_sem, Nat.reduceEqDiff, Nat.reduceAdd, Nat.reduceMul, Nat.reduceLeDiff, Nat.reduceLT, Int.reduceLT, Int.reduceLE, Int.reduceEq, Int.reduceNeg, Int.reduceToNat, Nat.reducePow, reduceIte, reduceCtorEq, qc2])|(with_reducible first|refine jA ?_|(refine hK _ _ ?_;clear hK K)|refine jJ fun K hK=>?_|refine jK ?_|refine jL ?_|refine jM ?_|refine jN ?_|refine jO ?_|refine jP ?_|refine jQ ?_|(refine jB ?_;clear hK K)|(refine jC ?_;clear hK K)|refine jD ?_|refine jE ?_|refine jG ?_|refine jH ?_|refine jI ?_)|((with_reducible refine jR ?hq ?_);case hq=>rfl)|((first|(with_reducible first|refine jS fun K hK=>?_|refine jT ?_|refine jU ?_)|((with_reducible refine jV ?hy fun K hK=>?_);case hy=>rfl));simp only [go_sem, Nat.reduceEqDiff, Nat.reduceAdd, Nat.reduceMul, Nat.reduceLeDiff, Nat.reduceLT, Int.reduceLT, Int.reduceLE, Int.reduceEq, Int.reduceNeg, Int.reduceToNat, Nat.reducePow, reduceIte, reduceCtorEq, qc2])|((with_reducible first|refine jW ?hy ?_|refine jY ?hy ?_);case hy=>rfl)|((with_reducible first|refine jX ?hy ?_|refine jZ ?hy ?_);case hy=>rfl)|((with_reducible refine jF ?hy ?_);case hy=>decide))
 refine d_cut P2.dc ok hR fun H3 hX hf3 => ?_
 obtain ⟨P3, n3⟩ := P2.setD (D' := fun H T => RXM H x T S2) (pF f S2) (pD x S2) hf3 hX fun _ h => .inl h
 have qc3 := qc2.frame hf3 fun y hy e => by have := apT y hy _ ⟨P2.cs, (extC_old (k := 2) (n' := H2.size) lH).trans hc0⟩; rw [P2.cd _ e] at this; omega
 have e1 : (c == c) = true := by simp
 repeat' (first|(with_reducible refine xs_nil ?_)|((first|((with_reducible apply xs_rd);case hi=>rfl)|((with_reducible apply xs_guard_yes);(case hi=>rfl);(case hy=>rfl)));(case hr=>rfl);(case h1=>intro H' hS'; (try simp only [Cells, and_true] at hS');simp only [go_sem, Nat.reduceEqDiff, Nat.reduceAdd, Nat.reduceMul, Nat.reduceLeDiff, Nat.reduceLT, Int.reduceLT, Int.reduceLE, Int.reduceEq, Int.reduceNeg, Int.reduceToNat, Nat.reducePow, reduceIte, reduceCtorEq, qc3, e1, hS']; rfl))|((with_reducible refine xs_tail ?hz ?_);case hz=>rfl)|((with_reducible refine xs_keep ?hz ?_);case hz=>first|(with_reducible assumption)|(simp only [go_sem, Nat.reduceEqDiff, Nat.reduceAdd, Nat.reduceMul, Nat.reduceLeDiff, Nat.reduceLT, Int.reduceLT, Int.reduceLE, Int.reduceEq, Int.reduceNeg, Int.reduceToNat, Nat.reducePow, reduceIte, reduceCtorEq, Cells, and_true, qc3, e1]; done)|assumption)|((with_reducible apply xs_guard_no);(case hi=>rfl);(case hy=>rfl);(case hS=>assumption))|((first|((with_reducible apply xs_op);(case hi=>rfl))|((with_reducible apply xs_op_yes);(case hi=>rfl);(case hy=>rfl)));(case hr=>rfl);intro K hK; simp only [go_sem, Nat.reduceEqDiff, Nat.reduceAdd, Nat.reduceMul, Nat.reduceLeDiff, Nat.reduceLT, Int.reduceLT, Int.reduceLE, Int.reduceEq, Int.reduceNeg, Int.reduceToNat, Nat.reducePow, reduceIte, reduceCtorEq, qc3, e1])|(with_reducible first|refine jA ?_|(refine hK _ _ ?_;clear hK K)|refine jJ fun K hK=>?_|refine jK ?_|refine jL ?_|refine jM ?_|refine jN ?_|refine jO ?_|refine jP ?_|refine jQ ?_|(refine jB ?_;clear hK K)|(refine jC ?_;clear hK K)|refine jD ?_|refine jE ?_|refine jG ?_|refine jH ?_|refine jI ?_)|((with_reducible refine jR ?hq ?_);case hq=>rfl)|((first|(with_reducible first|refine jS fun K hK=>?_|refine jT ?_|refine jU ?_)|((with_reducible refine jV ?hy fun K hK=>?_);case hy=>rfl));simp only [go_sem, Nat.reduceEqDiff, Nat.reduceAdd, Nat.reduceMul, Nat.reduceLeDiff, Nat.reduceLT, Int.reduceLT, Int.reduceLE, Int.reduceEq, Int.reduceNeg, Int.reduceToNat, Nat.reducePow, reduceIte, reduceCtorEq, qc3, e1])|((with_reducible first|refine jW ?hy ?_|refine jY ?hy ?_);case hy=>rfl)|((with_reducible first|refine jX ?hy ?_|refine jZ ?hy ?_);case hy=>rfl)|((with_reducible refine jF ?hy ?_);case hy=>decide))
 exact fin _ _ ⟨S2, f, x, hR.n.trans hn, L, T2, TX, TA, va, TW, vw, P3, hL1, hL2⟩ ((n0.trans n2).trans n3)

theorem st3 (hS : LSd n H s col) (fin : ∀ H' col', LSd n H' s col' → Nx col col' H H' → K (.bool true) H') :
  CallsH Try.prog 19 #[.pointer (some ⟨s, 0, none⟩), opL 3 u v id w ot] H K := by
 have fr0 : Fr (fun _ => False) H (H.push (.cells #[.int .i64 3, .int .i64 u, .int .i64 v, .int .i64 id, .int .i64 w, .bool ot] 54)) := (Fr.refl _ _).push _
 have b1 := Blk.new H [.int .i64 3, .int .i64 u, .int .i64 v, .int .i64 id, .int .i64 w, .bool ot] 54
 obtain ⟨S, f, x, hn, hS⟩ := hS
 have hS1 := hS.grow (pF f S) (pD x S) fr0 (fun _ _ h => h)
 have n0 : Nx col col H (H.push (.cells #[.int .i64 3, .int .i64 u, .int .i64 v, .int .i64 id, .int .i64 w, .bool ot] 54)) := Nx.same fr0 fun _ h => h.elim
 have hc0 : col H.size = 0 := Decidable.byContradiction fun h => Nat.lt_irrefl _ (hS.lt h)
 have k0 := b1.cellOf (i := 0) rfl
 have k1 := b1.cellOf (i := 1) rfl
 have k2 := b1.cellOf (i := 2) rfl
 have k3 := b1.cellOf (i := 3) rfl
 have k4 := b1.cellOf (i := 4) rfl
 obtain ⟨L, T, TX, TA, va, TW, vw, P, hL1, hL2⟩ := hS1
 have c0 := P.b.cellOf (i := 0) rfl
 have c1 := P.b.cellOf (i := 1) rfl
 have ok : S.Ok := LtM.ok P.fo
 have q1 : ((3 : Int) == 1) = false := rfl
 have q2 : ((3 : Int) == 2) = false := rfl
 have q3 : ((3 : Int) == 3) = true := rfl
 refine call19 (by simp) ?_
 simp only [Try.f19, Option.getD_some]
 repeat' (first|(with_reducible first|refine jA ?_|(refine hK _ _ ?_;clear hK K)|refine jJ fun K hK=>?_|refine jK ?_|refine jL ?_|refine jM ?_|refine jN ?_|refine jO ?_|refine jP ?_|refine jQ ?_|(refine jB ?_;clear hK K)|(refine jC ?_;clear hK K)|refine jD ?_|refine jE ?_|refine jG ?_|refine jH ?_|refine jI ?_)|((with_reducible refine jR ?hq ?_);case hq=>rfl)|((first|(with_reducible first|refine jS fun K hK=>?_|refine jT ?_|refine jU ?_)|((with_reducible refine jV ?hy fun K hK=>?_);case hy=>rfl));simp only [go_sem, Nat.reduceEqDiff, Nat.reduceAdd, Nat.reduceMul, Nat.reduceLeDiff, Nat.reduceLT, Int.reduceLT, Int.reduceLE, Int.reduceEq, Int.reduceNeg, Int.reduceToNat, Nat.reducePow, reduceIte, reduceCtorEq, k0, opL, q1, q2, q3])|((with_reducible first|refine jW ?hy ?_|refine jY ?hy ?_);case hy=>rfl)|((with_reducible first|refine jX ?hy ?_|refine jZ ?hy ?_);case hy=>rfl)|((with_reducible refine jF ?hy ?_);case hy=>decide))
 generalize hH1 : H.push (.cells #[.int .i64 3, .int .i64 u, .int .i64 v, .int .i64 id, .int .i64 w, .bool ot] 54) = H1 at *
 have qc : Cells [(s, 0, .pointer (some ⟨f, 0, none⟩)), (s, 1, .pointer (some ⟨x, 0, none⟩)), (H.size, 1, .int .i64 u), (H.size, 2, .int .i64 v), (H.size, 3, .int .i64 id), (H.size, 4, .int .i64 w)] H1 := ⟨c0, c1, k1, k2, k3, k4, trivial⟩
 have apT : ∀ y ∈ ([(s, 0, .pointer (some ⟨f, 0, none⟩)), (s, 1, .pointer (some ⟨x, 0, none⟩)), (H.size, 1, .int .i64 u), (H.size, 2, .int .i64 v), (H.size, 3, .int .i64 id), (H.size, 4, .int .i64 w)] : List (Nat × Nat × Value)), ∀ c : Nat → Nat, (c s = 1 ∧ c H.size = 0) → c y.1 ≤ 1 := by
  intro y hy c hc
  simp only [List.mem_cons, List.not_mem_nil, or_false] at hy
  rcases hy with rfl | rfl | rfl | rfl | rfl | rfl <;> simp only [hc.1, hc.2] <;> omega
 have lH : H.size < H1.size := by rw [← hH1]; simp
 refine x_drawS [] [0, 1, 2, 3, 4, 5, 7, 8, 9, 10, 11, 12, 6, 13, 14, 15] rfl (by kernel_rfl) (Cells _) qc ?_
 repeat' (first|(with_reducible refine xs_nil ?_)|((first|((with_reducible apply xs_rd);case hi=>rfl)|((with_reducible apply xs_guard_yes);(case hi=>rfl);(case hy=>rfl)));(case hr=>rfl);(case h1=>intro H' hS'; (try simp only [Cells, and_true] at hS');simp only [go_sem, Nat.reduceEqDiff, Nat.reduceAdd, Nat.reduceMul, Nat.reduceLeDiff, Nat.reduceLT, Int.reduceLT, Int.reduceLE, Int.reduceEq, Int.reduceNeg, Int.reduceToNat, Nat.reducePow, reduceIte, reduceCtorEq, hS']; rfl))|((with_reducible refine xs_tail ?hz ?_);case hz=>rfl)|((with_reducible refine xs_keep ?hz ?_);case hz=>first|(with_reducible assumption)|(simp only [go_sem, Nat.reduceEqDiff, Nat.reduceAdd, Nat.reduceMul, Nat.reduceLeDiff, Nat.reduceLT, Int.reduceLT, Int.reduceLE, Int.reduceEq, Int.reduceNeg, Int.reduceToNat, Nat.reducePow, reduceIte, reduceCtorEq, Cells, and_true]; done)|assumption)|((with_reducible apply xs_guard_no);(case hi=>rfl);(case hy=>rfl);(case hS=>assumption))|((first|((with_reducible apply xs_op);(case hi=>rfl))|((with_reducible apply xs_op_yes);(case hi=>rfl);(case hy=>rfl)));(case hr=>rfl);intro K hK; simp only [go_sem, Nat.reduceEqDiff, Nat.reduceAdd, Nat.reduceMul, Nat.reduceLeDiff, Nat.reduceLT, Int.reduceLT, Int.reduceLE, Int.reduceEq, Int.reduceNeg, Int.reduceToNat, Nat.reducePow, reduceIte, reduceCtorEq])|(with_reducible first|refine jA ?_|(refine hK _ _ ?_;clear hK K)|refine jJ fun K hK=>?_|refine jK ?_|refine jL ?_|refine jM ?_|refine jN ?_|refine jO ?_|refine jP ?_|refine jQ ?_|(refine jB ?_;clear hK K)|(refine jC ?_;clear hK K)|refine jD ?_|refine jE ?_|refine jG ?_|refine jH ?_|refine jI ?_)|((with_reducible refine jR ?hq ?_);case hq=>rfl)|((first|(with_reducible first|refine jS fun K hK=>?_|refine jT ?_|refine jU ?_)|((with_reducible refine jV ?hy fun K hK=>?_);case hy=>rfl));simp only [go_sem, Nat.reduceEqDiff, Nat.reduceAdd, Nat.reduceMul, Nat.reduceLeDiff, Nat.reduceLT, Int.reduceLT, Int.reduceLE, Int.reduceEq, Int.reduceNeg, Int.reduceToNat, Nat.reducePow, reduceIte, reduceCtorEq])|((with_reducible first|refine jW ?hy ?_|refine jY ?hy ?_);case hy=>rfl)|((with_reducible first|refine jX ?hy ?_|refine jZ ?hy ?_);case hy=>rfl)|((with_reducible refine jF ?hy ?_);case hy=>decide))
 refine p_evert P.fo fun H2 S2 c hR hM hf => ?_
 obtain ⟨P2, n2⟩ := P.setF (F' := fun H T => LtM H f T S2) (pF f S2) (pD x S) hf hM fun _ h => .inl h
 have qc2 := qc.frame hf fun y hy e => by have := apT y hy col ⟨P.cs, hc0⟩; rw [P.cf _ e] at this; omega
 repeat' (first|(with_reducible refine xs_nil ?_)|((first|((with_reducible apply xs_rd);case hi=>rfl)|((with_reducible apply xs_guard_yes);(case hi=>rfl);(case hy=>rfl)));(case hr=>rfl);(case h1=>intro H' hS'; (try simp only [Cells, and_true] at hS');simp only [go_sem, Nat.reduceEqDiff, Nat.reduceAdd, Nat.reduceMul, Nat.reduceLeDiff, Nat.reduceLT, Int.reduceLT, Int.reduceLE, Int.reduceEq, Int.reduceNeg, Int.reduceToNat, Nat.reducePow, reduceIte, reduceCtorEq, qc2, hS']; rfl))|((with_reducible refine xs_tail ?hz ?_);case hz=>rfl)|((with_reducible refine xs_keep ?hz ?_);case hz=>first|(with_reducible assumption)|(simp only [go_sem, Nat.reduceEqDiff, Nat.reduceAdd, Nat.reduceMul, Nat.reduceLeDiff, Nat.reduceLT, Int.reduceLT, Int.reduceLE, Int.reduceEq, Int.reduceNeg, Int.reduceToNat, Nat.reducePow, reduceIte, reduceCtorEq, Cells, and_true, qc2]; done)|assumption)|((with_reducible apply xs_guard_no);(case hi=>rfl);(case hy=>rfl);(case hS=>assumption))|((first|((with_reducible apply xs_op);(case hi=>rfl))|((with_reducible apply xs_op_yes);(case hi=>rfl);(case hy=>rfl)));(case hr=>rfl);intro K hK; simp only [go_sem, Nat.reduceEqDiff, Nat.reduceAdd, Nat.reduceMul, Nat.reduceLeDiff, Nat.reduceLT, Int.reduceLT, Int.reduceLE, Int.reduceEq, Int.reduceNeg, Int.reduceToNat, Nat.reducePow, reduceIte, reduceCtorEq, qc2])|(with_reducible first|refine jA ?_|(refine hK _ _ ?_;clear hK K)|refine jJ fun K hK=>?_|refine jK ?_|refine jL ?_|refine jM ?_|refine jN ?_|refine jO ?_|refine jP ?_|refine jQ ?_|(refine jB ?_;clear hK K)|(refine jC ?_;clear hK K)|refine jD ?_|refine jE ?_|refine jG ?_|refine jH ?_|refine jI ?_)|((with_reducible refine jR ?hq ?_);case hq=>rfl)|((first|(with_reducible first|refine jS fun K hK=>?_|refine jT ?_|refine jU ?_)|((with_reducible refine jV ?hy fun K hK=>?_);case hy=>rfl));simp only [go_sem, Nat.reduceEqDiff, Nat.reduceAdd, Nat.reduceMul, Nat.reduceLeDiff, Nat.reduceLT, Int.reduceLT, Int.reduceLE, Int.reduceEq, Int.reduceNeg, Int.reduceToNat, Nat.reducePow, reduceIte, reduceCtorEq, qc2])|((with_reducible first|refine jW ?hy ?_|refine jY ?hy ?_);case hy=>rfl)|((with_reducible first|refine jX ?hy ?_|refine jZ ?hy ?_);case hy=>rfl)|((with_reducible refine jF ?hy ?_);case hy=>decide))
 refine d_evert P2.dc ok hR fun H3 hX hf3 => ?_
 obtain ⟨P3, n3⟩ := P2.setD (D' := fun H T => RXM H x T S2) (pF f S2) (pD x S2) hf3 hX fun _ h => .inl h
 have qc3 := qc2.frame hf3 fun y hy e => by have := apT y hy _ ⟨P2.cs, (extC_old (k := 2) (n' := H2.size) lH).trans hc0⟩; rw [P2.cd _ e] at this; omega
 have e1 : (c == c) = true := by simp
 repeat' (first|(with_reducible refine xs_nil ?_)|((first|((with_reducible apply xs_rd);case hi=>rfl)|((with_reducible apply xs_guard_yes);(case hi=>rfl);(case hy=>rfl)));(case hr=>rfl);(case h1=>intro H' hS'; (try simp only [Cells, and_true] at hS');simp only [go_sem, Nat.reduceEqDiff, Nat.reduceAdd, Nat.reduceMul, Nat.reduceLeDiff, Nat.reduceLT, Int.reduceLT, Int.reduceLE, Int.reduceEq, Int.reduceNeg, Int.reduceToNat, Nat.reducePow, reduceIte, reduceCtorEq, qc3, e1, hS']; rfl))|((with_reducible refine xs_tail ?hz ?_);case hz=>rfl)|((with_reducible refine xs_keep ?hz ?_);case hz=>first|(with_reducible assumption)|(simp only [go_sem, Nat.reduceEqDiff, Nat.reduceAdd, Nat.reduceMul, Nat.reduceLeDiff, Nat.reduceLT, Int.reduceLT, Int.reduceLE, Int.reduceEq, Int.reduceNeg, Int.reduceToNat, Nat.reducePow, reduceIte, reduceCtorEq, Cells, and_true, qc3, e1]; done)|assumption)|((with_reducible apply xs_guard_no);(case hi=>rfl);(case hy=>rfl);(case hS=>assumption))|((first|((with_reducible apply xs_op);(case hi=>rfl))|((with_reducible apply xs_op_yes);(case hi=>rfl);(case hy=>rfl)));(case hr=>rfl);intro K hK; simp only [go_sem, Nat.reduceEqDiff, Nat.reduceAdd, Nat.reduceMul, Nat.reduceLeDiff, Nat.reduceLT, Int.reduceLT, Int.reduceLE, Int.reduceEq, Int.reduceNeg, Int.reduceToNat, Nat.reducePow, reduceIte, reduceCtorEq, qc3, e1])|(with_reducible first|refine jA ?_|(refine hK _ _ ?_;clear hK K)|refine jJ fun K hK=>?_|refine jK ?_|refine jL ?_|refine jM ?_|refine jN ?_|refine jO ?_|refine jP ?_|refine jQ ?_|(refine jB ?_;clear hK K)|(refine jC ?_;clear hK K)|refine jD ?_|refine jE ?_|refine jG ?_|refine jH ?_|refine jI ?_)|((with_reducible refine jR ?hq ?_);case hq=>rfl)|((first|(with_reducible first|refine jS fun K hK=>?_|refine jT ?_|refine jU ?_)|((with_reducible refine jV ?hy fun K hK=>?_);case hy=>rfl));simp only [go_sem, Nat.reduceEqDiff, Nat.reduceAdd, Nat.reduceMul, Nat.reduceLeDiff, Nat.reduceLT, Int.reduceLT, Int.reduceLE, Int.reduceEq, Int.reduceNeg, Int.reduceToNat, Nat.reducePow, reduceIte, reduceCtorEq, qc3, e1])|((with_reducible first|refine jW ?hy ?_|refine jY ?hy ?_);case hy=>rfl)|((with_reducible first|refine jX ?hy ?_|refine jZ ?hy ?_);case hy=>rfl)|((with_reducible refine jF ?hy ?_);case hy=>decide))
 exact fin _ _ ⟨S2, f, x, hR.n.trans hn, L, T, TX, TA, va, TW, vw, P3, hL1, hL2⟩ ((n0.trans n2).trans n3)

theorem st4 (hS : LSd n H s col) (fin : ∀ H' col', LSd n H' s col' → Nx col col' H H' → K (.bool true) H') :
  CallsH Try.prog 19 #[.pointer (some ⟨s, 0, none⟩), opL 4 u v id w ot] H K := by
 have fr0 : Fr (fun _ => False) H (H.push (.cells #[.int .i64 4, .int .i64 u, .int .i64 v, .int .i64 id, .int .i64 w, .bool ot] 54)) := (Fr.refl _ _).push _
 have b1 := Blk.new H [.int .i64 4, .int .i64 u, .int .i64 v, .int .i64 id, .int .i64 w, .bool ot] 54
 obtain ⟨S, f, x, hn, hS⟩ := hS
 have hS1 := hS.grow (pF f S) (pD x S) fr0 (fun _ _ h => h)
 have n0 : Nx col col H (H.push (.cells #[.int .i64 4, .int .i64 u, .int .i64 v, .int .i64 id, .int .i64 w, .bool ot] 54)) := Nx.same fr0 fun _ h => h.elim
 have hc0 : col H.size = 0 := Decidable.byContradiction fun h => Nat.lt_irrefl _ (hS.lt h)
 have k0 := b1.cellOf (i := 0) rfl
 have k1 := b1.cellOf (i := 1) rfl
 have k2 := b1.cellOf (i := 2) rfl
 have k3 := b1.cellOf (i := 3) rfl
 have k4 := b1.cellOf (i := 4) rfl
 obtain ⟨L, T, TX, TA, va, TW, vw, P, hL1, hL2⟩ := hS1
 have c0 := P.b.cellOf (i := 0) rfl
 have c1 := P.b.cellOf (i := 1) rfl
 have ok : S.Ok := LtM.ok P.fo
 have q1 : ((4 : Int) == 1) = false := rfl
 have q2 : ((4 : Int) == 2) = false := rfl
 have q3 : ((4 : Int) == 3) = false := rfl
 have q4 : ((4 : Int) == 4) = true := rfl
 refine call19 (by simp) ?_
 simp only [Try.f19, Option.getD_some]
 repeat' (first|(with_reducible first|refine jA ?_|(refine hK _ _ ?_;clear hK K)|refine jJ fun K hK=>?_|refine jK ?_|refine jL ?_|refine jM ?_|refine jN ?_|refine jO ?_|refine jP ?_|refine jQ ?_|(refine jB ?_;clear hK K)|(refine jC ?_;clear hK K)|refine jD ?_|refine jE ?_|refine jG ?_|refine jH ?_|refine jI ?_)|((with_reducible refine jR ?hq ?_);case hq=>rfl)|((first|(with_reducible first|refine jS fun K hK=>?_|refine jT ?_|refine jU ?_)|((with_reducible refine jV ?hy fun K hK=>?_);case hy=>rfl));simp only [go_sem, Nat.reduceEqDiff, Nat.reduceAdd, Nat.reduceMul, Nat.reduceLeDiff, Nat.reduceLT, Int.reduceLT, Int.reduceLE, Int.reduceEq, Int.reduceNeg, Int.reduceToNat, Nat.reducePow, reduceIte, reduceCtorEq, k0, opL, q1, q2, q3, q4])|((with_reducible first|refine jW ?hy ?_|refine jY ?hy ?_);case hy=>rfl)|((with_reducible first|refine jX ?hy ?_|refine jZ ?hy ?_);case hy=>rfl)|((with_reducible refine jF ?hy ?_);case hy=>decide))
 generalize hH1 : H.push (.cells #[.int .i64 4, .int .i64 u, .int .i64 v, .int .i64 id, .int .i64 w, .bool ot] 54) = H1 at *
 have qc : Cells [(s, 0, .pointer (some ⟨f, 0, none⟩)), (s, 1, .pointer (some ⟨x, 0, none⟩)), (H.size, 1, .int .i64 u), (H.size, 2, .int .i64 v), (H.size, 3, .int .i64 id), (H.size, 4, .int .i64 w)] H1 := ⟨c0, c1, k1, k2, k3, k4, trivial⟩
 have apT : ∀ y ∈ ([(s, 0, .pointer (some ⟨f, 0, none⟩)), (s, 1, .pointer (some ⟨x, 0, none⟩)), (H.size, 1, .int .i64 u), (H.size, 2, .int .i64 v), (H.size, 3, .int .i64 id), (H.size, 4, .int .i64 w)] : List (Nat × Nat × Value)), ∀ c : Nat → Nat, (c s = 1 ∧ c H.size = 0) → c y.1 ≤ 1 := by
  intro y hy c hc
  simp only [List.mem_cons, List.not_mem_nil, or_false] at hy
  rcases hy with rfl | rfl | rfl | rfl | rfl | rfl <;> simp only [hc.1, hc.2] <;> omega
 have lH : H.size < H1.size := by rw [← hH1]; simp
 simp only [go_sem, Nat.reduceEqDiff, Nat.reduceAdd, Nat.reduceMul, Nat.reduceLeDiff, Nat.reduceLT, Int.reduceLT, Int.reduceLE, Int.reduceEq, Int.reduceNeg, Int.reduceToNat, Nat.reducePow, reduceIte, reduceCtorEq, c0, k1, k2]
 repeat' (first|(with_reducible first|refine jA ?_|(refine hK _ _ ?_;clear hK K)|refine jJ fun K hK=>?_|refine jK ?_|refine jL ?_|refine jM ?_|refine jN ?_|refine jO ?_|refine jP ?_|refine jQ ?_|(refine jB ?_;clear hK K)|(refine jC ?_;clear hK K)|refine jD ?_|refine jE ?_|refine jG ?_|refine jH ?_|refine jI ?_)|((with_reducible refine jR ?hq ?_);case hq=>rfl)|((first|(with_reducible first|refine jS fun K hK=>?_|refine jT ?_|refine jU ?_)|((with_reducible refine jV ?hy fun K hK=>?_);case hy=>rfl));simp only [go_sem, Nat.reduceEqDiff, Nat.reduceAdd, Nat.reduceMul, Nat.reduceLeDiff, Nat.reduceLT, Int.reduceLT, Int.reduceLE, Int.reduceEq, Int.reduceNeg, Int.reduceToNat, Nat.reducePow, reduceIte, reduceCtorEq, c0, k1, k2])|((with_reducible first|refine jW ?hy ?_|refine jY ?hy ?_);case hy=>rfl)|((with_reducible first|refine jX ?hy ?_|refine jZ ?hy ?_);case hy=>rfl)|((with_reducible refine jF ?hy ?_);case hy=>decide))
 refine p_root P.fo fun H2 r c hR hM hf => ?_
 obtain ⟨P2, n2⟩ := P.keepF (F' := fun H T => LtM H f T S) (pD x S) hf hM
 have qc2 := qc.frame hf fun y hy e => by have := apT y hy col ⟨P.cs, hc0⟩; rw [P.cf _ e] at this; omega
 have d1 := qc2.2.1
 have j1 := qc2.2.2.1
 have j2 := qc2.2.2.2.1
 repeat' (first|(with_reducible first|refine jA ?_|(refine hK _ _ ?_;clear hK K)|refine jJ fun K hK=>?_|refine jK ?_|refine jL ?_|refine jM ?_|refine jN ?_|refine jO ?_|refine jP ?_|refine jQ ?_|(refine jB ?_;clear hK K)|(refine jC ?_;clear hK K)|refine jD ?_|refine jE ?_|refine jG ?_|refine jH ?_|refine jI ?_)|((with_reducible refine jR ?hq ?_);case hq=>rfl)|((first|(with_reducible first|refine jS fun K hK=>?_|refine jT ?_|refine jU ?_)|((with_reducible refine jV ?hy fun K hK=>?_);case hy=>rfl));simp only [go_sem, Nat.reduceEqDiff, Nat.reduceAdd, Nat.reduceMul, Nat.reduceLeDiff, Nat.reduceLT, Int.reduceLT, Int.reduceLE, Int.reduceEq, Int.reduceNeg, Int.reduceToNat, Nat.reducePow, reduceIte, reduceCtorEq, d1, j1, j2])|((with_reducible first|refine jW ?hy ?_|refine jY ?hy ?_);case hy=>rfl)|((with_reducible first|refine jX ?hy ?_|refine jZ ?hy ?_);case hy=>rfl)|((with_reducible refine jF ?hy ?_);case hy=>decide))
 refine d_root P2.dc ok hR ?_
 have e1 : (c == c) = true := by simp
 have e2 : (r == r) = true := by simp
 repeat' (first|(with_reducible first|refine jA ?_|(refine hK _ _ ?_;clear hK K)|refine jJ fun K hK=>?_|refine jK ?_|refine jL ?_|refine jM ?_|refine jN ?_|refine jO ?_|refine jP ?_|refine jQ ?_|(refine jB ?_;clear hK K)|(refine jC ?_;clear hK K)|refine jD ?_|refine jE ?_|refine jG ?_|refine jH ?_|refine jI ?_)|((with_reducible refine jR ?hq ?_);case hq=>rfl)|((first|(with_reducible first|refine jS fun K hK=>?_|refine jT ?_|refine jU ?_)|((with_reducible refine jV ?hy fun K hK=>?_);case hy=>rfl));simp only [go_sem, Nat.reduceEqDiff, Nat.reduceAdd, Nat.reduceMul, Nat.reduceLeDiff, Nat.reduceLT, Int.reduceLT, Int.reduceLE, Int.reduceEq, Int.reduceNeg, Int.reduceToNat, Nat.reducePow, reduceIte, reduceCtorEq, e1, e2])|((with_reducible first|refine jW ?hy ?_|refine jY ?hy ?_);case hy=>rfl)|((with_reducible first|refine jX ?hy ?_|refine jZ ?hy ?_);case hy=>rfl)|((with_reducible refine jF ?hy ?_);case hy=>decide))
 exact fin _ _ ⟨S, f, x, hn, L, T, TX, TA, va, TW, vw, P2, hL1, hL2⟩ (n0.trans n2)

theorem st5 (hS : LSd n H s col) (fin : ∀ H' col', LSd n H' s col' → Nx col col' H H' → K (.bool true) H') :
  CallsH Try.prog 19 #[.pointer (some ⟨s, 0, none⟩), opL 5 u v id w ot] H K := by
 have fr0 : Fr (fun _ => False) H (H.push (.cells #[.int .i64 5, .int .i64 u, .int .i64 v, .int .i64 id, .int .i64 w, .bool ot] 54)) := (Fr.refl _ _).push _
 have b1 := Blk.new H [.int .i64 5, .int .i64 u, .int .i64 v, .int .i64 id, .int .i64 w, .bool ot] 54
 obtain ⟨S, f, x, hn, hS⟩ := hS
 have hS1 := hS.grow (pF f S) (pD x S) fr0 (fun _ _ h => h)
 have n0 : Nx col col H (H.push (.cells #[.int .i64 5, .int .i64 u, .int .i64 v, .int .i64 id, .int .i64 w, .bool ot] 54)) := Nx.same fr0 fun _ h => h.elim
 have hc0 : col H.size = 0 := Decidable.byContradiction fun h => Nat.lt_irrefl _ (hS.lt h)
 have k0 := b1.cellOf (i := 0) rfl
 have k1 := b1.cellOf (i := 1) rfl
 have k2 := b1.cellOf (i := 2) rfl
 have k3 := b1.cellOf (i := 3) rfl
 have k4 := b1.cellOf (i := 4) rfl
 obtain ⟨L, T, TX, TA, va, TW, vw, P, hL1, hL2⟩ := hS1
 have c0 := P.b.cellOf (i := 0) rfl
 have c1 := P.b.cellOf (i := 1) rfl
 have ok : S.Ok := LtM.ok P.fo
 have q1 : ((5 : Int) == 1) = false := rfl
 have q2 : ((5 : Int) == 2) = false := rfl
 have q3 : ((5 : Int) == 3) = false := rfl
 have q4 : ((5 : Int) == 4) = false := rfl
 have q5 : ((5 : Int) == 5) = true := rfl
 refine call19 (by simp) ?_
 simp only [Try.f19, Option.getD_some]
 repeat' (first|(with_reducible first|refine jA ?_|(refine hK _ _ ?_;clear hK K)|refine jJ fun K hK=>?_|refine jK ?_|refine jL ?_|refine jM ?_|refine jN ?_|refine jO ?_|refine jP ?_|refine jQ ?_|(refine jB ?_;clear hK K)|(refine jC ?_;clear hK K)|refine jD ?_|refine jE ?_|refine jG ?_|refine jH ?_|refine jI ?_)|((with_reducible refine jR ?hq ?_);case hq=>rfl)|((first|(with_reducible first|refine jS fun K hK=>?_|refine jT ?_|refine jU ?_)|((with_reducible refine jV ?hy fun K hK=>?_);case hy=>rfl));simp only [go_sem, Nat.reduceEqDiff, Nat.reduceAdd, Nat.reduceMul, Nat.reduceLeDiff, Nat.reduceLT, Int.reduceLT, Int.reduceLE, Int.reduceEq, Int.reduceNeg, Int.reduceToNat, Nat.reducePow, reduceIte, reduceCtorEq, k0, opL, q1, q2, q3, q4, q5])|((with_reducible first|refine jW ?hy ?_|refine jY ?hy ?_);case hy=>rfl)|((with_reducible first|refine jX ?hy ?_|refine jZ ?hy ?_);case hy=>rfl)|((with_reducible refine jF ?hy ?_);case hy=>decide))
 generalize hH1 : H.push (.cells #[.int .i64 5, .int .i64 u, .int .i64 v, .int .i64 id, .int .i64 w, .bool ot] 54) = H1 at *
 have qc : Cells [(s, 0, .pointer (some ⟨f, 0, none⟩)), (s, 1, .pointer (some ⟨x, 0, none⟩)), (H.size, 1, .int .i64 u), (H.size, 2, .int .i64 v), (H.size, 3, .int .i64 id), (H.size, 4, .int .i64 w)] H1 := ⟨c0, c1, k1, k2, k3, k4, trivial⟩
 have apT : ∀ y ∈ ([(s, 0, .pointer (some ⟨f, 0, none⟩)), (s, 1, .pointer (some ⟨x, 0, none⟩)), (H.size, 1, .int .i64 u), (H.size, 2, .int .i64 v), (H.size, 3, .int .i64 id), (H.size, 4, .int .i64 w)] : List (Nat × Nat × Value)), ∀ c : Nat → Nat, (c s = 1 ∧ c H.size = 0) → c y.1 ≤ 1 := by
  intro y hy c hc
  simp only [List.mem_cons, List.not_mem_nil, or_false] at hy
  rcases hy with rfl | rfl | rfl | rfl | rfl | rfl <;> simp only [hc.1, hc.2] <;> omega
 have lH : H.size < H1.size := by rw [← hH1]; simp
 simp only [go_sem, Nat.reduceEqDiff, Nat.reduceAdd, Nat.reduceMul, Nat.reduceLeDiff, Nat.reduceLT, Int.reduceLT, Int.reduceLE, Int.reduceEq, Int.reduceNeg, Int.reduceToNat, Nat.reducePow, reduceIte, reduceCtorEq, c0, k1, k2]
 repeat' (first|(with_reducible first|refine jA ?_|(refine hK _ _ ?_;clear hK K)|refine jJ fun K hK=>?_|refine jK ?_|refine jL ?_|refine jM ?_|refine jN ?_|refine jO ?_|refine jP ?_|refine jQ ?_|(refine jB ?_;clear hK K)|(refine jC ?_;clear hK K)|refine jD ?_|refine jE ?_|refine jG ?_|refine jH ?_|refine jI ?_)|((with_reducible refine jR ?hq ?_);case hq=>rfl)|((first|(with_reducible first|refine jS fun K hK=>?_|refine jT ?_|refine jU ?_)|((with_reducible refine jV ?hy fun K hK=>?_);case hy=>rfl));simp only [go_sem, Nat.reduceEqDiff, Nat.reduceAdd, Nat.reduceMul, Nat.reduceLeDiff, Nat.reduceLT, Int.reduceLT, Int.reduceLE, Int.reduceEq, Int.reduceNeg, Int.reduceToNat, Nat.reducePow, reduceIte, reduceCtorEq, c0, k1, k2])|((with_reducible first|refine jW ?hy ?_|refine jY ?hy ?_);case hy=>rfl)|((with_reducible first|refine jX ?hy ?_|refine jZ ?hy ?_);case hy=>rfl)|((with_reducible refine jF ?hy ?_);case hy=>decide))
 refine p_same P.fo fun H2 is c hR hM hf => ?_
 obtain ⟨P2, n2⟩ := P.keepF (F' := fun H T => LtM H f T S) (pD x S) hf hM
 have qc2 := qc.frame hf fun y hy e => by have := apT y hy col ⟨P.cs, hc0⟩; rw [P.cf _ e] at this; omega
 have d1 := qc2.2.1
 have j1 := qc2.2.2.1
 have j2 := qc2.2.2.2.1
 repeat' (first|(with_reducible first|refine jA ?_|(refine hK _ _ ?_;clear hK K)|refine jJ fun K hK=>?_|refine jK ?_|refine jL ?_|refine jM ?_|refine jN ?_|refine jO ?_|refine jP ?_|refine jQ ?_|(refine jB ?_;clear hK K)|(refine jC ?_;clear hK K)|refine jD ?_|refine jE ?_|refine jG ?_|refine jH ?_|refine jI ?_)|((with_reducible refine jR ?hq ?_);case hq=>rfl)|((first|(with_reducible first|refine jS fun K hK=>?_|refine jT ?_|refine jU ?_)|((with_reducible refine jV ?hy fun K hK=>?_);case hy=>rfl));simp only [go_sem, Nat.reduceEqDiff, Nat.reduceAdd, Nat.reduceMul, Nat.reduceLeDiff, Nat.reduceLT, Int.reduceLT, Int.reduceLE, Int.reduceEq, Int.reduceNeg, Int.reduceToNat, Nat.reducePow, reduceIte, reduceCtorEq, d1, j1, j2])|((with_reducible first|refine jW ?hy ?_|refine jY ?hy ?_);case hy=>rfl)|((with_reducible first|refine jX ?hy ?_|refine jZ ?hy ?_);case hy=>rfl)|((with_reducible refine jF ?hy ?_);case hy=>decide))
 refine d_same P2.dc ok hR ?_
 have e1 : (c == c) = true := by simp
 have e2 : (is == is) = true := by simp
 repeat' (first|(with_reducible first|refine jA ?_|(refine hK _ _ ?_;clear hK K)|refine jJ fun K hK=>?_|refine jK ?_|refine jL ?_|refine jM ?_|refine jN ?_|refine jO ?_|refine jP ?_|refine jQ ?_|(refine jB ?_;clear hK K)|(refine jC ?_;clear hK K)|refine jD ?_|refine jE ?_|refine jG ?_|refine jH ?_|refine jI ?_)|((with_reducible refine jR ?hq ?_);case hq=>rfl)|((first|(with_reducible first|refine jS fun K hK=>?_|refine jT ?_|refine jU ?_)|((with_reducible refine jV ?hy fun K hK=>?_);case hy=>rfl));simp only [go_sem, Nat.reduceEqDiff, Nat.reduceAdd, Nat.reduceMul, Nat.reduceLeDiff, Nat.reduceLT, Int.reduceLT, Int.reduceLE, Int.reduceEq, Int.reduceNeg, Int.reduceToNat, Nat.reducePow, reduceIte, reduceCtorEq, e1, e2])|((with_reducible first|refine jW ?hy ?_|refine jY ?hy ?_);case hy=>rfl)|((with_reducible first|refine jX ?hy ?_|refine jZ ?hy ?_);case hy=>rfl)|((with_reducible refine jF ?hy ?_);case hy=>decide))
 exact fin _ _ ⟨S, f, x, hn, L, T, TX, TA, va, TW, vw, P2, hL1, hL2⟩ (n0.trans n2)

theorem st6 (hS : LSd n H s col) (fin : ∀ H' col', LSd n H' s col' → Nx col col' H H' → K (.bool true) H') :
  CallsH Try.prog 19 #[.pointer (some ⟨s, 0, none⟩), opL 6 u v id w ot] H K := by
 have fr0 : Fr (fun _ => False) H (H.push (.cells #[.int .i64 6, .int .i64 u, .int .i64 v, .int .i64 id, .int .i64 w, .bool ot] 54)) := (Fr.refl _ _).push _
 have b1 := Blk.new H [.int .i64 6, .int .i64 u, .int .i64 v, .int .i64 id, .int .i64 w, .bool ot] 54
 obtain ⟨S, f, x, hn, hS⟩ := hS
 have hS1 := hS.grow (pF f S) (pD x S) fr0 (fun _ _ h => h)
 have n0 : Nx col col H (H.push (.cells #[.int .i64 6, .int .i64 u, .int .i64 v, .int .i64 id, .int .i64 w, .bool ot] 54)) := Nx.same fr0 fun _ h => h.elim
 have hc0 : col H.size = 0 := Decidable.byContradiction fun h => Nat.lt_irrefl _ (hS.lt h)
 have k0 := b1.cellOf (i := 0) rfl
 have k1 := b1.cellOf (i := 1) rfl
 have k2 := b1.cellOf (i := 2) rfl
 have k3 := b1.cellOf (i := 3) rfl
 have k4 := b1.cellOf (i := 4) rfl
 obtain ⟨L, T, TX, TA, va, TW, vw, P, hL1, hL2⟩ := hS1
 have c0 := P.b.cellOf (i := 0) rfl
 have c1 := P.b.cellOf (i := 1) rfl
 have ok : S.Ok := LtM.ok P.fo
 have q1 : ((6 : Int) == 1) = false := rfl
 have q2 : ((6 : Int) == 2) = false := rfl
 have q3 : ((6 : Int) == 3) = false := rfl
 have q4 : ((6 : Int) == 4) = false := rfl
 have q5 : ((6 : Int) == 5) = false := rfl
 have q6 : ((6 : Int) == 6) = true := rfl
 refine call19 (by simp) ?_
 simp only [Try.f19, Option.getD_some]
 repeat' (first|(with_reducible first|refine jA ?_|(refine hK _ _ ?_;clear hK K)|refine jJ fun K hK=>?_|refine jK ?_|refine jL ?_|refine jM ?_|refine jN ?_|refine jO ?_|refine jP ?_|refine jQ ?_|(refine jB ?_;clear hK K)|(refine jC ?_;clear hK K)|refine jD ?_|refine jE ?_|refine jG ?_|refine jH ?_|refine jI ?_)|((with_reducible refine jR ?hq ?_);case hq=>rfl)|((first|(with_reducible first|refine jS fun K hK=>?_|refine jT ?_|refine jU ?_)|((with_reducible refine jV ?hy fun K hK=>?_);case hy=>rfl));simp only [go_sem, Nat.reduceEqDiff, Nat.reduceAdd, Nat.reduceMul, Nat.reduceLeDiff, Nat.reduceLT, Int.reduceLT, Int.reduceLE, Int.reduceEq, Int.reduceNeg, Int.reduceToNat, Nat.reducePow, reduceIte, reduceCtorEq, k0, opL, q1, q2, q3, q4, q5, q6])|((with_reducible first|refine jW ?hy ?_|refine jY ?hy ?_);case hy=>rfl)|((with_reducible first|refine jX ?hy ?_|refine jZ ?hy ?_);case hy=>rfl)|((with_reducible refine jF ?hy ?_);case hy=>decide))
 generalize hH1 : H.push (.cells #[.int .i64 6, .int .i64 u, .int .i64 v, .int .i64 id, .int .i64 w, .bool ot] 54) = H1 at *
 have qc : Cells [(s, 0, .pointer (some ⟨f, 0, none⟩)), (s, 1, .pointer (some ⟨x, 0, none⟩)), (H.size, 1, .int .i64 u), (H.size, 2, .int .i64 v), (H.size, 3, .int .i64 id), (H.size, 4, .int .i64 w)] H1 := ⟨c0, c1, k1, k2, k3, k4, trivial⟩
 have apT : ∀ y ∈ ([(s, 0, .pointer (some ⟨f, 0, none⟩)), (s, 1, .pointer (some ⟨x, 0, none⟩)), (H.size, 1, .int .i64 u), (H.size, 2, .int .i64 v), (H.size, 3, .int .i64 id), (H.size, 4, .int .i64 w)] : List (Nat × Nat × Value)), ∀ c : Nat → Nat, (c s = 1 ∧ c H.size = 0) → c y.1 ≤ 1 := by
  intro y hy c hc
  simp only [List.mem_cons, List.not_mem_nil, or_false] at hy
  rcases hy with rfl | rfl | rfl | rfl | rfl | rfl <;> simp only [hc.1, hc.2] <;> omega
 have lH : H.size < H1.size := by rw [← hH1]; simp
 have tail : ∀ (e' : Env) (H' : Heap) (q : Nat) (e : Ed) (c : Int), MostR S u v e c → e' 0 = .pointer (some ⟨s, 0, none⟩) → e' 3 = .pointer (some ⟨H.size, 0, none⟩) → e' 13 = .pointer (some ⟨q, 0, none⟩) → e' 14 = .int .i64 c → H1.size ≤ q → Blk H' q e.cells → LtM H' f T S → Fr T H1 H' → K e' H' := by
  intro e' H' q e c hR i0 i3 i13 i14 hq bq hM hf
  refine hK _ _ ?_
  clear hK K
  obtain ⟨P2, n2⟩ := P.keepF (F' := fun H T => LtM H f T S) (pD x S) hf hM
  have qc2 := qc.frame hf fun y hy e => by have := apT y hy col ⟨P.cs, hc0⟩; rw [P.cf _ e] at this; omega
  repeat' (first|(with_reducible first|refine jA ?_|(refine hK _ _ ?_;clear hK K)|refine jJ fun K hK=>?_|refine jK ?_|refine jL ?_|refine jM ?_|refine jN ?_|refine jO ?_|refine jP ?_|refine jQ ?_|(refine jB ?_;clear hK K)|(refine jC ?_;clear hK K)|refine jD ?_|refine jE ?_|refine jG ?_|refine jH ?_|refine jI ?_)|((with_reducible refine jR ?hq ?_);case hq=>rfl)|((first|(with_reducible first|refine jS fun K hK=>?_|refine jT ?_|refine jU ?_)|((with_reducible refine jV ?hy fun K hK=>?_);case hy=>rfl));simp only [go_sem, Nat.reduceEqDiff, Nat.reduceAdd, Nat.reduceMul, Nat.reduceLeDiff, Nat.reduceLT, Int.reduceLT, Int.reduceLE, Int.reduceEq, Int.reduceNeg, Int.reduceToNat, Nat.reducePow, reduceIte, reduceCtorEq])|((with_reducible first|refine jW ?hy ?_|refine jY ?hy ?_);case hy=>rfl)|((with_reducible first|refine jX ?hy ?_|refine jZ ?hy ?_);case hy=>rfl)|((with_reducible refine jF ?hy ?_);case hy=>decide))
  have tail2 : ∀ (e2 : Env) (H2 : Heap) (p : Nat), e2 13 = .pointer (some ⟨q, 0, none⟩) → e2 14 = .int .i64 c → e2 15 = .pointer (some ⟨p, 0, none⟩) → e2 16 = .int .i64 c → Blk H2 p e.cells → Fr (fun _ => False) H' H2 → K e2 H2 := by
   intro e2 H2 p j13 j14 j15 j16 bp hf2
   refine hK _ _ ?_
   clear hK K
   have r0 := (bq.frame hf2 fun h => h).cellOf (i := 0) rfl
   have r1 := (bq.frame hf2 fun h => h).cellOf (i := 1) rfl
   have r2 := (bq.frame hf2 fun h => h).cellOf (i := 2) rfl
   have r3 := (bq.frame hf2 fun h => h).cellOf (i := 3) rfl
   have s0 := bp.cellOf (i := 0) rfl
   have s1 := bp.cellOf (i := 1) rfl
   have s2 := bp.cellOf (i := 2) rfl
   have s3 := bp.cellOf (i := 3) rfl
   have e1 : (c == c) = true := by simp
   repeat' (first|(with_reducible first|refine jA ?_|(refine hK _ _ ?_;clear hK K)|refine jJ fun K hK=>?_|refine jK ?_|refine jL ?_|refine jM ?_|refine jN ?_|refine jO ?_|refine jP ?_|refine jQ ?_|(refine jB ?_;clear hK K)|(refine jC ?_;clear hK K)|refine jD ?_|refine jE ?_|refine jG ?_|refine jH ?_|refine jI ?_)|((with_reducible refine jR ?hq ?_);case hq=>rfl)|((first|(with_reducible first|refine jS fun K hK=>?_|refine jT ?_|refine jU ?_)|((with_reducible refine jV ?hy fun K hK=>?_);case hy=>rfl));simp only [go_sem, Nat.reduceEqDiff, Nat.reduceAdd, Nat.reduceMul, Nat.reduceLeDiff, Nat.reduceLT, Int.reduceLT, Int.reduceLE, Int.reduceEq, Int.reduceNeg, Int.reduceToNat, Nat.reducePow, reduceIte, reduceCtorEq, j13, j14, j15, j16, r0, r1, r2, r3, s0, s1, s2, s3, e1])|((with_reducible first|refine jW ?hy ?_|refine jY ?hy ?_);case hy=>rfl)|((with_reducible first|refine jX ?hy ?_|refine jZ ?hy ?_);case hy=>rfl)|((with_reducible refine jF ?hy ?_);case hy=>decide))
   refine edge_eq (a := e) (b := e) ?_
   simp only [decide_true]
   repeat' (first|(with_reducible first|refine jA ?_|(refine hK _ _ ?_;clear hK K)|refine jJ fun K hK=>?_|refine jK ?_|refine jL ?_|refine jM ?_|refine jN ?_|refine jO ?_|refine jP ?_|refine jQ ?_|(refine jB ?_;clear hK K)|(refine jC ?_;clear hK K)|refine jD ?_|refine jE ?_|refine jG ?_|refine jH ?_|refine jI ?_)|((with_reducible refine jR ?hq ?_);case hq=>rfl)|((first|(with_reducible first|refine jS fun K hK=>?_|refine jT ?_|refine jU ?_)|((with_reducible refine jV ?hy fun K hK=>?_);case hy=>rfl));simp only [go_sem, Nat.reduceEqDiff, Nat.reduceAdd, Nat.reduceMul, Nat.reduceLeDiff, Nat.reduceLT, Int.reduceLT, Int.reduceLE, Int.reduceEq, Int.reduceNeg, Int.reduceToNat, Nat.reducePow, reduceIte, reduceCtorEq, j14, j16, e1])|((with_reducible first|refine jW ?hy ?_|refine jY ?hy ?_);case hy=>rfl)|((with_reducible first|refine jX ?hy ?_|refine jZ ?hy ?_);case hy=>rfl)|((with_reducible refine jF ?hy ?_);case hy=>decide))
   exact fin _ _ ⟨S, f, x, hn, L, T, TX, TA, va, TW, vw, P2.grow (pF f S) (pD x S) hf2 (fun _ _ h => h), hL1, hL2⟩ ((n0.trans n2).trans (Nx.same hf2 fun _ h => h.elim))
  refine x_drawF (.fork [0, 1, 2, 3, 4, 5, 6, 7] 8 (.lin [] [9, 10, 11, 12, 13, 14]) 12 (.lin [] [8, 9, 10, 11, 13, 14])) rfl (by kernel_rfl) (Cells _) qc2 ?_
  refine xf_fork ?_
  repeat' (first|(with_reducible refine xs_nil ?_)|((first|((with_reducible apply xs_rd);case hi=>rfl)|((with_reducible apply xs_guard_yes);(case hi=>rfl);(case hy=>rfl)));(case hr=>rfl);(case h1=>intro H' hS'; (try simp only [Cells, and_true] at hS');simp only [go_sem, Nat.reduceEqDiff, Nat.reduceAdd, Nat.reduceMul, Nat.reduceLeDiff, Nat.reduceLT, Int.reduceLT, Int.reduceLE, Int.reduceEq, Int.reduceNeg, Int.reduceToNat, Nat.reducePow, reduceIte, reduceCtorEq, i0, i3, hS']; rfl))|((with_reducible refine xs_tail ?hz ?_);case hz=>rfl)|((with_reducible refine xs_keep ?hz ?_);case hz=>first|(with_reducible assumption)|(simp only [go_sem, Nat.reduceEqDiff, Nat.reduceAdd, Nat.reduceMul, Nat.reduceLeDiff, Nat.reduceLT, Int.reduceLT, Int.reduceLE, Int.reduceEq, Int.reduceNeg, Int.reduceToNat, Nat.reducePow, reduceIte, reduceCtorEq, Cells, and_true, i0, i3]; done)|assumption)|((with_reducible apply xs_guard_no);(case hi=>rfl);(case hy=>rfl);(case hS=>assumption))|((first|((with_reducible apply xs_op);(case hi=>rfl))|((with_reducible apply xs_op_yes);(case hi=>rfl);(case hy=>rfl)));(case hr=>rfl);intro K hK; simp only [go_sem, Nat.reduceEqDiff, Nat.reduceAdd, Nat.reduceMul, Nat.reduceLeDiff, Nat.reduceLT, Int.reduceLT, Int.reduceLE, Int.reduceEq, Int.reduceNeg, Int.reduceToNat, Nat.reducePow, reduceIte, reduceCtorEq, i0, i3])|(with_reducible first|refine jA ?_|(refine hK _ _ ?_;clear hK K)|refine jJ fun K hK=>?_|refine jK ?_|refine jL ?_|refine jM ?_|refine jN ?_|refine jO ?_|refine jP ?_|refine jQ ?_|(refine jB ?_;clear hK K)|(refine jC ?_;clear hK K)|refine jD ?_|refine jE ?_|refine jG ?_|refine jH ?_|refine jI ?_)|((with_reducible refine jR ?hq ?_);case hq=>rfl)|((first|(with_reducible first|refine jS fun K hK=>?_|refine jT ?_|refine jU ?_)|((with_reducible refine jV ?hy fun K hK=>?_);case hy=>rfl));simp only [go_sem, Nat.reduceEqDiff, Nat.reduceAdd, Nat.reduceMul, Nat.reduceLeDiff, Nat.reduceLT, Int.reduceLT, Int.reduceLE, Int.reduceEq, Int.reduceNeg, Int.reduceToNat, Nat.reducePow, reduceIte, reduceCtorEq, i0, i3])|((with_reducible first|refine jW ?hy ?_|refine jY ?hy ?_);case hy=>rfl)|((with_reducible first|refine jX ?hy ?_|refine jZ ?hy ?_);case hy=>rfl)|((with_reducible refine jF ?hy ?_);case hy=>decide))
  refine ⟨?_, ?_⟩
  ·repeat' (first|(with_reducible refine xs_nil ?_)|((first|((with_reducible apply xs_rd);case hi=>rfl)|((with_reducible apply xs_guard_yes);(case hi=>rfl);(case hy=>rfl)));(case hr=>rfl);(case h1=>intro H' hS'; (try simp only [Cells, and_true] at hS');simp only [go_sem, Nat.reduceEqDiff, Nat.reduceAdd, Nat.reduceMul, Nat.reduceLeDiff, Nat.reduceLT, Int.reduceLT, Int.reduceLE, Int.reduceEq, Int.reduceNeg, Int.reduceToNat, Nat.reducePow, reduceIte, reduceCtorEq, qc2, hS']; rfl))|((with_reducible refine xs_tail ?hz ?_);case hz=>rfl)|((with_reducible refine xs_keep ?hz ?_);case hz=>first|(with_reducible assumption)|(simp only [go_sem, Nat.reduceEqDiff, Nat.reduceAdd, Nat.reduceMul, Nat.reduceLeDiff, Nat.reduceLT, Int.reduceLT, Int.reduceLE, Int.reduceEq, Int.reduceNeg, Int.reduceToNat, Nat.reducePow, reduceIte, reduceCtorEq, Cells, and_true, qc2]; done)|assumption)|((with_reducible apply xs_guard_no);(case hi=>rfl);(case hy=>rfl);(case hS=>assumption))|((first|((with_reducible apply xs_op);(case hi=>rfl))|((with_reducible apply xs_op_yes);(case hi=>rfl);(case hy=>rfl)));(case hr=>rfl);intro K hK; simp only [go_sem, Nat.reduceEqDiff, Nat.reduceAdd, Nat.reduceMul, Nat.reduceLeDiff, Nat.reduceLT, Int.reduceLT, Int.reduceLE, Int.reduceEq, Int.reduceNeg, Int.reduceToNat, Nat.reducePow, reduceIte, reduceCtorEq, qc2])|(with_reducible first|refine jA ?_|(refine hK _ _ ?_;clear hK K)|refine jJ fun K hK=>?_|refine jK ?_|refine jL ?_|refine jM ?_|refine jN ?_|refine jO ?_|refine jP ?_|refine jQ ?_|(refine jB ?_;clear hK K)|(refine jC ?_;clear hK K)|refine jD ?_|refine jE ?_|refine jG ?_|refine jH ?_|refine jI ?_)|((with_reducible refine jR ?hq ?_);case hq=>rfl)|((first|(with_reducible first|refine jS fun K hK=>?_|refine jT ?_|refine jU ?_)|((with_reducible refine jV ?hy fun K hK=>?_);case hy=>rfl));simp only [go_sem, Nat.reduceEqDiff, Nat.reduceAdd, Nat.reduceMul, Nat.reduceLeDiff, Nat.reduceLT, Int.reduceLT, Int.reduceLE, Int.reduceEq, Int.reduceNeg, Int.reduceToNat, Nat.reducePow, reduceIte, reduceCtorEq, qc2])|((with_reducible first|refine jW ?hy ?_|refine jY ?hy ?_);case hy=>rfl)|((with_reducible first|refine jX ?hy ?_|refine jZ ?hy ?_);case hy=>rfl)|((with_reducible refine jF ?hy ?_);case hy=>decide))
   refine d_most P2.dc ok hR fun H2 hf2 => ?_
   have q2 := qc2.grow hf2
   have fp : Fr (fun _ => False) H2 (H2.push (.cells #[.int .i64 0, .int .i64 0, .int .i64 0, .int .i64 0] 31)) := (Fr.refl _ _).push _
   have bn := Blk.new H2 [.int .i64 0, .int .i64 0, .int .i64 0, .int .i64 0] 31
   have w0 := bn.okW (i := 0) (by simp)
   have w1 := bn.okW (i := 1) (by simp)
   have w2 := bn.okW (i := 2) (by simp)
   have w3 := bn.okW (i := 3) (by simp)
   obtain ⟨bp, fa⟩ := edge_box (H := H2) e (T0 := 31)
   have q3 := q2.grow fp
   have q4 := q2.grow fa
   simp only [Ed.val]
   repeat' (first|(with_reducible refine xs_nil ?_)|((first|((with_reducible apply xs_rd);case hi=>rfl)|((with_reducible apply xs_guard_yes);(case hi=>rfl);(case hy=>rfl)));(case hr=>rfl);(case h1=>intro H' hS'; (try simp only [Cells, and_true] at hS');simp only [go_sem, Nat.reduceEqDiff, Nat.reduceAdd, Nat.reduceMul, Nat.reduceLeDiff, Nat.reduceLT, Int.reduceLT, Int.reduceLE, Int.reduceEq, Int.reduceNeg, Int.reduceToNat, Nat.reducePow, reduceIte, reduceCtorEq, q2, hS']; rfl))|((with_reducible refine xs_tail ?hz ?_);case hz=>rfl)|((with_reducible refine xs_keep ?hz ?_);case hz=>first|(with_reducible assumption)|(simp only [go_sem, Nat.reduceEqDiff, Nat.reduceAdd, Nat.reduceMul, Nat.reduceLeDiff, Nat.reduceLT, Int.reduceLT, Int.reduceLE, Int.reduceEq, Int.reduceNeg, Int.reduceToNat, Nat.reducePow, reduceIte, reduceCtorEq, Cells, and_true, q2]; done)|assumption)|((with_reducible apply xs_guard_no);(case hi=>rfl);(case hy=>rfl);(case hS=>assumption))|((first|((with_reducible apply xs_op);(case hi=>rfl))|((with_reducible apply xs_op_yes);(case hi=>rfl);(case hy=>rfl)));(case hr=>rfl);intro K hK; simp only [go_sem, Nat.reduceEqDiff, Nat.reduceAdd, Nat.reduceMul, Nat.reduceLeDiff, Nat.reduceLT, Int.reduceLT, Int.reduceLE, Int.reduceEq, Int.reduceNeg, Int.reduceToNat, Nat.reducePow, reduceIte, reduceCtorEq, q2])|(with_reducible first|refine jA ?_|(refine hK _ _ ?_;clear hK K)|refine jJ fun K hK=>?_|refine jK ?_|refine jL ?_|refine jM ?_|refine jN ?_|refine jO ?_|refine jP ?_|refine jQ ?_|(refine jB ?_;clear hK K)|(refine jC ?_;clear hK K)|refine jD ?_|refine jE ?_|refine jG ?_|refine jH ?_|refine jI ?_)|((with_reducible refine jR ?hq ?_);case hq=>rfl)|((first|(with_reducible first|refine jS fun K hK=>?_|refine jT ?_|refine jU ?_)|((with_reducible refine jV ?hy fun K hK=>?_);case hy=>rfl));simp only [go_sem, Nat.reduceEqDiff, Nat.reduceAdd, Nat.reduceMul, Nat.reduceLeDiff, Nat.reduceLT, Int.reduceLT, Int.reduceLE, Int.reduceEq, Int.reduceNeg, Int.reduceToNat, Nat.reducePow, reduceIte, reduceCtorEq, q2])|((with_reducible first|refine jW ?hy ?_|refine jY ?hy ?_);case hy=>rfl)|((with_reducible first|refine jX ?hy ?_|refine jZ ?hy ?_);case hy=>rfl)|((with_reducible refine jF ?hy ?_);case hy=>decide))
   refine xf_lin ?_
   repeat' (first|(with_reducible refine xs_nil ?_)|((first|((with_reducible apply xs_rd);case hi=>rfl)|((with_reducible apply xs_guard_yes);(case hi=>rfl);(case hy=>rfl)));(case hr=>rfl);(case h1=>intro H' hS'; (try simp only [Cells, and_true] at hS');simp only [go_sem, Nat.reduceEqDiff, Nat.reduceAdd, Nat.reduceMul, Nat.reduceLeDiff, Nat.reduceLT, Int.reduceLT, Int.reduceLE, Int.reduceEq, Int.reduceNeg, Int.reduceToNat, Nat.reducePow, reduceIte, reduceCtorEq, q2, q3, q4, w0, w1, w2, w3, okW_hset, hS']; rfl))|((with_reducible refine xs_tail ?hz ?_);case hz=>rfl)|((with_reducible refine xs_keep ?hz ?_);case hz=>first|(with_reducible assumption)|(simp only [go_sem, Nat.reduceEqDiff, Nat.reduceAdd, Nat.reduceMul, Nat.reduceLeDiff, Nat.reduceLT, Int.reduceLT, Int.reduceLE, Int.reduceEq, Int.reduceNeg, Int.reduceToNat, Nat.reducePow, reduceIte, reduceCtorEq, Cells, and_true, q2, q3, q4, w0, w1, w2, w3, okW_hset]; done)|assumption)|((with_reducible apply xs_guard_no);(case hi=>rfl);(case hy=>rfl);(case hS=>assumption))|((first|((with_reducible apply xs_op);(case hi=>rfl))|((with_reducible apply xs_op_yes);(case hi=>rfl);(case hy=>rfl)));(case hr=>rfl);intro K hK; simp only [go_sem, Nat.reduceEqDiff, Nat.reduceAdd, Nat.reduceMul, Nat.reduceLeDiff, Nat.reduceLT, Int.reduceLT, Int.reduceLE, Int.reduceEq, Int.reduceNeg, Int.reduceToNat, Nat.reducePow, reduceIte, reduceCtorEq, q2, q3, q4, w0, w1, w2, w3, okW_hset])|(with_reducible first|refine jA ?_|(refine hK _ _ ?_;clear hK K)|refine jJ fun K hK=>?_|refine jK ?_|refine jL ?_|refine jM ?_|refine jN ?_|refine jO ?_|refine jP ?_|refine jQ ?_|(refine jB ?_;clear hK K)|(refine jC ?_;clear hK K)|refine jD ?_|refine jE ?_|refine jG ?_|refine jH ?_|refine jI ?_)|((with_reducible refine jR ?hq ?_);case hq=>rfl)|((first|(with_reducible first|refine jS fun K hK=>?_|refine jT ?_|refine jU ?_)|((with_reducible refine jV ?hy fun K hK=>?_);case hy=>rfl));simp only [go_sem, Nat.reduceEqDiff, Nat.reduceAdd, Nat.reduceMul, Nat.reduceLeDiff, Nat.reduceLT, Int.reduceLT, Int.reduceLE, Int.reduceEq, Int.reduceNeg, Int.reduceToNat, Nat.reducePow, reduceIte, reduceCtorEq, q2, q3, q4, w0, w1, w2, w3, okW_hset])|((with_reducible first|refine jW ?hy ?_|refine jY ?hy ?_);case hy=>rfl)|((with_reducible first|refine jX ?hy ?_|refine jZ ?hy ?_);case hy=>rfl)|((with_reducible refine jF ?hy ?_);case hy=>decide))
   refine tail2 _ _ H2.size ?_ ?_ ?_ ?_ bp (hf2.trans fa)
   ·exact i13
   ·exact i14
   ·rfl
   ·rfl
  ·have fp : Fr (fun _ => False) H' (H'.push (.cells #[.int .i64 0, .int .i64 0, .int .i64 0, .int .i64 0] 31)) := (Fr.refl _ _).push _
   have q3 := qc2.grow fp
   repeat' (first|(with_reducible refine xs_nil ?_)|((first|((with_reducible apply xs_rd);case hi=>rfl)|((with_reducible apply xs_guard_yes);(case hi=>rfl);(case hy=>rfl)));(case hr=>rfl);(case h1=>intro H' hS'; (try simp only [Cells, and_true] at hS');simp only [go_sem, Nat.reduceEqDiff, Nat.reduceAdd, Nat.reduceMul, Nat.reduceLeDiff, Nat.reduceLT, Int.reduceLT, Int.reduceLE, Int.reduceEq, Int.reduceNeg, Int.reduceToNat, Nat.reducePow, reduceIte, reduceCtorEq, qc2, q3, hS']; rfl))|((with_reducible refine xs_tail ?hz ?_);case hz=>rfl)|((with_reducible refine xs_keep ?hz ?_);case hz=>first|(with_reducible assumption)|(simp only [go_sem, Nat.reduceEqDiff, Nat.reduceAdd, Nat.reduceMul, Nat.reduceLeDiff, Nat.reduceLT, Int.reduceLT, Int.reduceLE, Int.reduceEq, Int.reduceNeg, Int.reduceToNat, Nat.reducePow, reduceIte, reduceCtorEq, Cells, and_true, qc2, q3]; done)|assumption)|((with_reducible apply xs_guard_no);(case hi=>rfl);(case hy=>rfl);(case hS=>assumption))|((first|((with_reducible apply xs_op);(case hi=>rfl))|((with_reducible apply xs_op_yes);(case hi=>rfl);(case hy=>rfl)));(case hr=>rfl);intro K hK; simp only [go_sem, Nat.reduceEqDiff, Nat.reduceAdd, Nat.reduceMul, Nat.reduceLeDiff, Nat.reduceLT, Int.reduceLT, Int.reduceLE, Int.reduceEq, Int.reduceNeg, Int.reduceToNat, Nat.reducePow, reduceIte, reduceCtorEq, qc2, q3])|(with_reducible first|refine jA ?_|(refine hK _ _ ?_;clear hK K)|refine jJ fun K hK=>?_|refine jK ?_|refine jL ?_|refine jM ?_|refine jN ?_|refine jO ?_|refine jP ?_|refine jQ ?_|(refine jB ?_;clear hK K)|(refine jC ?_;clear hK K)|refine jD ?_|refine jE ?_|refine jG ?_|refine jH ?_|refine jI ?_)|((with_reducible refine jR ?hq ?_);case hq=>rfl)|((first|(with_reducible first|refine jS fun K hK=>?_|refine jT ?_|refine jU ?_)|((with_reducible refine jV ?hy fun K hK=>?_);case hy=>rfl));simp only [go_sem, Nat.reduceEqDiff, Nat.reduceAdd, Nat.reduceMul, Nat.reduceLeDiff, Nat.reduceLT, Int.reduceLT, Int.reduceLE, Int.reduceEq, Int.reduceNeg, Int.reduceToNat, Nat.reducePow, reduceIte, reduceCtorEq, qc2, q3])|((with_reducible first|refine jW ?hy ?_|refine jY ?hy ?_);case hy=>rfl)|((with_reducible first|refine jX ?hy ?_|refine jZ ?hy ?_);case hy=>rfl)|((with_reducible refine jF ?hy ?_);case hy=>decide))
   refine xf_lin ?_
   repeat' (first|(with_reducible refine xs_nil ?_)|((first|((with_reducible apply xs_rd);case hi=>rfl)|((with_reducible apply xs_guard_yes);(case hi=>rfl);(case hy=>rfl)));(case hr=>rfl);(case h1=>intro H' hS'; (try simp only [Cells, and_true] at hS');simp only [go_sem, Nat.reduceEqDiff, Nat.reduceAdd, Nat.reduceMul, Nat.reduceLeDiff, Nat.reduceLT, Int.reduceLT, Int.reduceLE, Int.reduceEq, Int.reduceNeg, Int.reduceToNat, Nat.reducePow, reduceIte, reduceCtorEq, q3, hS']; rfl))|((with_reducible refine xs_tail ?hz ?_);case hz=>rfl)|((with_reducible refine xs_keep ?hz ?_);case hz=>first|(with_reducible assumption)|(simp only [go_sem, Nat.reduceEqDiff, Nat.reduceAdd, Nat.reduceMul, Nat.reduceLeDiff, Nat.reduceLT, Int.reduceLT, Int.reduceLE, Int.reduceEq, Int.reduceNeg, Int.reduceToNat, Nat.reducePow, reduceIte, reduceCtorEq, Cells, and_true, q3]; done)|assumption)|((with_reducible apply xs_guard_no);(case hi=>rfl);(case hy=>rfl);(case hS=>assumption))|((first|((with_reducible apply xs_op);(case hi=>rfl))|((with_reducible apply xs_op_yes);(case hi=>rfl);(case hy=>rfl)));(case hr=>rfl);intro K hK; simp only [go_sem, Nat.reduceEqDiff, Nat.reduceAdd, Nat.reduceMul, Nat.reduceLeDiff, Nat.reduceLT, Int.reduceLT, Int.reduceLE, Int.reduceEq, Int.reduceNeg, Int.reduceToNat, Nat.reducePow, reduceIte, reduceCtorEq, q3])|(with_reducible first|refine jA ?_|(refine hK _ _ ?_;clear hK K)|refine jJ fun K hK=>?_|refine jK ?_|refine jL ?_|refine jM ?_|refine jN ?_|refine jO ?_|refine jP ?_|refine jQ ?_|(refine jB ?_;clear hK K)|(refine jC ?_;clear hK K)|refine jD ?_|refine jE ?_|refine jG ?_|refine jH ?_|refine jI ?_)|((with_reducible refine jR ?hq ?_);case hq=>rfl)|((first|(with_reducible first|refine jS fun K hK=>?_|refine jT ?_|refine jU ?_)|((with_reducible refine jV ?hy fun K hK=>?_);case hy=>rfl));simp only [go_sem, Nat.reduceEqDiff, Nat.reduceAdd, Nat.reduceMul, Nat.reduceLeDiff, Nat.reduceLT, Int.reduceLT, Int.reduceLE, Int.reduceEq, Int.reduceNeg, Int.reduceToNat, Nat.reducePow, reduceIte, reduceCtorEq, q3])|((with_reducible first|refine jW ?hy ?_|refine jY ?hy ?_);case hy=>rfl)|((with_reducible first|refine jX ?hy ?_|refine jZ ?hy ?_);case hy=>rfl)|((with_reducible refine jF ?hy ?_);case hy=>decide))
   refine d_most (RXM.grow P2.dc fp) ok hR fun H2 hf2 => ?_
   have q4 := q3.grow hf2
   have bn := (Blk.new H' [.int .i64 0, .int .i64 0, .int .i64 0, .int .i64 0] 31).frame hf2 fun h => h
   have w0 := bn.okW (i := 0) (by simp)
   have w1 := bn.okW (i := 1) (by simp)
   have w2 := bn.okW (i := 2) (by simp)
   have w3 := bn.okW (i := 3) (by simp)
   obtain ⟨bp, fq⟩ := store4 bn (.int .i64 e.id) (.int .i64 e.u) (.int .i64 e.v) (.int .i64 e.w)
   have fa : Fr (fun _ => False) H' _ := (fp.trans hf2).trans' fq (fun b hb e => by have : b = H'.size := e; omega)
   have q5 := qc2.grow fa
   simp only [Ed.val]
   repeat' (first|(with_reducible refine xs_nil ?_)|((first|((with_reducible apply xs_rd);case hi=>rfl)|((with_reducible apply xs_guard_yes);(case hi=>rfl);(case hy=>rfl)));(case hr=>rfl);(case h1=>intro H' hS'; (try simp only [Cells, and_true] at hS');simp only [go_sem, Nat.reduceEqDiff, Nat.reduceAdd, Nat.reduceMul, Nat.reduceLeDiff, Nat.reduceLT, Int.reduceLT, Int.reduceLE, Int.reduceEq, Int.reduceNeg, Int.reduceToNat, Nat.reducePow, reduceIte, reduceCtorEq, q4, q5, w0, w1, w2, w3, okW_hset, hS']; rfl))|((with_reducible refine xs_tail ?hz ?_);case hz=>rfl)|((with_reducible refine xs_keep ?hz ?_);case hz=>first|(with_reducible assumption)|(simp only [go_sem, Nat.reduceEqDiff, Nat.reduceAdd, Nat.reduceMul, Nat.reduceLeDiff, Nat.reduceLT, Int.reduceLT, Int.reduceLE, Int.reduceEq, Int.reduceNeg, Int.reduceToNat, Nat.reducePow, reduceIte, reduceCtorEq, Cells, and_true, q4, q5, w0, w1, w2, w3, okW_hset]; done)|assumption)|((with_reducible apply xs_guard_no);(case hi=>rfl);(case hy=>rfl);(case hS=>assumption))|((first|((with_reducible apply xs_op);(case hi=>rfl))|((with_reducible apply xs_op_yes);(case hi=>rfl);(case hy=>rfl)));(case hr=>rfl);intro K hK; simp only [go_sem, Nat.reduceEqDiff, Nat.reduceAdd, Nat.reduceMul, Nat.reduceLeDiff, Nat.reduceLT, Int.reduceLT, Int.reduceLE, Int.reduceEq, Int.reduceNeg, Int.reduceToNat, Nat.reducePow, reduceIte, reduceCtorEq, q4, q5, w0, w1, w2, w3, okW_hset])|(with_reducible first|refine jA ?_|(refine hK _ _ ?_;clear hK K)|refine jJ fun K hK=>?_|refine jK ?_|refine jL ?_|refine jM ?_|refine jN ?_|refine jO ?_|refine jP ?_|refine jQ ?_|(refine jB ?_;clear hK K)|(refine jC ?_;clear hK K)|refine jD ?_|refine jE ?_|refine jG ?_|refine jH ?_|refine jI ?_)|((with_reducible refine jR ?hq ?_);case hq=>rfl)|((first|(with_reducible first|refine jS fun K hK=>?_|refine jT ?_|refine jU ?_)|((with_reducible refine jV ?hy fun K hK=>?_);case hy=>rfl));simp only [go_sem, Nat.reduceEqDiff, Nat.reduceAdd, Nat.reduceMul, Nat.reduceLeDiff, Nat.reduceLT, Int.reduceLT, Int.reduceLE, Int.reduceEq, Int.reduceNeg, Int.reduceToNat, Nat.reducePow, reduceIte, reduceCtorEq, q4, q5, w0, w1, w2, w3, okW_hset])|((with_reducible first|refine jW ?hy ?_|refine jY ?hy ?_);case hy=>rfl)|((with_reducible first|refine jX ?hy ?_|refine jZ ?hy ?_);case hy=>rfl)|((with_reducible refine jF ?hy ?_);case hy=>decide))
   refine tail2 _ _ H'.size ?_ ?_ ?_ ?_ bp fa
   ·exact i13
   ·exact i14
   ·rfl
   ·rfl
 refine x_drawF (.fork [0, 1, 2, 3, 4, 5, 6, 7] 8 (.lin [] [9, 10, 11, 12, 13, 14]) 12 (.lin [] [8, 9, 10, 11, 13, 14])) rfl (by kernel_rfl) (Cells _) qc ?_
 refine xf_fork ?_
 repeat' (first|(with_reducible refine xs_nil ?_)|((first|((with_reducible apply xs_rd);case hi=>rfl)|((with_reducible apply xs_guard_yes);(case hi=>rfl);(case hy=>rfl)));(case hr=>rfl);(case h1=>intro H' hS'; (try simp only [Cells, and_true] at hS');simp only [go_sem, Nat.reduceEqDiff, Nat.reduceAdd, Nat.reduceMul, Nat.reduceLeDiff, Nat.reduceLT, Int.reduceLT, Int.reduceLE, Int.reduceEq, Int.reduceNeg, Int.reduceToNat, Nat.reducePow, reduceIte, reduceCtorEq, hS']; rfl))|((with_reducible refine xs_tail ?hz ?_);case hz=>rfl)|((with_reducible refine xs_keep ?hz ?_);case hz=>first|(with_reducible assumption)|(simp only [go_sem, Nat.reduceEqDiff, Nat.reduceAdd, Nat.reduceMul, Nat.reduceLeDiff, Nat.reduceLT, Int.reduceLT, Int.reduceLE, Int.reduceEq, Int.reduceNeg, Int.reduceToNat, Nat.reducePow, reduceIte, reduceCtorEq, Cells, and_true]; done)|assumption)|((with_reducible apply xs_guard_no);(case hi=>rfl);(case hy=>rfl);(case hS=>assumption))|((first|((with_reducible apply xs_op);(case hi=>rfl))|((with_reducible apply xs_op_yes);(case hi=>rfl);(case hy=>rfl)));(case hr=>rfl);intro K hK; simp only [go_sem, Nat.reduceEqDiff, Nat.reduceAdd, Nat.reduceMul, Nat.reduceLeDiff, Nat.reduceLT, Int.reduceLT, Int.reduceLE, Int.reduceEq, Int.reduceNeg, Int.reduceToNat, Nat.reducePow, reduceIte, reduceCtorEq])|(with_reducible first|refine jA ?_|(refine hK _ _ ?_;clear hK K)|refine jJ fun K hK=>?_|refine jK ?_|refine jL ?_|refine jM ?_|refine jN ?_|refine jO ?_|refine jP ?_|refine jQ ?_|(refine jB ?_;clear hK K)|(refine jC ?_;clear hK K)|refine jD ?_|refine jE ?_|refine jG ?_|refine jH ?_|refine jI ?_)|((with_reducible refine jR ?hq ?_);case hq=>rfl)|((first|(with_reducible first|refine jS fun K hK=>?_|refine jT ?_|refine jU ?_)|((with_reducible refine jV ?hy fun K hK=>?_);case hy=>rfl));simp only [go_sem, Nat.reduceEqDiff, Nat.reduceAdd, Nat.reduceMul, Nat.reduceLeDiff, Nat.reduceLT, Int.reduceLT, Int.reduceLE, Int.reduceEq, Int.reduceNeg, Int.reduceToNat, Nat.reducePow, reduceIte, reduceCtorEq])|((with_reducible first|refine jW ?hy ?_|refine jY ?hy ?_);case hy=>rfl)|((with_reducible first|refine jX ?hy ?_|refine jZ ?hy ?_);case hy=>rfl)|((with_reducible refine jF ?hy ?_);case hy=>decide))
 refine ⟨?_, ?_⟩
 ·repeat' (first|(with_reducible refine xs_nil ?_)|((first|((with_reducible apply xs_rd);case hi=>rfl)|((with_reducible apply xs_guard_yes);(case hi=>rfl);(case hy=>rfl)));(case hr=>rfl);(case h1=>intro H' hS'; (try simp only [Cells, and_true] at hS');simp only [go_sem, Nat.reduceEqDiff, Nat.reduceAdd, Nat.reduceMul, Nat.reduceLeDiff, Nat.reduceLT, Int.reduceLT, Int.reduceLE, Int.reduceEq, Int.reduceNeg, Int.reduceToNat, Nat.reducePow, reduceIte, reduceCtorEq, qc, hS']; rfl))|((with_reducible refine xs_tail ?hz ?_);case hz=>rfl)|((with_reducible refine xs_keep ?hz ?_);case hz=>first|(with_reducible assumption)|(simp only [go_sem, Nat.reduceEqDiff, Nat.reduceAdd, Nat.reduceMul, Nat.reduceLeDiff, Nat.reduceLT, Int.reduceLT, Int.reduceLE, Int.reduceEq, Int.reduceNeg, Int.reduceToNat, Nat.reducePow, reduceIte, reduceCtorEq, Cells, and_true, qc]; done)|assumption)|((with_reducible apply xs_guard_no);(case hi=>rfl);(case hy=>rfl);(case hS=>assumption))|((first|((with_reducible apply xs_op);(case hi=>rfl))|((with_reducible apply xs_op_yes);(case hi=>rfl);(case hy=>rfl)));(case hr=>rfl);intro K hK; simp only [go_sem, Nat.reduceEqDiff, Nat.reduceAdd, Nat.reduceMul, Nat.reduceLeDiff, Nat.reduceLT, Int.reduceLT, Int.reduceLE, Int.reduceEq, Int.reduceNeg, Int.reduceToNat, Nat.reducePow, reduceIte, reduceCtorEq, qc])|(with_reducible first|refine jA ?_|(refine hK _ _ ?_;clear hK K)|refine jJ fun K hK=>?_|refine jK ?_|refine jL ?_|refine jM ?_|refine jN ?_|refine jO ?_|refine jP ?_|refine jQ ?_|(refine jB ?_;clear hK K)|(refine jC ?_;clear hK K)|refine jD ?_|refine jE ?_|refine jG ?_|refine jH ?_|refine jI ?_)|((with_reducible refine jR ?hq ?_);case hq=>rfl)|((first|(with_reducible first|refine jS fun K hK=>?_|refine jT ?_|refine jU ?_)|((with_reducible refine jV ?hy fun K hK=>?_);case hy=>rfl));simp only [go_sem, Nat.reduceEqDiff, Nat.reduceAdd, Nat.reduceMul, Nat.reduceLeDiff, Nat.reduceLT, Int.reduceLT, Int.reduceLE, Int.reduceEq, Int.reduceNeg, Int.reduceToNat, Nat.reducePow, reduceIte, reduceCtorEq, qc])|((with_reducible first|refine jW ?hy ?_|refine jY ?hy ?_);case hy=>rfl)|((with_reducible first|refine jX ?hy ?_|refine jZ ?hy ?_);case hy=>rfl)|((with_reducible refine jF ?hy ?_);case hy=>decide))
  refine p_most P.fo fun H2 e c hR hM hf => ?_
  have q2 := qc.frame hf fun y hy e => by have := apT y hy col ⟨P.cs, hc0⟩; rw [P.cf _ e] at this; omega
  have fp : Fr (fun _ => False) H2 (H2.push (.cells #[.int .i64 0, .int .i64 0, .int .i64 0, .int .i64 0] 31)) := (Fr.refl _ _).push _
  have bn := Blk.new H2 [.int .i64 0, .int .i64 0, .int .i64 0, .int .i64 0] 31
  have w0 := bn.okW (i := 0) (by simp)
  have w1 := bn.okW (i := 1) (by simp)
  have w2 := bn.okW (i := 2) (by simp)
  have w3 := bn.okW (i := 3) (by simp)
  obtain ⟨bp, fa⟩ := edge_box (H := H2) e (T0 := 31)
  have q3 := q2.grow fp
  have q4 := q2.grow fa
  simp only [Ed.val]
  repeat' (first|(with_reducible refine xs_nil ?_)|((first|((with_reducible apply xs_rd);case hi=>rfl)|((with_reducible apply xs_guard_yes);(case hi=>rfl);(case hy=>rfl)));(case hr=>rfl);(case h1=>intro H' hS'; (try simp only [Cells, and_true] at hS');simp only [go_sem, Nat.reduceEqDiff, Nat.reduceAdd, Nat.reduceMul, Nat.reduceLeDiff, Nat.reduceLT, Int.reduceLT, Int.reduceLE, Int.reduceEq, Int.reduceNeg, Int.reduceToNat, Nat.reducePow, reduceIte, reduceCtorEq, q2, hS']; rfl))|((with_reducible refine xs_tail ?hz ?_);case hz=>rfl)|((with_reducible refine xs_keep ?hz ?_);case hz=>first|(with_reducible assumption)|(simp only [go_sem, Nat.reduceEqDiff, Nat.reduceAdd, Nat.reduceMul, Nat.reduceLeDiff, Nat.reduceLT, Int.reduceLT, Int.reduceLE, Int.reduceEq, Int.reduceNeg, Int.reduceToNat, Nat.reducePow, reduceIte, reduceCtorEq, Cells, and_true, q2]; done)|assumption)|((with_reducible apply xs_guard_no);(case hi=>rfl);(case hy=>rfl);(case hS=>assumption))|((first|((with_reducible apply xs_op);(case hi=>rfl))|((with_reducible apply xs_op_yes);(case hi=>rfl);(case hy=>rfl)));(case hr=>rfl);intro K hK; simp only [go_sem, Nat.reduceEqDiff, Nat.reduceAdd, Nat.reduceMul, Nat.reduceLeDiff, Nat.reduceLT, Int.reduceLT, Int.reduceLE, Int.reduceEq, Int.reduceNeg, Int.reduceToNat, Nat.reducePow, reduceIte, reduceCtorEq, q2])|(with_reducible first|refine jA ?_|(refine hK _ _ ?_;clear hK K)|refine jJ fun K hK=>?_|refine jK ?_|refine jL ?_|refine jM ?_|refine jN ?_|refine jO ?_|refine jP ?_|refine jQ ?_|(refine jB ?_;clear hK K)|(refine jC ?_;clear hK K)|refine jD ?_|refine jE ?_|refine jG ?_|refine jH ?_|refine jI ?_)|((with_reducible refine jR ?hq ?_);case hq=>rfl)|((first|(with_reducible first|refine jS fun K hK=>?_|refine jT ?_|refine jU ?_)|((with_reducible refine jV ?hy fun K hK=>?_);case hy=>rfl));simp only [go_sem, Nat.reduceEqDiff, Nat.reduceAdd, Nat.reduceMul, Nat.reduceLeDiff, Nat.reduceLT, Int.reduceLT, Int.reduceLE, Int.reduceEq, Int.reduceNeg, Int.reduceToNat, Nat.reducePow, reduceIte, reduceCtorEq, q2])|((with_reducible first|refine jW ?hy ?_|refine jY ?hy ?_);case hy=>rfl)|((with_reducible first|refine jX ?hy ?_|refine jZ ?hy ?_);case hy=>rfl)|((with_reducible refine jF ?hy ?_);case hy=>decide))
  refine xf_lin ?_
  repeat' (first|(with_reducible refine xs_nil ?_)|((first|((with_reducible apply xs_rd);case hi=>rfl)|((with_reducible apply xs_guard_yes);(case hi=>rfl);(case hy=>rfl)));(case hr=>rfl);(case h1=>intro H' hS'; (try simp only [Cells, and_true] at hS');simp only [go_sem, Nat.reduceEqDiff, Nat.reduceAdd, Nat.reduceMul, Nat.reduceLeDiff, Nat.reduceLT, Int.reduceLT, Int.reduceLE, Int.reduceEq, Int.reduceNeg, Int.reduceToNat, Nat.reducePow, reduceIte, reduceCtorEq, q2, q3, q4, w0, w1, w2, w3, okW_hset, hS']; rfl))|((with_reducible refine xs_tail ?hz ?_);case hz=>rfl)|((with_reducible refine xs_keep ?hz ?_);case hz=>first|(with_reducible assumption)|(simp only [go_sem, Nat.reduceEqDiff, Nat.reduceAdd, Nat.reduceMul, Nat.reduceLeDiff, Nat.reduceLT, Int.reduceLT, Int.reduceLE, Int.reduceEq, Int.reduceNeg, Int.reduceToNat, Nat.reducePow, reduceIte, reduceCtorEq, Cells, and_true, q2, q3, q4, w0, w1, w2, w3, okW_hset]; done)|assumption)|((with_reducible apply xs_guard_no);(case hi=>rfl);(case hy=>rfl);(case hS=>assumption))|((first|((with_reducible apply xs_op);(case hi=>rfl))|((with_reducible apply xs_op_yes);(case hi=>rfl);(case hy=>rfl)));(case hr=>rfl);intro K hK; simp only [go_sem, Nat.reduceEqDiff, Nat.reduceAdd, Nat.reduceMul, Nat.reduceLeDiff, Nat.reduceLT, Int.reduceLT, Int.reduceLE, Int.reduceEq, Int.reduceNeg, Int.reduceToNat, Nat.reducePow, reduceIte, reduceCtorEq, q2, q3, q4, w0, w1, w2, w3, okW_hset])|(with_reducible first|refine jA ?_|(refine hK _ _ ?_;clear hK K)|refine jJ fun K hK=>?_|refine jK ?_|refine jL ?_|refine jM ?_|refine jN ?_|refine jO ?_|refine jP ?_|refine jQ ?_|(refine jB ?_;clear hK K)|(refine jC ?_;clear hK K)|refine jD ?_|refine jE ?_|refine jG ?_|refine jH ?_|refine jI ?_)|((with_reducible refine jR ?hq ?_);case hq=>rfl)|((first|(with_reducible first|refine jS fun K hK=>?_|refine jT ?_|refine jU ?_)|((with_reducible refine jV ?hy fun K hK=>?_);case hy=>rfl));simp only [go_sem, Nat.reduceEqDiff, Nat.reduceAdd, Nat.reduceMul, Nat.reduceLeDiff, Nat.reduceLT, Int.reduceLT, Int.reduceLE, Int.reduceEq, Int.reduceNeg, Int.reduceToNat, Nat.reducePow, reduceIte, reduceCtorEq, q2, q3, q4, w0, w1, w2, w3, okW_hset])|((with_reducible first|refine jW ?hy ?_|refine jY ?hy ?_);case hy=>rfl)|((with_reducible first|refine jX ?hy ?_|refine jZ ?hy ?_);case hy=>rfl)|((with_reducible refine jF ?hy ?_);case hy=>decide))
  exact tail _ _ H2.size e c hR rfl rfl rfl rfl hf.size bp (LtM.grow hM fa) (hf.trans (fa.mono fun _ _ h => h.elim))
 ·have fp : Fr (fun _ => False) H1 (H1.push (.cells #[.int .i64 0, .int .i64 0, .int .i64 0, .int .i64 0] 31)) := (Fr.refl _ _).push _
  have q3 := qc.grow fp
  repeat' (first|(with_reducible refine xs_nil ?_)|((first|((with_reducible apply xs_rd);case hi=>rfl)|((with_reducible apply xs_guard_yes);(case hi=>rfl);(case hy=>rfl)));(case hr=>rfl);(case h1=>intro H' hS'; (try simp only [Cells, and_true] at hS');simp only [go_sem, Nat.reduceEqDiff, Nat.reduceAdd, Nat.reduceMul, Nat.reduceLeDiff, Nat.reduceLT, Int.reduceLT, Int.reduceLE, Int.reduceEq, Int.reduceNeg, Int.reduceToNat, Nat.reducePow, reduceIte, reduceCtorEq, qc, q3, hS']; rfl))|((with_reducible refine xs_tail ?hz ?_);case hz=>rfl)|((with_reducible refine xs_keep ?hz ?_);case hz=>first|(with_reducible assumption)|(simp only [go_sem, Nat.reduceEqDiff, Nat.reduceAdd, Nat.reduceMul, Nat.reduceLeDiff, Nat.reduceLT, Int.reduceLT, Int.reduceLE, Int.reduceEq, Int.reduceNeg, Int.reduceToNat, Nat.reducePow, reduceIte, reduceCtorEq, Cells, and_true, qc, q3]; done)|assumption)|((with_reducible apply xs_guard_no);(case hi=>rfl);(case hy=>rfl);(case hS=>assumption))|((first|((with_reducible apply xs_op);(case hi=>rfl))|((with_reducible apply xs_op_yes);(case hi=>rfl);(case hy=>rfl)));(case hr=>rfl);intro K hK; simp only [go_sem, Nat.reduceEqDiff, Nat.reduceAdd, Nat.reduceMul, Nat.reduceLeDiff, Nat.reduceLT, Int.reduceLT, Int.reduceLE, Int.reduceEq, Int.reduceNeg, Int.reduceToNat, Nat.reducePow, reduceIte, reduceCtorEq, qc, q3])|(with_reducible first|refine jA ?_|(refine hK _ _ ?_;clear hK K)|refine jJ fun K hK=>?_|refine jK ?_|refine jL ?_|refine jM ?_|refine jN ?_|refine jO ?_|refine jP ?_|refine jQ ?_|(refine jB ?_;clear hK K)|(refine jC ?_;clear hK K)|refine jD ?_|refine jE ?_|refine jG ?_|refine jH ?_|refine jI ?_)|((with_reducible refine jR ?hq ?_);case hq=>rfl)|((first|(with_reducible first|refine jS fun K hK=>?_|refine jT ?_|refine jU ?_)|((with_reducible refine jV ?hy fun K hK=>?_);case hy=>rfl));simp only [go_sem, Nat.reduceEqDiff, Nat.reduceAdd, Nat.reduceMul, Nat.reduceLeDiff, Nat.reduceLT, Int.reduceLT, Int.reduceLE, Int.reduceEq, Int.reduceNeg, Int.reduceToNat, Nat.reducePow, reduceIte, reduceCtorEq, qc, q3])|((with_reducible first|refine jW ?hy ?_|refine jY ?hy ?_);case hy=>rfl)|((with_reducible first|refine jX ?hy ?_|refine jZ ?hy ?_);case hy=>rfl)|((with_reducible refine jF ?hy ?_);case hy=>decide))
  refine xf_lin ?_
  repeat' (first|(with_reducible refine xs_nil ?_)|((first|((with_reducible apply xs_rd);case hi=>rfl)|((with_reducible apply xs_guard_yes);(case hi=>rfl);(case hy=>rfl)));(case hr=>rfl);(case h1=>intro H' hS'; (try simp only [Cells, and_true] at hS');simp only [go_sem, Nat.reduceEqDiff, Nat.reduceAdd, Nat.reduceMul, Nat.reduceLeDiff, Nat.reduceLT, Int.reduceLT, Int.reduceLE, Int.reduceEq, Int.reduceNeg, Int.reduceToNat, Nat.reducePow, reduceIte, reduceCtorEq, q3, hS']; rfl))|((with_reducible refine xs_tail ?hz ?_);case hz=>rfl)|((with_reducible refine xs_keep ?hz ?_);case hz=>first|(with_reducible assumption)|(simp only [go_sem, Nat.reduceEqDiff, Nat.reduceAdd, Nat.reduceMul, Nat.reduceLeDiff, Nat.reduceLT, Int.reduceLT, Int.reduceLE, Int.reduceEq, Int.reduceNeg, Int.reduceToNat, Nat.reducePow, reduceIte, reduceCtorEq, Cells, and_true, q3]; done)|assumption)|((with_reducible apply xs_guard_no);(case hi=>rfl);(case hy=>rfl);(case hS=>assumption))|((first|((with_reducible apply xs_op);(case hi=>rfl))|((with_reducible apply xs_op_yes);(case hi=>rfl);(case hy=>rfl)));(case hr=>rfl);intro K hK; simp only [go_sem, Nat.reduceEqDiff, Nat.reduceAdd, Nat.reduceMul, Nat.reduceLeDiff, Nat.reduceLT, Int.reduceLT, Int.reduceLE, Int.reduceEq, Int.reduceNeg, Int.reduceToNat, Nat.reducePow, reduceIte, reduceCtorEq, q3])|(with_reducible first|refine jA ?_|(refine hK _ _ ?_;clear hK K)|refine jJ fun K hK=>?_|refine jK ?_|refine jL ?_|refine jM ?_|refine jN ?_|refine jO ?_|refine jP ?_|refine jQ ?_|(refine jB ?_;clear hK K)|(refine jC ?_;clear hK K)|refine jD ?_|refine jE ?_|refine jG ?_|refine jH ?_|refine jI ?_)|((with_reducible refine jR ?hq ?_);case hq=>rfl)|((first|(with_reducible first|refine jS fun K hK=>?_|refine jT ?_|refine jU ?_)|((with_reducible refine jV ?hy fun K hK=>?_);case hy=>rfl));simp only [go_sem, Nat.reduceEqDiff, Nat.reduceAdd, Nat.reduceMul, Nat.reduceLeDiff, Nat.reduceLT, Int.reduceLT, Int.reduceLE, Int.reduceEq, Int.reduceNeg, Int.reduceToNat, Nat.reducePow, reduceIte, reduceCtorEq, q3])|((with_reducible first|refine jW ?hy ?_|refine jY ?hy ?_);case hy=>rfl)|((with_reducible first|refine jX ?hy ?_|refine jZ ?hy ?_);case hy=>rfl)|((with_reducible refine jF ?hy ?_);case hy=>decide))
  refine p_most (LtM.grow P.fo fp) fun H2 e c hR hM hf => ?_
  have hT1 : ¬ T H1.size := fun hx => Nat.lt_irrefl _ (P.lt _ (by rw [P.cf _ hx]; decide))
  have q4 := q3.frame hf fun y hy e => by have := apT y hy col ⟨P.cs, hc0⟩; rw [P.cf _ e] at this; omega
  have bn := (Blk.new H1 [.int .i64 0, .int .i64 0, .int .i64 0, .int .i64 0] 31).frame hf hT1
  have w0 := bn.okW (i := 0) (by simp)
  have w1 := bn.okW (i := 1) (by simp)
  have w2 := bn.okW (i := 2) (by simp)
  have w3 := bn.okW (i := 3) (by simp)
  obtain ⟨bp, fq⟩ := store4 bn (.int .i64 e.id) (.int .i64 e.u) (.int .i64 e.v) (.int .i64 e.w)
  have fa : Fr T H1 _ := ((fp.mono fun _ _ h => h.elim).trans hf).trans' fq (fun b hb e => by have : b = H1.size := e; omega)
  have q5 := qc.frame fa fun y hy e => by have := apT y hy col ⟨P.cs, hc0⟩; rw [P.cf _ e] at this; omega
  have hM5 := LtM.frame hM fq fun b hb e => hT1 (by rw [← e]; exact hb)
  simp only [Ed.val]
  repeat' (first|(with_reducible refine xs_nil ?_)|((first|((with_reducible apply xs_rd);case hi=>rfl)|((with_reducible apply xs_guard_yes);(case hi=>rfl);(case hy=>rfl)));(case hr=>rfl);(case h1=>intro H' hS'; (try simp only [Cells, and_true] at hS');simp only [go_sem, Nat.reduceEqDiff, Nat.reduceAdd, Nat.reduceMul, Nat.reduceLeDiff, Nat.reduceLT, Int.reduceLT, Int.reduceLE, Int.reduceEq, Int.reduceNeg, Int.reduceToNat, Nat.reducePow, reduceIte, reduceCtorEq, q4, q5, w0, w1, w2, w3, okW_hset, hS']; rfl))|((with_reducible refine xs_tail ?hz ?_);case hz=>rfl)|((with_reducible refine xs_keep ?hz ?_);case hz=>first|(with_reducible assumption)|(simp only [go_sem, Nat.reduceEqDiff, Nat.reduceAdd, Nat.reduceMul, Nat.reduceLeDiff, Nat.reduceLT, Int.reduceLT, Int.reduceLE, Int.reduceEq, Int.reduceNeg, Int.reduceToNat, Nat.reducePow, reduceIte, reduceCtorEq, Cells, and_true, q4, q5, w0, w1, w2, w3, okW_hset]; done)|assumption)|((with_reducible apply xs_guard_no);(case hi=>rfl);(case hy=>rfl);(case hS=>assumption))|((first|((with_reducible apply xs_op);(case hi=>rfl))|((with_reducible apply xs_op_yes);(case hi=>rfl);(case hy=>rfl)));(case hr=>rfl);intro K hK; simp only [go_sem, Nat.reduceEqDiff, Nat.reduceAdd, Nat.reduceMul, Nat.reduceLeDiff, Nat.reduceLT, Int.reduceLT, Int.reduceLE, Int.reduceEq, Int.reduceNeg, Int.reduceToNat, Nat.reducePow, reduceIte, reduceCtorEq, q4, q5, w0, w1, w2, w3, okW_hset])|(with_reducible first|refine jA ?_|(refine hK _ _ ?_;clear hK K)|refine jJ fun K hK=>?_|refine jK ?_|refine jL ?_|refine jM ?_|refine jN ?_|refine jO ?_|refine jP ?_|refine jQ ?_|(refine jB ?_;clear hK K)|(refine jC ?_;clear hK K)|refine jD ?_|refine jE ?_|refine jG ?_|refine jH ?_|refine jI ?_)|((with_reducible refine jR ?hq ?_);case hq=>rfl)|((first|(with_reducible first|refine jS fun K hK=>?_|refine jT ?_|refine jU ?_)|((with_reducible refine jV ?hy fun K hK=>?_);case hy=>rfl));simp only [go_sem, Nat.reduceEqDiff, Nat.reduceAdd, Nat.reduceMul, Nat.reduceLeDiff, Nat.reduceLT, Int.reduceLT, Int.reduceLE, Int.reduceEq, Int.reduceNeg, Int.reduceToNat, Nat.reducePow, reduceIte, reduceCtorEq, q4, q5, w0, w1, w2, w3, okW_hset])|((with_reducible first|refine jW ?hy ?_|refine jY ?hy ?_);case hy=>rfl)|((with_reducible first|refine jX ?hy ?_|refine jZ ?hy ?_);case hy=>rfl)|((with_reducible refine jF ?hy ?_);case hy=>decide))
  exact tail _ _ H1.size e c hR rfl rfl rfl rfl (Nat.le_refl _) bp hM5 fa

theorem st7 (hS : LSd n H s col) (fin : ∀ H' col', LSd n H' s col' → Nx col col' H H' → K (.bool true) H') :
  CallsH Try.prog 19 #[.pointer (some ⟨s, 0, none⟩), opL 7 u v id w ot] H K := by
 have fr0 : Fr (fun _ => False) H (H.push (.cells #[.int .i64 7, .int .i64 u, .int .i64 v, .int .i64 id, .int .i64 w, .bool ot] 54)) := (Fr.refl _ _).push _
 have b1 := Blk.new H [.int .i64 7, .int .i64 u, .int .i64 v, .int .i64 id, .int .i64 w, .bool ot] 54
 obtain ⟨S, f, x, hn, hS⟩ := hS
 have hS1 := hS.grow (pF f S) (pD x S) fr0 (fun _ _ h => h)
 have n0 : Nx col col H (H.push (.cells #[.int .i64 7, .int .i64 u, .int .i64 v, .int .i64 id, .int .i64 w, .bool ot] 54)) := Nx.same fr0 fun _ h => h.elim
 have hc0 : col H.size = 0 := Decidable.byContradiction fun h => Nat.lt_irrefl _ (hS.lt h)
 have k0 := b1.cellOf (i := 0) rfl
 have k1 := b1.cellOf (i := 1) rfl
 have k2 := b1.cellOf (i := 2) rfl
 have k3 := b1.cellOf (i := 3) rfl
 have k4 := b1.cellOf (i := 4) rfl
 obtain ⟨L, T, TX, TA, va, TW, vw, P, hL1, hL2⟩ := hS1
 have c0 := P.b.cellOf (i := 0) rfl
 have c1 := P.b.cellOf (i := 1) rfl
 have ok : S.Ok := LtM.ok P.fo
 have q1 : ((7 : Int) == 1) = false := rfl
 have q2 : ((7 : Int) == 2) = false := rfl
 have q3 : ((7 : Int) == 3) = false := rfl
 have q4 : ((7 : Int) == 4) = false := rfl
 have q5 : ((7 : Int) == 5) = false := rfl
 have q6 : ((7 : Int) == 6) = false := rfl
 have q7 : ((7 : Int) == 7) = true := rfl
 refine call19 (by simp) ?_
 simp only [Try.f19, Option.getD_some]
 repeat' (first|(with_reducible first|refine jA ?_|(refine hK _ _ ?_;clear hK K)|refine jJ fun K hK=>?_|refine jK ?_|refine jL ?_|refine jM ?_|refine jN ?_|refine jO ?_|refine jP ?_|refine jQ ?_|(refine jB ?_;clear hK K)|(refine jC ?_;clear hK K)|refine jD ?_|refine jE ?_|refine jG ?_|refine jH ?_|refine jI ?_)|((with_reducible refine jR ?hq ?_);case hq=>rfl)|((first|(with_reducible first|refine jS fun K hK=>?_|refine jT ?_|refine jU ?_)|((with_reducible refine jV ?hy fun K hK=>?_);case hy=>rfl));simp only [go_sem, Nat.reduceEqDiff, Nat.reduceAdd, Nat.reduceMul, Nat.reduceLeDiff, Nat.reduceLT, Int.reduceLT, Int.reduceLE, Int.reduceEq, Int.reduceNeg, Int.reduceToNat, Nat.reducePow, reduceIte, reduceCtorEq, k0, opL, q1, q2, q3, q4, q5, q6, q7])|((with_reducible first|refine jW ?hy ?_|refine jY ?hy ?_);case hy=>rfl)|((with_reducible first|refine jX ?hy ?_|refine jZ ?hy ?_);case hy=>rfl)|((with_reducible refine jF ?hy ?_);case hy=>decide))
 generalize hH1 : H.push (.cells #[.int .i64 7, .int .i64 u, .int .i64 v, .int .i64 id, .int .i64 w, .bool ot] 54) = H1 at *
 have qc : Cells [(s, 0, .pointer (some ⟨f, 0, none⟩)), (s, 1, .pointer (some ⟨x, 0, none⟩)), (H.size, 1, .int .i64 u), (H.size, 2, .int .i64 v), (H.size, 3, .int .i64 id), (H.size, 4, .int .i64 w)] H1 := ⟨c0, c1, k1, k2, k3, k4, trivial⟩
 have apT : ∀ y ∈ ([(s, 0, .pointer (some ⟨f, 0, none⟩)), (s, 1, .pointer (some ⟨x, 0, none⟩)), (H.size, 1, .int .i64 u), (H.size, 2, .int .i64 v), (H.size, 3, .int .i64 id), (H.size, 4, .int .i64 w)] : List (Nat × Nat × Value)), ∀ c : Nat → Nat, (c s = 1 ∧ c H.size = 0) → c y.1 ≤ 1 := by
  intro y hy c hc
  simp only [List.mem_cons, List.not_mem_nil, or_false] at hy
  rcases hy with rfl | rfl | rfl | rfl | rfl | rfl <;> simp only [hc.1, hc.2] <;> omega
 have lH : H.size < H1.size := by rw [← hH1]; simp
 simp only [go_sem, Nat.reduceEqDiff, Nat.reduceAdd, Nat.reduceMul, Nat.reduceLeDiff, Nat.reduceLT, Int.reduceLT, Int.reduceLE, Int.reduceEq, Int.reduceNeg, Int.reduceToNat, Nat.reducePow, reduceIte, reduceCtorEq, c0, k1, k2]
 repeat' (first|(with_reducible first|refine jA ?_|(refine hK _ _ ?_;clear hK K)|refine jJ fun K hK=>?_|refine jK ?_|refine jL ?_|refine jM ?_|refine jN ?_|refine jO ?_|refine jP ?_|refine jQ ?_|(refine jB ?_;clear hK K)|(refine jC ?_;clear hK K)|refine jD ?_|refine jE ?_|refine jG ?_|refine jH ?_|refine jI ?_)|((with_reducible refine jR ?hq ?_);case hq=>rfl)|((first|(with_reducible first|refine jS fun K hK=>?_|refine jT ?_|refine jU ?_)|((with_reducible refine jV ?hy fun K hK=>?_);case hy=>rfl));simp only [go_sem, Nat.reduceEqDiff, Nat.reduceAdd, Nat.reduceMul, Nat.reduceLeDiff, Nat.reduceLT, Int.reduceLT, Int.reduceLE, Int.reduceEq, Int.reduceNeg, Int.reduceToNat, Nat.reducePow, reduceIte, reduceCtorEq, c0, k1, k2])|((with_reducible first|refine jW ?hy ?_|refine jY ?hy ?_);case hy=>rfl)|((with_reducible first|refine jX ?hy ?_|refine jZ ?hy ?_);case hy=>rfl)|((with_reducible refine jF ?hy ?_);case hy=>decide))
 refine p_path P.fo fun H2 zs c B2 w2 hR hv2 hB2 hM hf => ?_
 obtain ⟨P2, n2⟩ := P.keepF (F' := fun H T => LtM H f T S) (pD x S) hf hM
 have qc2 := qc.frame hf fun y hy e => by have := apT y hy col ⟨P.cs, hc0⟩; rw [P.cf _ e] at this; omega
 have d1 := qc2.2.1
 have j1 := qc2.2.2.1
 have j2 := qc2.2.2.2.1
 obtain ⟨a2, l2, rfl⟩ := hv2.slice
 repeat' (first|(with_reducible first|refine jA ?_|(refine hK _ _ ?_;clear hK K)|refine jJ fun K hK=>?_|refine jK ?_|refine jL ?_|refine jM ?_|refine jN ?_|refine jO ?_|refine jP ?_|refine jQ ?_|(refine jB ?_;clear hK K)|(refine jC ?_;clear hK K)|refine jD ?_|refine jE ?_|refine jG ?_|refine jH ?_|refine jI ?_)|((with_reducible refine jR ?hq ?_);case hq=>rfl)|((first|(with_reducible first|refine jS fun K hK=>?_|refine jT ?_|refine jU ?_)|((with_reducible refine jV ?hy fun K hK=>?_);case hy=>rfl));simp only [go_sem, Nat.reduceEqDiff, Nat.reduceAdd, Nat.reduceMul, Nat.reduceLeDiff, Nat.reduceLT, Int.reduceLT, Int.reduceLE, Int.reduceEq, Int.reduceNeg, Int.reduceToNat, Nat.reducePow, reduceIte, reduceCtorEq, d1, j1, j2])|((with_reducible first|refine jW ?hy ?_|refine jY ?hy ?_);case hy=>rfl)|((with_reducible first|refine jX ?hy ?_|refine jZ ?hy ?_);case hy=>rfl)|((with_reducible refine jF ?hy ?_);case hy=>decide))
 refine d_path P2.dc ok hR fun H3 B3 w3 hv3 hle hB3 hf3 => ?_
 have P3 := P2.grow (pF f S) (pD x S) hf3 (fun _ _ h => h)
 have s12 := hf.size
 have s23 := hf3.size
 have hc2 : ∀ b, B2 = some b → col b = 0 ∧ b < H2.size := fun b hb => ⟨Decidable.byContradiction fun h => by have := P.lt b h; have := hB2 b hb; omega, hv2.lt hb⟩
 have hc3 : ∀ b, B3 = some b → col b = 0 ∧ H2.size ≤ b := fun b hb => ⟨Decidable.byContradiction fun h => by have := P2.lt b h; have := hB3 b hb; omega, hB3 b hb⟩
 have hv3l : ∀ {b}, B3 = some b → b < H3.size := fun hb => hv3.lt hb
 have hv2 := hv2.frame hf3 (fun _ _ h => h)
 have m2 := P3.b.cellOf (i := 2) rfl
 obtain ⟨a3, l3, rfl⟩ := hv3.slice
 obtain ⟨aa, ca, rfl⟩ := P3.la.slice
 have e1 : (c == c) = true := by simp
 by_cases hL : L.length < 30
 ·have tL : ((L.length : Int) < 30) = True := eq_true (by omega)
  have tL' : (L.length < 30) = True := eq_true hL
  repeat' (first|(with_reducible first|refine jA ?_|(refine hK _ _ ?_;clear hK K)|refine jJ fun K hK=>?_|refine jK ?_|refine jL ?_|refine jM ?_|refine jN ?_|refine jO ?_|refine jP ?_|refine jQ ?_|(refine jB ?_;clear hK K)|(refine jC ?_;clear hK K)|refine jD ?_|refine jE ?_|refine jG ?_|refine jH ?_|refine jI ?_)|((with_reducible refine jR ?hq ?_);case hq=>rfl)|((first|(with_reducible first|refine jS fun K hK=>?_|refine jT ?_|refine jU ?_)|((with_reducible refine jV ?hy fun K hK=>?_);case hy=>rfl));simp only [go_sem, Nat.reduceEqDiff, Nat.reduceAdd, Nat.reduceMul, Nat.reduceLeDiff, Nat.reduceLT, Int.reduceLT, Int.reduceLE, Int.reduceEq, Int.reduceNeg, Int.reduceToNat, Nat.reducePow, reduceIte, reduceCtorEq, m2, tL, tL'])|((with_reducible first|refine jW ?hy ?_|refine jY ?hy ?_);case hy=>rfl)|((with_reducible first|refine jX ?hy ?_|refine jZ ?hy ?_);case hy=>rfl)|((with_reducible refine jF ?hy ?_);case hy=>decide))
  refine P3.appA (pF f S) (pD x S) elems50 tl22 hv2 (fun b hb => (hc2 b hb).1) rfl (by decide) (by show 2 * (L.length + 1) * 24 ≤ 2 ^ 48; omega) rfl ?_
  intro v4 H4 col4 TA4 w4 P4 hf4 o4 x4 n4
  obtain ⟨a4, l4, rfl⟩ := P4.la.slice
  have hne3 : ∀ b, col b = 0 → ¬ (TA b ∨ b = s) := by
   rintro b hb (h | rfl)
   ·rw [P3.ca b h] at hb; cases hb
   ·rw [P3.cs] at hb; cases hb
  have hv2 := hv2.frame hf4 fun b hb => hne3 b (hc2 b hb).1
  have hv3 := hv3.frame hf4 fun b hb => hne3 b (hc3 b hb).1
  have hc3' : ∀ b, B3 = some b → col4 b = 0 := fun b hb => by
   rw [o4 b (hv3l hb) (fun e => by have := (hc2 b e).2; have := (hc3 b hb).2; omega)]; exact (hc3 b hb).1
  repeat' (first|(with_reducible first|refine jA ?_|(refine hK _ _ ?_;clear hK K)|refine jJ fun K hK=>?_|refine jK ?_|refine jL ?_|refine jM ?_|refine jN ?_|refine jO ?_|refine jP ?_|refine jQ ?_|(refine jB ?_;clear hK K)|(refine jC ?_;clear hK K)|refine jD ?_|refine jE ?_|refine jG ?_|refine jH ?_|refine jI ?_)|((with_reducible refine jR ?hq ?_);case hq=>rfl)|((first|(with_reducible first|refine jS fun K hK=>?_|refine jT ?_|refine jU ?_)|((with_reducible refine jV ?hy fun K hK=>?_);case hy=>rfl));simp only [go_sem, Nat.reduceEqDiff, Nat.reduceAdd, Nat.reduceMul, Nat.reduceLeDiff, Nat.reduceLT, Int.reduceLT, Int.reduceLE, Int.reduceEq, Int.reduceNeg, Int.reduceToNat, Nat.reducePow, reduceIte, reduceCtorEq, w4])|((with_reducible first|refine jW ?hy ?_|refine jY ?hy ?_);case hy=>rfl)|((with_reducible first|refine jX ?hy ?_|refine jZ ?hy ?_);case hy=>rfl)|((with_reducible refine jF ?hy ?_);case hy=>decide))
  generalize hset H4 ⟨s, 2, none⟩ _ = H5 at P4 hf4 hv2 hv3 ⊢
  have m3 := P4.b.cellOf (i := 3) rfl
  obtain ⟨aw, cw, rfl⟩ := P4.lw.slice
  simp only [go_sem, Nat.reduceEqDiff, Nat.reduceAdd, Nat.reduceMul, Nat.reduceLeDiff, Nat.reduceLT, Int.reduceLT, Int.reduceLE, Int.reduceEq, Int.reduceNeg, Int.reduceToNat, Nat.reducePow, reduceIte, reduceCtorEq, m3]
  repeat' (first|(with_reducible first|refine jA ?_|(refine hK _ _ ?_;clear hK K)|refine jJ fun K hK=>?_|refine jK ?_|refine jL ?_|refine jM ?_|refine jN ?_|refine jO ?_|refine jP ?_|refine jQ ?_|(refine jB ?_;clear hK K)|(refine jC ?_;clear hK K)|refine jD ?_|refine jE ?_|refine jG ?_|refine jH ?_|refine jI ?_)|((with_reducible refine jR ?hq ?_);case hq=>rfl)|((first|(with_reducible first|refine jS fun K hK=>?_|refine jT ?_|refine jU ?_)|((with_reducible refine jV ?hy fun K hK=>?_);case hy=>rfl));simp only [go_sem, Nat.reduceEqDiff, Nat.reduceAdd, Nat.reduceMul, Nat.reduceLeDiff, Nat.reduceLT, Int.reduceLT, Int.reduceLE, Int.reduceEq, Int.reduceNeg, Int.reduceToNat, Nat.reducePow, reduceIte, reduceCtorEq, m3])|((with_reducible first|refine jW ?hy ?_|refine jY ?hy ?_);case hy=>rfl)|((with_reducible first|refine jX ?hy ?_|refine jZ ?hy ?_);case hy=>rfl)|((with_reducible refine jF ?hy ?_);case hy=>decide))
  refine P4.appW (pF f S) (pD x S) elems50 tl22 hv3 hc3' rfl (by decide) (by show 2 * (L.length + 1) * 24 ≤ 2 ^ 48; omega) rfl ?_
  intro v6 H6 col6 TW6 w6 P6 hf6 o6 x6 n6
  obtain ⟨a6, l6, rfl⟩ := P6.lw.slice
  have hne5 : ∀ b, col4 b ≠ 5 → col4 b ≠ 1 → ¬ (TW b ∨ b = s) := by
   rintro b h5 h1 (h | rfl)
   ·exact h5 (P4.cw b h)
   ·exact h1 P4.cs
  have hv2 := hv2.frame hf6 fun b hb => hne5 b (by rw [x4 b hb]; decide) (by rw [x4 b hb]; decide)
  have hv3 := hv3.frame hf6 fun b hb => hne5 b (by rw [hc3' b hb]; decide) (by rw [hc3' b hb]; decide)
  repeat' (first|(with_reducible first|refine jA ?_|(refine hK _ _ ?_;clear hK K)|refine jJ fun K hK=>?_|refine jK ?_|refine jL ?_|refine jM ?_|refine jN ?_|refine jO ?_|refine jP ?_|refine jQ ?_|(refine jB ?_;clear hK K)|(refine jC ?_;clear hK K)|refine jD ?_|refine jE ?_|refine jG ?_|refine jH ?_|refine jI ?_)|((with_reducible refine jR ?hq ?_);case hq=>rfl)|((first|(with_reducible first|refine jS fun K hK=>?_|refine jT ?_|refine jU ?_)|((with_reducible refine jV ?hy fun K hK=>?_);case hy=>rfl));simp only [go_sem, Nat.reduceEqDiff, Nat.reduceAdd, Nat.reduceMul, Nat.reduceLeDiff, Nat.reduceLT, Int.reduceLT, Int.reduceLE, Int.reduceEq, Int.reduceNeg, Int.reduceToNat, Nat.reducePow, reduceIte, reduceCtorEq, w6])|((with_reducible first|refine jW ?hy ?_|refine jY ?hy ?_);case hy=>rfl)|((with_reducible first|refine jX ?hy ?_|refine jZ ?hy ?_);case hy=>rfl)|((with_reducible refine jF ?hy ?_);case hy=>decide))
  generalize hset H6 ⟨s, 3, none⟩ _ = H7 at P6 hf6 hv2 hv3 ⊢
  refine Pkisthmuslaw05.same_ok hv2.rds hv3.rds (by omega) ?_
  rw [decide_eq_true rfl]
  repeat' (first|(with_reducible first|refine jA ?_|(refine hK _ _ ?_;clear hK K)|refine jJ fun K hK=>?_|refine jK ?_|refine jL ?_|refine jM ?_|refine jN ?_|refine jO ?_|refine jP ?_|refine jQ ?_|(refine jB ?_;clear hK K)|(refine jC ?_;clear hK K)|refine jD ?_|refine jE ?_|refine jG ?_|refine jH ?_|refine jI ?_)|((with_reducible refine jR ?hq ?_);case hq=>rfl)|((first|(with_reducible first|refine jS fun K hK=>?_|refine jT ?_|refine jU ?_)|((with_reducible refine jV ?hy fun K hK=>?_);case hy=>rfl));simp only [go_sem, Nat.reduceEqDiff, Nat.reduceAdd, Nat.reduceMul, Nat.reduceLeDiff, Nat.reduceLT, Int.reduceLT, Int.reduceLE, Int.reduceEq, Int.reduceNeg, Int.reduceToNat, Nat.reducePow, reduceIte, reduceCtorEq, e1])|((with_reducible first|refine jW ?hy ?_|refine jY ?hy ?_);case hy=>rfl)|((with_reducible first|refine jX ?hy ?_|refine jZ ?hy ?_);case hy=>rfl)|((with_reducible refine jF ?hy ?_);case hy=>decide))
  have f15 : Fr (fun b => col b ≠ 0) H1 H5 := (n2.fr.trans (hf3.mono fun _ _ h => h.elim)).trans' hf4 (by
   rintro b hb (h | rfl)
   ·rw [P3.ca b h]; decide
   ·rw [P3.cs]; decide)
  have n15 : Nx col col4 H1 H5 := ⟨f15, fun b hb => by
   rcases n4 b hb with h | h | h
   ·exact .inl h
   ·exact .inr (hB2 b h)
   ·exact .inr (by omega)⟩
  have n17 : Nx col col6 H1 H7 := ⟨f15.trans' hf6 (by
   intro b hb h
   have h4 : col4 b ≠ 0 := by
    rcases h with h | rfl
    ·rw [P4.cw b h]; decide
    ·rw [P4.cs]; decide
   rcases n15.own b h4 with h | h
   ·exact h
   ·omega), fun b hb => by
   have h5 := f15.size
   rcases n6 b hb with h | h | h
   ·exact n15.own b h
   ·exact .inr (by have := (hc3 b h).2; omega)
   ·exact .inr (by omega)⟩
  refine fin _ _ ⟨S, f, x, hn, L ++ [zs], T, TX, _, _, _, _, P6, by simp; omega, fun j ys hj => ?_⟩ (n0.trans n17)
  rcases Nat.lt_trichotomy j L.length with h | h | h
  ·rw [List.getElem?_append_left h] at hj
   exact hL2 j ys hj
  ·rw [h, List.getElem?_append_right (Nat.le_refl _)] at hj
   simp at hj
   rw [← hj]
   exact hle
  ·rw [List.getElem?_append_right (by omega), List.getElem?_eq_none (by simp; omega)] at hj
   cases hj
 ·have tL : ((L.length : Int) < 30) = False := eq_false (by omega)
  have tL' : (L.length < 30) = False := eq_false hL
  repeat' (first|(with_reducible first|refine jA ?_|(refine hK _ _ ?_;clear hK K)|refine jJ fun K hK=>?_|refine jK ?_|refine jL ?_|refine jM ?_|refine jN ?_|refine jO ?_|refine jP ?_|refine jQ ?_|(refine jB ?_;clear hK K)|(refine jC ?_;clear hK K)|refine jD ?_|refine jE ?_|refine jG ?_|refine jH ?_|refine jI ?_)|((with_reducible refine jR ?hq ?_);case hq=>rfl)|((first|(with_reducible first|refine jS fun K hK=>?_|refine jT ?_|refine jU ?_)|((with_reducible refine jV ?hy fun K hK=>?_);case hy=>rfl));simp only [go_sem, Nat.reduceEqDiff, Nat.reduceAdd, Nat.reduceMul, Nat.reduceLeDiff, Nat.reduceLT, Int.reduceLT, Int.reduceLE, Int.reduceEq, Int.reduceNeg, Int.reduceToNat, Nat.reducePow, reduceIte, reduceCtorEq, m2, tL, tL'])|((with_reducible first|refine jW ?hy ?_|refine jY ?hy ?_);case hy=>rfl)|((with_reducible first|refine jX ?hy ?_|refine jZ ?hy ?_);case hy=>rfl)|((with_reducible refine jF ?hy ?_);case hy=>decide))
  refine Pkisthmuslaw05.same_ok hv2.rds hv3.rds (by omega) ?_
  rw [decide_eq_true rfl]
  repeat' (first|(with_reducible first|refine jA ?_|(refine hK _ _ ?_;clear hK K)|refine jJ fun K hK=>?_|refine jK ?_|refine jL ?_|refine jM ?_|refine jN ?_|refine jO ?_|refine jP ?_|refine jQ ?_|(refine jB ?_;clear hK K)|(refine jC ?_;clear hK K)|refine jD ?_|refine jE ?_|refine jG ?_|refine jH ?_|refine jI ?_)|((with_reducible refine jR ?hq ?_);case hq=>rfl)|((first|(with_reducible first|refine jS fun K hK=>?_|refine jT ?_|refine jU ?_)|((with_reducible refine jV ?hy fun K hK=>?_);case hy=>rfl));simp only [go_sem, Nat.reduceEqDiff, Nat.reduceAdd, Nat.reduceMul, Nat.reduceLeDiff, Nat.reduceLT, Int.reduceLT, Int.reduceLE, Int.reduceEq, Int.reduceNeg, Int.reduceToNat, Nat.reducePow, reduceIte, reduceCtorEq, e1])|((with_reducible first|refine jW ?hy ?_|refine jY ?hy ?_);case hy=>rfl)|((with_reducible first|refine jX ?hy ?_|refine jZ ?hy ?_);case hy=>rfl)|((with_reducible refine jF ?hy ?_);case hy=>decide))
  exact fin _ _ ⟨S, f, x, hn, L, T, TX, TA, _, TW, vw, P3, hL1, hL2⟩ ((n0.trans n2).trans (Nx.same hf3 fun _ h => h.elim))

theorem st0 {k : Int} (q1 : (k == 1) = false) (q2 : (k == 2) = false) (q3 : (k == 3) = false) (q4 : (k == 4) = false) (q5 : (k == 5) = false) (q6 : (k == 6) = false) (q7 : (k == 7) = false) (hS : LSd n H s col) (fin : ∀ H' col', LSd n H' s col' → Nx col col' H H' → K (.bool true) H') :
  CallsH Try.prog 19 #[.pointer (some ⟨s, 0, none⟩), opL k u v id w ot] H K := by
 have fr0 : Fr (fun _ => False) H (H.push (.cells #[.int .i64 k, .int .i64 u, .int .i64 v, .int .i64 id, .int .i64 w, .bool ot] 54)) := (Fr.refl _ _).push _
 have b1 := Blk.new H [.int .i64 k, .int .i64 u, .int .i64 v, .int .i64 id, .int .i64 w, .bool ot] 54
 obtain ⟨S, f, x, hn, hS⟩ := hS
 have hS1 := hS.grow (pF f S) (pD x S) fr0 (fun _ _ h => h)
 have n0 : Nx col col H (H.push (.cells #[.int .i64 k, .int .i64 u, .int .i64 v, .int .i64 id, .int .i64 w, .bool ot] 54)) := Nx.same fr0 fun _ h => h.elim
 have hc0 : col H.size = 0 := Decidable.byContradiction fun h => Nat.lt_irrefl _ (hS.lt h)
 have k0 := b1.cellOf (i := 0) rfl
 have k1 := b1.cellOf (i := 1) rfl
 have k2 := b1.cellOf (i := 2) rfl
 have k3 := b1.cellOf (i := 3) rfl
 have k4 := b1.cellOf (i := 4) rfl
 obtain ⟨L, T, TX, TA, va, TW, vw, P, hL1, hL2⟩ := hS1
 have c0 := P.b.cellOf (i := 0) rfl
 have c1 := P.b.cellOf (i := 1) rfl
 have ok : S.Ok := LtM.ok P.fo
 refine call19 (by simp) ?_
 simp only [Try.f19, Option.getD_some]
 repeat' (first|(with_reducible first|refine jA ?_|(refine hK _ _ ?_;clear hK K)|refine jJ fun K hK=>?_|refine jK ?_|refine jL ?_|refine jM ?_|refine jN ?_|refine jO ?_|refine jP ?_|refine jQ ?_|(refine jB ?_;clear hK K)|(refine jC ?_;clear hK K)|refine jD ?_|refine jE ?_|refine jG ?_|refine jH ?_|refine jI ?_)|((with_reducible refine jR ?hq ?_);case hq=>rfl)|((first|(with_reducible first|refine jS fun K hK=>?_|refine jT ?_|refine jU ?_)|((with_reducible refine jV ?hy fun K hK=>?_);case hy=>rfl));simp only [go_sem, Nat.reduceEqDiff, Nat.reduceAdd, Nat.reduceMul, Nat.reduceLeDiff, Nat.reduceLT, Int.reduceLT, Int.reduceLE, Int.reduceEq, Int.reduceNeg, Int.reduceToNat, Nat.reducePow, reduceIte, reduceCtorEq, k0, opL, q1, q2, q3, q4, q5, q6, q7])|((with_reducible first|refine jW ?hy ?_|refine jY ?hy ?_);case hy=>rfl)|((with_reducible first|refine jX ?hy ?_|refine jZ ?hy ?_);case hy=>rfl)|((with_reducible refine jF ?hy ?_);case hy=>decide))
 generalize hH1 : H.push (.cells #[.int .i64 k, .int .i64 u, .int .i64 v, .int .i64 id, .int .i64 w, .bool ot] 54) = H1 at *
 exact fin _ _ ⟨S, f, x, hn, L, T, TX, TA, va, TW, vw, P, hL1, hL2⟩ n0

theorem step_ok {k : Int} (hS : LSd n H s col) (fin : ∀ H' col', LSd n H' s col' → Nx col col' H H' → K (.bool true) H') :
  CallsH Try.prog 19 #[.pointer (some ⟨s, 0, none⟩), opL k u v id w ot] H K := by
 by_cases h1 : k = 1
 ·subst h1; exact st1 hS fin
 by_cases h2 : k = 2
 ·subst h2; exact st2 hS fin
 by_cases h3 : k = 3
 ·subst h3; exact st3 hS fin
 by_cases h4 : k = 4
 ·subst h4; exact st4 hS fin
 by_cases h5 : k = 5
 ·subst h5; exact st5 hS fin
 by_cases h6 : k = 6
 ·subst h6; exact st6 hS fin
 by_cases h7 : k = 7
 ·subst h7; exact st7 hS fin
 exact st0 (by simp [h1]) (by simp [h2]) (by simp [h3]) (by simp [h4]) (by simp [h5]) (by simp [h6]) (by simp [h7]) hS fin

end
end Go.Proofs.Ytoplhfhjokjbiaa
namespace Go.Proofs.Ytoplhfhjokjbiaa
open Go Go.Hp Go.Li
set_option linter.all false
set_option maxRecDepth 100000
set_option maxHeartbeats 1600000
section
variable {H : Heap} {K : Value → Heap → Prop}
theorem xnew_no {n : Int} (hn : n < 1 ∨ 64 < n) (fin : K (.tuple #[.pointer none, .int .i64 1]) H) : CallsH Try.prog 18 #[.int .i64 n] H K := by
 refine call18 (by simp) ?_
 simp only [Try.f18, Option.getD_some]
 by_cases h0 : n < 1
 ·have e1 : (n < 1) = True := by simp [h0]
  repeat' (first|(with_reducible first|refine jA ?_|(refine hK _ _ ?_;clear hK K)|refine jJ fun K hK=>?_|refine jK ?_|refine jL ?_|refine jM ?_|refine jN ?_|refine jO ?_|refine jP ?_|refine jQ ?_|(refine jB ?_;clear hK K)|(refine jC ?_;clear hK K)|refine jD ?_|refine jE ?_|refine jG ?_|refine jH ?_|refine jI ?_)|((with_reducible refine jR ?hq ?_);case hq=>rfl)|((first|(with_reducible first|refine jS fun K hK=>?_|refine jT ?_|refine jU ?_)|((with_reducible refine jV ?hy fun K hK=>?_);case hy=>rfl));simp only [go_sem, Nat.reduceEqDiff, Nat.reduceAdd, Nat.reduceMul, Nat.reduceLeDiff, Nat.reduceLT, Int.reduceLT, Int.reduceLE, Int.reduceEq, Int.reduceNeg, Int.reduceToNat, Nat.reducePow, reduceIte, reduceCtorEq, e1])|((with_reducible first|refine jW ?hy ?_|refine jY ?hy ?_);case hy=>rfl)|((with_reducible first|refine jX ?hy ?_|refine jZ ?hy ?_);case hy=>rfl)|((with_reducible refine jF ?hy ?_);case hy=>decide))
  exact fin
 ·have e1 : (n < 1) = False := by simp [h0]
  have e2 : (64 < n) = True := by simp; omega
  repeat' (first|(with_reducible first|refine jA ?_|(refine hK _ _ ?_;clear hK K)|refine jJ fun K hK=>?_|refine jK ?_|refine jL ?_|refine jM ?_|refine jN ?_|refine jO ?_|refine jP ?_|refine jQ ?_|(refine jB ?_;clear hK K)|(refine jC ?_;clear hK K)|refine jD ?_|refine jE ?_|refine jG ?_|refine jH ?_|refine jI ?_)|((with_reducible refine jR ?hq ?_);case hq=>rfl)|((first|(with_reducible first|refine jS fun K hK=>?_|refine jT ?_|refine jU ?_)|((with_reducible refine jV ?hy fun K hK=>?_);case hy=>rfl));simp only [go_sem, Nat.reduceEqDiff, Nat.reduceAdd, Nat.reduceMul, Nat.reduceLeDiff, Nat.reduceLT, Int.reduceLT, Int.reduceLE, Int.reduceEq, Int.reduceNeg, Int.reduceToNat, Nat.reducePow, reduceIte, reduceCtorEq, e1, e2])|((with_reducible first|refine jW ?hy ?_|refine jY ?hy ?_);case hy=>rfl)|((with_reducible first|refine jX ?hy ?_|refine jZ ?hy ?_);case hy=>rfl)|((with_reducible refine jF ?hy ?_);case hy=>decide))
  exact fin
theorem rep_edge (n : Nat) : repL n [Value.int .i64 0, .int .i64 0, .int .i64 0, .int .i64 0] = rowsE n fun _ => Ed.zero := by
 unfold rowsE
 induction n with
 | zero => rfl
 | succ n ih =>
  have : ∀ m : Nat, ((List.range m).map fun _ => Ed.zero.cells) = List.replicate m Ed.zero.cells := fun m => by rw [List.map_const', List.length_range]
  rw [this] at ih ⊢
  rw [List.replicate_succ, List.flatten_cons, ← ih]
  rfl
theorem xnew_ok {n : Nat} (h1 : 1 ≤ n) (h2 : n ≤ 64) (fin : ∀ H' x T, RXM H' x T (Ls.new n) → Fr (fun _ => False) H H' → (∀ b, T b → H.size ≤ b) → K (.tuple #[.pointer (some ⟨x, 0, none⟩), .int .i64 0]) H') :
  CallsH Try.prog 18 #[.int .i64 (n : Nat)] H K := by
 have e1 : ((n : Int) < 1) = False := by simp; omega
 have e2 : (64 < (n : Int)) = False := by simp; omega
 have e1' : (n < 1) = False := by simp; omega
 have e2' : (64 < n) = False := by simp; omega
 refine call18 (by simp) ?_
 simp only [Try.f18, Option.getD_some]
 repeat' (first|(with_reducible first|refine jA ?_|(refine hK _ _ ?_;clear hK K)|refine jJ fun K hK=>?_|refine jK ?_|refine jL ?_|refine jM ?_|refine jN ?_|refine jO ?_|refine jP ?_|refine jQ ?_|(refine jB ?_;clear hK K)|(refine jC ?_;clear hK K)|refine jD ?_|refine jE ?_|refine jG ?_|refine jH ?_|refine jI ?_)|((with_reducible refine jR ?hq ?_);case hq=>rfl)|((first|(with_reducible first|refine jS fun K hK=>?_|refine jT ?_|refine jU ?_)|((with_reducible refine jV ?hy fun K hK=>?_);case hy=>rfl));simp only [go_sem, Nat.reduceEqDiff, Nat.reduceAdd, Nat.reduceMul, Nat.reduceLeDiff, Nat.reduceLT, Int.reduceLT, Int.reduceLE, Int.reduceEq, Int.reduceNeg, Int.reduceToNat, Nat.reducePow, reduceIte, reduceCtorEq, e1, e2, e1', e2'])|((with_reducible first|refine jW ?hy ?_|refine jY ?hy ?_);case hy=>rfl)|((with_reducible first|refine jX ?hy ?_|refine jZ ?hy ?_);case hy=>rfl)|((with_reducible refine jF ?hy ?_);case hy=>decide))
 refine ⟨Nat.le_refl _, by omega, ?_⟩
 have hb1 : Blk (H.push (.cells (repL n [Value.int .i64 0, .int .i64 0, .int .i64 0, .int .i64 0]).toArray 31)) H.size (rowsE n fun _ => Ed.zero) := by rw [← rep_edge]; exact Blk.new H _ _
 change K _ (H.push (.cells (repL n [Value.int .i64 0, .int .i64 0, .int .i64 0, .int .i64 0]).toArray 31))
 generalize hH1 : H.push _ = H1 at hb1 ⊢
 have f1 : Fr (fun _ => False) H H1 := by rw [← hH1]; exact (Fr.refl _ _).push _
 have z1 : H1.size = H.size + 1 := by rw [← hH1]; simp
 clear hH1
 repeat' (first|(with_reducible first|refine jA ?_|(refine hK _ _ ?_;clear hK K)|refine jJ fun K hK=>?_|refine jK ?_|refine jL ?_|refine jM ?_|refine jN ?_|refine jO ?_|refine jP ?_|refine jQ ?_|(refine jB ?_;clear hK K)|(refine jC ?_;clear hK K)|refine jD ?_|refine jE ?_|refine jG ?_|refine jH ?_|refine jI ?_)|((with_reducible refine jR ?hq ?_);case hq=>rfl)|((first|(with_reducible first|refine jS fun K hK=>?_|refine jT ?_|refine jU ?_)|((with_reducible refine jV ?hy fun K hK=>?_);case hy=>rfl));simp only [go_sem, Nat.reduceEqDiff, Nat.reduceAdd, Nat.reduceMul, Nat.reduceLeDiff, Nat.reduceLT, Int.reduceLT, Int.reduceLE, Int.reduceEq, Int.reduceNeg, Int.reduceToNat, Nat.reducePow, reduceIte, reduceCtorEq])|((with_reducible first|refine jW ?hy ?_|refine jY ?hy ?_);case hy=>rfl)|((with_reducible first|refine jX ?hy ?_|refine jZ ?hy ?_);case hy=>rfl)|((with_reducible refine jF ?hy ?_);case hy=>decide))
 generalize hH2 : H1.push _ = H2
 have f12 : Fr (fun _ => False) H1 H2 := by rw [← hH2]; exact (Fr.refl _ _).push _
 have s2 : H2.size = H1.size + 1 := by rw [← hH2]; simp
 have b2 : Blk H2 H1.size [.slice none 0 0, .slice (some ⟨H.size, 0, none⟩) n n] := by rw [← hH2]; exact Blk.new H1 [.slice none 0 0, .slice (some ⟨H.size, 0, none⟩) n n] _
 clear hH2
 refine x_loop (fun m e' H' => ∃ (i : Nat) (Bu : Option Nat) (wu : Value), e' 5 = .int .i64 (i : Nat) ∧ i ≤ n ∧ Blk H' H1.size [wu, .slice (some ⟨H.size, 0, none⟩) n n] ∧ IR H' Bu wu (List.replicate i (-1)) ∧ Blk H' H.size (rowsE n fun _ => Ed.zero) ∧ (∀ b, Bu = some b → H2.size ≤ b) ∧ Fr (fun _ => False) H H' ∧ m = n - i) n
  ⟨0, none, _, rfl, Nat.zero_le _, b2, IR.nil _, hb1.frame f12 fun h => h, nofun, f1.trans f12, rfl⟩ ?_
 rintro m e1 H3 ⟨i, Bu, wu, i5, hi, hb3, hu3, hg3, hB3, hf3, hm⟩ hoff
 have i0 : e1 0 = .int .i64 (n : Nat) := (hoff 0 rfl).trans rfl
 have i4 : e1 4 = .pointer (some ⟨H1.size, 0, none⟩) := (hoff 4 rfl).trans rfl
 clear hoff
 have c0 := hb3.cellOf (i := 0) rfl
 obtain ⟨su, cu, rfl⟩ := hu3.slice
 by_cases hlt : i < n
 ·have ew : IntKind.i64.wrap ((i : Int) + 1) = ((i + 1 : Nat) : Int) := by rw [wrap_i64] <;> omega
  have hbs : 2 * ((List.replicate i (-1 : Int)).length + 1) * 8 ≤ 2 ^ 48 := by simp; omega
  repeat' (first|(with_reducible first|refine jA ?_|(refine hK _ _ ?_;clear hK K)|refine jJ fun K hK=>?_|refine jK ?_|refine jL ?_|refine jM ?_|refine jN ?_|refine jO ?_|refine jP ?_|refine jQ ?_|(refine jB ?_;clear hK K)|(refine jC ?_;clear hK K)|refine jD ?_|refine jE ?_|refine jG ?_|refine jH ?_|refine jI ?_)|((with_reducible refine jR ?hq ?_);case hq=>rfl)|((first|(with_reducible first|refine jS fun K hK=>?_|refine jT ?_|refine jU ?_)|((with_reducible refine jV ?hy fun K hK=>?_);case hy=>rfl));simp only [go_sem, Nat.reduceEqDiff, Nat.reduceAdd, Nat.reduceMul, Nat.reduceLeDiff, Nat.reduceLT, Int.reduceLT, Int.reduceLE, Int.reduceEq, Int.reduceNeg, Int.reduceToNat, Nat.reducePow, reduceIte, reduceCtorEq, i0, i4, i5, hlt, c0])|((with_reducible first|refine jW ?hy ?_|refine jY ?hy ?_);case hy=>rfl)|((with_reducible first|refine jX ?hy ?_|refine jZ ?hy ?_);case hy=>rfl)|((with_reducible refine jF ?hy ?_);case hy=>decide))
  refine append_ir elems22 tl3 hu3 rfl (by decide) hbs rfl ?_
  intro v' H4 B' hu4 hf4 hB4
  have l3 := hb3.lt
  have hne : ∀ b, b < H2.size → ¬ Bu = some b := fun b hb e => by have := hB3 b e; omega
  have hb4 := hb3.frame hf4 (hne _ (by omega))
  have hg4 := hg3.frame hf4 (hne _ (by omega))
  have w0 := hb4.okW (i := 0) (by simp)
  have hb5 := hb4.set_same 0 v'
  have f45 : Fr (· = H1.size) H4 (hset H4 ⟨H1.size, 0, none⟩ v') := Fr.set (S := (· = H1.size)) (Fr.refl _ _) (.inl rfl) _
  have hB5 : ∀ b, B' = some b → H2.size ≤ b := fun b hb => by
   rcases hB4 with e | ⟨g, q3, q4⟩
   ·exact hB3 b (by rw [← e]; exact hb)
   ·rw [q3] at hb
    obtain rfl := Option.some.inj hb
    have := hf3.size; have := hb3.lt; omega
  obtain ⟨s4, c4, rfl⟩ := hu4.slice
  repeat' (first|(with_reducible first|refine jA ?_|(refine hK _ _ ?_;clear hK K)|refine jJ fun K hK=>?_|refine jK ?_|refine jL ?_|refine jM ?_|refine jN ?_|refine jO ?_|refine jP ?_|refine jQ ?_|(refine jB ?_;clear hK K)|(refine jC ?_;clear hK K)|refine jD ?_|refine jE ?_|refine jG ?_|refine jH ?_|refine jI ?_)|((with_reducible refine jR ?hq ?_);case hq=>rfl)|((first|(with_reducible first|refine jS fun K hK=>?_|refine jT ?_|refine jU ?_)|((with_reducible refine jV ?hy fun K hK=>?_);case hy=>rfl));simp only [go_sem, Nat.reduceEqDiff, Nat.reduceAdd, Nat.reduceMul, Nat.reduceLeDiff, Nat.reduceLT, Int.reduceLT, Int.reduceLE, Int.reduceEq, Int.reduceNeg, Int.reduceToNat, Nat.reducePow, reduceIte, reduceCtorEq, i4, i5, w0, ew])|((with_reducible first|refine jW ?hy ?_|refine jY ?hy ?_);case hy=>rfl)|((with_reducible first|refine jX ?hy ?_|refine jZ ?hy ?_);case hy=>rfl)|((with_reducible refine jF ?hy ?_);case hy=>decide))
  refine loop_normal (m' := n - (i + 1)) (by omega) ⟨i + 1, B', _, rfl, hlt, hb5, ?_, hg4.frame f45 (by omega), hB5, (hf3.trans' hf4 fun b hb e => by have := hB3 b e; omega).trans' f45 fun b hb e => by omega, rfl⟩
  rw [List.replicate_succ']
  exact hu4.frame f45 fun b hb e => by have := hB5 b hb; omega
 ·have t1 : (i < n) = False := by simp [hlt]
  obtain rfl : i = n := by omega
  repeat' (first|(with_reducible first|refine jA ?_|(refine hK _ _ ?_;clear hK K)|refine jJ fun K hK=>?_|refine jK ?_|refine jL ?_|refine jM ?_|refine jN ?_|refine jO ?_|refine jP ?_|refine jQ ?_|(refine jB ?_;clear hK K)|(refine jC ?_;clear hK K)|refine jD ?_|refine jE ?_|refine jG ?_|refine jH ?_|refine jI ?_)|((with_reducible refine jR ?hq ?_);case hq=>rfl)|((first|(with_reducible first|refine jS fun K hK=>?_|refine jT ?_|refine jU ?_)|((with_reducible refine jV ?hy fun K hK=>?_);case hy=>rfl));simp only [go_sem, Nat.reduceEqDiff, Nat.reduceAdd, Nat.reduceMul, Nat.reduceLeDiff, Nat.reduceLT, Int.reduceLT, Int.reduceLE, Int.reduceEq, Int.reduceNeg, Int.reduceToNat, Nat.reducePow, reduceIte, reduceCtorEq, i0, i4, i5, t1])|((with_reducible first|refine jW ?hy ?_|refine jY ?hy ?_);case hy=>rfl)|((with_reducible first|refine jX ?hy ?_|refine jZ ?hy ?_);case hy=>rfl)|((with_reducible refine jF ?hy ?_);case hy=>decide))
  obtain ⟨gu, cu', rfl, hsl, _⟩ := hu3.read (i := 0) (x := -1) (by rw [List.getElem?_replicate, if_pos (by omega)])
  simp only [Value.slice.injEq, List.length_replicate] at hsl
  obtain ⟨rfl, _, rfl⟩ := hsl
  have hgu := hB3 gu rfl
  have ez : List.replicate i (-1 : Int) = zrow i (upS (Ls.new i)) := by
   unfold zrow
   rw [show (upS (Ls.new i)) = fun _ => (-1 : Int) from rfl, List.map_const', List.length_range]
  rw [ez, zrow_len] at hu3
  rw [List.length_replicate] at hb3
  have hX : RX H3 H1.size gu H.size i cu (upS (Ls.new i)) (byS (Ls.new i)) := ⟨hb3, hu3, hg3, by omega, by omega, by omega⟩
  refine fin _ _ (fun b => b = H1.size ∨ b = gu ∨ b = H.size) ⟨gu, H.size, cu, hX, fun b => Iff.rfl⟩ hf3 fun b hb => ?_
  rcases hb with rfl | rfl | rfl <;> omega
end
end Go.Proofs.Ytoplhfhjokjbiaa
