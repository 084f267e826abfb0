/-
  Steps of a splay in a tree: the node comes up, what stands in order stays.
-/
import Derived.Test.YtndkbhlfbeiniaaSpV
namespace Go.Sp
open Go Go.Hp
set_option linter.unusedVariables false
set_option linter.unusedSimpArgs false

/-- A tree whose handles in order are xs, each once, with items that may be. -/
structure Row (it : Nat → Item) (xs : List Nat) : Prop where
  nd : xs.Nodup
  may : ∀ i ∈ xs, May (it i)
  len : xs.length ≤ 4096
theorem plug_list : ∀ (ps : List Fm) {t t' : Tr}, t.list = t'.list → (plug t ps).list = (plug t' ps).list
  | [], _, _, h => h
  | ⟨false, h, s⟩ :: ps, t, t', e => plug_list ps (t := .node t h s) (t' := .node t' h s) (by simp [Tr.list, e])
  | ⟨true, h, s⟩ :: ps, t, t', e => plug_list ps (t := .node s h t) (t' := .node s h t') (by simp [Tr.list, e])
section
variable {N : Nodes} {it : Nat → Item} {a b c : Tr} {k u : Nat} {ps : List Fm} {xs : List Nat}
theorem turn_left (h : TrAt N it 0 (plug (.node a k b) (⟨false, u, c⟩ :: ps))) (e : (plug (.node a k b) (⟨false, u, c⟩ :: ps)).list = xs) (r : Row it xs) :
    TrAt (turnN N k) it 0 (plug (.node a k (.node b u c)) ps) ∧ (plug (.node a k (.node b u c)) ps).list = xs := by
  have hp := plug_perm (⟨false, u, c⟩ :: ps) (.node a k b)
  rw [e] at hp
  simp only [Tr.list, ctx] at hp
  refine ⟨rot_left h ((hp.nodup_iff).1 r.nd) (fun i hi => r.may i (hp.mem_iff.2 ?_)) ?_, ?_⟩
  · simp only [List.mem_append, List.mem_cons] at hi ⊢
    rcases hi with hi | hi | hi
    · exact .inl hi
    · exact .inr (.inl hi)
    · exact .inr (.inr (.inl hi))
  · have := hp.length_eq
    have := r.len
    simp only [List.length_append, List.length_cons] at this ⊢
    simp only [List.length_append, List.length_cons] at *
    omega
  · rw [← e]
    exact plug_list ps (by simp [Tr.list])
theorem turn_right (h : TrAt N it 0 (plug (.node a k b) (⟨true, u, c⟩ :: ps))) (e : (plug (.node a k b) (⟨true, u, c⟩ :: ps)).list = xs) (r : Row it xs) :
    TrAt (turnN N k) it 0 (plug (.node (.node c u a) k b) ps) ∧ (plug (.node (.node c u a) k b) ps).list = xs := by
  have hp := plug_perm (⟨true, u, c⟩ :: ps) (.node a k b)
  rw [e] at hp
  simp only [Tr.list, ctx] at hp
  refine ⟨rot_right h ((hp.nodup_iff).1 r.nd) (fun i hi => r.may i (hp.mem_iff.2 ?_)) ?_, ?_⟩
  · simp only [List.mem_append, List.mem_cons] at hi ⊢
    rcases hi with hi | hi | hi
    · exact .inl hi
    · exact .inr (.inl hi)
    · exact .inr (.inr (.inl hi))
  · have := hp.length_eq
    have := r.len
    simp only [List.length_append, List.length_cons] at *
    omega
  · rw [← e]
    exact plug_list ps (by simp [Tr.list])
theorem up_of (h : TrAt N it 0 (plug (.node a k b) ps)) : (N k).up = upOf ps ∧ k ≠ 0 := by
  obtain ⟨⟨k0, ek, _⟩, _⟩ := (trAt_plug _ _).1 h
  exact ⟨by rw [ek]; rfl, k0⟩
theorem side_left (h : TrAt N it 0 (plug (.node a k b) (⟨false, u, c⟩ :: ps))) (e : (plug (.node a k b) (⟨false, u, c⟩ :: ps)).list = xs) (r : Row it xs) : sideN N u k = 0 := by
  obtain ⟨⟨k0, ek, _⟩, u0, eu, hc, hp⟩ := (trAt_plug _ _).1 h
  have hp := plug_perm (⟨false, u, c⟩ :: ps) (.node a k b)
  rw [e] at hp
  have hd := (hp.nodup_iff).1 r.nd
  simp only [Tr.list, ctx, List.nodup_append, List.nodup_cons, List.mem_append, List.mem_cons, not_or] at hd
  obtain ⟨_, _, dX⟩ := hd
  unfold sideN
  rw [eu]
  refine if_neg fun e => ?_
  have e' : c.root = k := e
  exact dX k (.inr (.inl rfl)) k (.inr (.inl (by have := Tr.root_mem (t := c) (by rw [e']; exact k0); rwa [e'] at this))) rfl
theorem side_right (h : TrAt N it 0 (plug (.node a k b) (⟨true, u, c⟩ :: ps))) : sideN N u k = 1 := by
  obtain ⟨⟨k0, ek, _⟩, u0, eu, hc, hp⟩ := (trAt_plug _ _).1 h
  unfold sideN
  rw [eu]
  exact if_pos rfl
end
theorem turnN_ne {N : Nodes} {k i : Nat} (h1 : i ≠ k) (h2 : i ≠ (N k).up) (h3 : ∀ s, i ≠ (N k).kid s ∨ (N k).kid s = 0) (h4 : i ≠ (N (N k).up).up ∨ (N (N k).up).up = 0) (hu : (N k).up ≠ 0) : turnN N k i = N i := by
  rw [turnN_eq N rfl rfl rfl rfl]
  unfold pullN
  rw [upd_ne _ _ h1, upd_ne _ _ h2]
  exact hung_ne h1 h2 (h3 _) h4 hu
theorem turn_off {N : Nodes} {it : Nat → Item} {a b : Tr} {k : Nat} {f : Fm} {ps : List Fm} {xs : List Nat} (h : TrAt N it 0 (plug (.node a k b) (f :: ps))) (e : (plug (.node a k b) (f :: ps)).list = xs) {i : Nat} (hi : i ∉ xs) : turnN N k i = N i := by
  have hp := plug_perm (f :: ps) (.node a k b)
  rw [e] at hp
  have hm : ∀ j, j ∈ a.list ∨ j = k ∨ j ∈ b.list ∨ j ∈ ctx (f :: ps) → j ∈ xs := fun j hj => hp.mem_iff.2 (by
    simp only [Tr.list, List.mem_append, List.mem_cons]
    rcases hj with hj | hj | hj | hj
    · exact .inl (.inl hj)
    · exact .inl (.inr (.inl hj))
    · exact .inl (.inr (.inr hj))
    · exact .inr hj)
  obtain ⟨hu, k0⟩ := up_of h
  obtain ⟨⟨_, ek, _⟩, hpath⟩ := (trAt_plug _ _).1 h
  have hf : f.h ∈ ctx (f :: ps) := by cases f; simp [ctx]
  have hu' : (N k).up = f.h := hu
  have u0 : f.h ≠ 0 := fun e0 => hpath.ne_zero (e0 ▸ hf)
  have eu : (N f.h).up = upOf ps := by
    obtain ⟨side, u, c⟩ := f
    cases side
    · obtain ⟨_, eu, _⟩ := hpath; exact congrArg Rec.up eu
    · obtain ⟨_, eu, _⟩ := hpath; exact congrArg Rec.up eu
  refine turnN_ne (fun e => hi (hm i (.inr (.inl e)))) (fun e => hi (hm i (.inr (.inr (.inr (by rw [e, hu']; exact hf)))))) (fun s => ?_) ?_ (by rw [hu']; exact u0)
  · by_cases h0 : (N k).kid s = 0
    · exact .inr h0
    · refine .inl fun e => hi (hm i ?_)
      rw [ek] at h0 e
      unfold Rec.kid at h0 e
      by_cases hs : s = 0
      · rw [if_pos hs] at h0 e
        exact .inl (by rw [e]; exact Tr.root_mem h0)
      · rw [if_neg hs] at h0 e
        exact .inr (.inr (.inl (by rw [e]; exact Tr.root_mem h0)))
  · rw [hu', eu]
    by_cases h0 : upOf ps = 0
    · exact .inr h0
    · refine .inl fun e => hi (hm i (.inr (.inr (.inr ?_))))
      have := upOf_mem h0
      rw [← e] at this
      obtain ⟨side, u, c⟩ := f
      simp only [ctx, List.mem_cons, List.mem_append]
      exact .inr (.inr this)
/-- The node k stands m below the root of a tree of xs; whatever is not of xs is as in N0. -/
structure Below (it : Nat → Item) (k : Nat) (xs : List Nat) (N0 : Nodes) (m : Nat) (N : Nodes) : Prop where
  tree : ∃ (a b : Tr) (ps : List Fm), ps.length = m ∧ TrAt N it 0 (plug (.node a k b) ps) ∧ (plug (.node a k b) ps).list = xs
  off : ∀ i, i ∉ xs → N i = N0 i
theorem below_step {it : Nat → Item} {k : Nat} {xs : List Nat} {N0 : Nodes} (r : Row it xs) (m : Nat) (N : Nodes) (h : Below it k xs N0 m N) : (N k).up = 0 ∨ (stepOk N k ∧ ∃ m', m' < m ∧ Below it k xs N0 m' (stepN N k)) := by
  obtain ⟨⟨a, b, ps, rfl, ht, e⟩, hoff⟩ := h
  obtain ⟨hu, k0⟩ := up_of ht
  cases ps with
  | nil => exact .inl hu
  | cons f1 ps =>
    right
    have hup : (N k).up = f1.h := hu
    obtain ⟨⟨_, ek, _⟩, hpath⟩ := (trAt_plug _ _).1 ht
    have hf : f1.h ∈ ctx (f1 :: ps) := by cases f1; simp [ctx]
    have u0 : f1.h ≠ 0 := fun e0 => hpath.ne_zero (e0 ▸ hf)
    have eu : (N f1.h).up = upOf ps := by
      obtain ⟨side, u, c⟩ := f1
      cases side
      · obtain ⟨_, eu, _⟩ := hpath; exact congrArg Rec.up eu
      · obtain ⟨_, eu, _⟩ := hpath; exact congrArg Rec.up eu
    have off1 : ∀ i, i ∉ xs → turnN N k i = N0 i := fun i hi => by rw [turn_off ht e hi]; exact hoff i hi
    cases ps with
    | nil =>
      have ht0 : (N (N k).up).up = 0 := by rw [hup, eu]; rfl
      refine ⟨⟨by rw [hup]; exact u0, fun h => absurd ht0 h⟩, 0, by simp, ?_⟩
      have es : stepN N k = turnN N k := if_pos ht0
      rw [es]
      obtain ⟨side, u, c⟩ := f1
      cases side
      · obtain ⟨h1, h2⟩ := turn_left ht e r
        exact ⟨⟨_, _, [], rfl, h1, h2⟩, off1⟩
      · obtain ⟨h1, h2⟩ := turn_right ht e r
        exact ⟨⟨_, _, [], rfl, h1, h2⟩, off1⟩
    | cons f2 ps =>
      have ht0 : (N (N k).up).up = f2.h := by rw [hup, eu]; rfl
      have hf2 : f2.h ∈ ctx (f1 :: f2 :: ps) := by cases f1; cases f2; simp [ctx]
      have t0 : f2.h ≠ 0 := fun e0 => hpath.ne_zero (e0 ▸ hf2)
      have es : stepN N k = turnN (first N k) k := by
        unfold stepN first
        rw [if_neg (by rw [ht0]; exact t0)]
        split <;> rfl
      rw [es]
      have sides : sideN N (N (N k).up).up (N k).up = sideN N f2.h f1.h ∧ sideN N (N k).up k = sideN N f1.h k := by rw [ht0, hup]; exact ⟨rfl, rfl⟩
      -- it's enough to know the tree behind the first turn
      have fin : ∀ (a' b' : Tr) (f : Fm), TrAt (first N k) it 0 (plug (.node a' k b') (f :: ps)) → (plug (.node a' k b') (f :: ps)).list = xs → (∀ i, i ∉ xs → first N k i = N0 i) →
          stepOk N k ∧ ∃ m', m' < (f1 :: f2 :: ps).length ∧ Below it k xs N0 m' (turnN (first N k) k) := by
        intro a' b' f h1 h2 h3
        obtain ⟨hu1, _⟩ := up_of h1
        obtain ⟨_, hpath1⟩ := (trAt_plug _ _).1 h1
        have hf1 : f.h ∈ ctx (f :: ps) := by cases f; simp [ctx]
        have f0 : f.h ≠ 0 := fun e0 => hpath1.ne_zero (e0 ▸ hf1)
        refine ⟨⟨by rw [hup]; exact u0, fun _ => by rw [hu1]; exact f0⟩, ps.length, by simp; omega, ?_⟩
        have off2 : ∀ i, i ∉ xs → turnN (first N k) k i = N0 i := fun i hi => by rw [turn_off h1 h2 hi]; exact h3 i hi
        obtain ⟨side, u, c⟩ := f
        cases side
        · obtain ⟨h4, h5⟩ := turn_left h1 h2 r
          exact ⟨⟨_, _, ps, rfl, h4, h5⟩, off2⟩
        · obtain ⟨h4, h5⟩ := turn_right h1 h2 r
          exact ⟨⟨_, _, ps, rfl, h4, h5⟩, off2⟩
      obtain ⟨sd1, u, c⟩ := f1
      obtain ⟨sd2, t, d⟩ := f2
      simp only [] at sides ht0 hup
      cases sd1 <;> cases sd2
      · -- left, left
        have ht' : TrAt N it 0 (plug (.node (.node a k b) u c) (⟨false, t, d⟩ :: ps)) := ht
        have s1 := side_left ht e r
        have s2 := side_left ht' e r
        have ef : first N k = turnN N u := by unfold first; rw [sides.1, sides.2, s1, s2, if_pos rfl, hup]
        obtain ⟨h1, h2⟩ := turn_left ht' e r
        rw [← ef] at h1
        exact fin a b ⟨false, u, .node c t d⟩ h1 h2 (fun i hi => by rw [ef, turn_off ht' e hi]; exact hoff i hi)
      · -- k left, u right
        have ht' : TrAt N it 0 (plug (.node (.node a k b) u c) (⟨true, t, d⟩ :: ps)) := ht
        have s1 := side_left ht e r
        have s2 := side_right ht'
        have ef : first N k = turnN N k := by unfold first; rw [sides.1, sides.2, s1, s2, if_neg (by omega)]
        obtain ⟨h1, h2⟩ := turn_left ht e r
        rw [← ef] at h1
        exact fin _ _ _ h1 h2 (fun i hi => by rw [ef]; exact off1 i hi)
      · -- k right, u left
        have ht' : TrAt N it 0 (plug (.node c u (.node a k b)) (⟨false, t, d⟩ :: ps)) := ht
        have s1 := side_right ht
        have s2 := side_left ht' e r
        have ef : first N k = turnN N k := by unfold first; rw [sides.1, sides.2, s1, s2, if_neg (by omega)]
        obtain ⟨h1, h2⟩ := turn_right ht e r
        rw [← ef] at h1
        exact fin _ _ _ h1 h2 (fun i hi => by rw [ef]; exact off1 i hi)
      · -- right, right
        have ht' : TrAt N it 0 (plug (.node c u (.node a k b)) (⟨true, t, d⟩ :: ps)) := ht
        have s1 := side_right ht
        have s2 := side_right ht'
        have ef : first N k = turnN N u := by unfold first; rw [sides.1, sides.2, s1, s2, if_pos rfl, hup]
        obtain ⟨h1, h2⟩ := turn_right ht' e r
        rw [← ef] at h1
        exact fin a b ⟨true, u, .node d t c⟩ h1 h2 (fun i hi => by rw [ef, turn_off ht' e hi]; exact hoff i hi)
end Go.Sp
