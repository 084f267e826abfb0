/-
  What a turn does, handle by handle.
-/
import Derived.Test.YtndkbhlfbeiniaaSpT
namespace Go.Sp
open Go Go.Hp
set_option linter.unusedVariables false
set_option linter.unusedSimpArgs false

/-- The nodes behind the hanging, ahead of the reckoning. -/
def hung (N : Nodes) (k u top x s : Nat) : Nodes := hangN (setUp (turn2 (hangN N u s x) top u k) k top) k (1 - s) u
theorem turnN_eq (N : Nodes) {k u top x s : Nat} (hu : (N k).up = u) (ht : (N u).up = top) (hs : sideN N u k = s) (hx : (N k).kid (1 - s) = x) : turnN N k = pullN (pullN (hung N k u top x s) u) k := by
  unfold turnN hung
  rw [hu, ht, hs, hx]
theorem hung_k {N : Nodes} {k u top x s : Nat} (h1 : k ≠ u) (h2 : k ≠ top) (h3 : k ≠ x) (hu : u ≠ 0) : hung N k u top x s k = { (N k).setKid (1 - s) u with up := top } := by
  unfold hung hangN turn2 setUp
  by_cases hx : x = 0 <;> by_cases ht : top = 0 <;> simp only [hx, ht, hu, if_true, if_false, upd, h1, h2, h3, Ne.symm h1, h1.symm, ne_eq, not_false_eq_true] <;> (unfold Rec.setKid; split <;> rfl)
theorem hung_u {N : Nodes} {k u top x s : Nat} (h1 : k ≠ u) (h2 : u ≠ top) (h3 : u ≠ x) (hu : u ≠ 0) : hung N k u top x s u = { (N u).setKid s x with up := k } := by
  unfold hung hangN turn2 setUp
  by_cases hx : x = 0 <;> by_cases ht : top = 0 <;> simp only [hx, ht, hu, if_true, if_false, upd, h1, h2, h3, Ne.symm h1] <;> rfl
theorem hung_x {N : Nodes} {k u top x s : Nat} (h1 : k ≠ x) (h2 : u ≠ x) (h3 : top ≠ x) (hu : u ≠ 0) (hx : x ≠ 0) : hung N k u top x s x = { N x with up := u } := by
  unfold hung hangN turn2 setUp
  by_cases ht : top = 0 <;> simp only [hx, ht, hu, if_true, if_false, upd, h1.symm, h2.symm, Ne.symm h3, h1, h2, h3]
theorem hung_top {N : Nodes} {k u top x s : Nat} (h1 : k ≠ top) (h2 : u ≠ top) (h3 : top ≠ x) (hu : u ≠ 0) (ht : top ≠ 0) : hung N k u top x s top = (N top).setKid (sideN N top u) k := by
  unfold hung hangN turn2 setUp sideN
  by_cases hx : x = 0 <;> simp only [hx, ht, hu, if_true, if_false, upd, h1.symm, h2.symm, h3, h1, h2]
theorem hung_ne {N : Nodes} {k u top x s i : Nat} (h1 : i ≠ k) (h2 : i ≠ u) (h3 : i ≠ x ∨ x = 0) (h4 : i ≠ top ∨ top = 0) (hu : u ≠ 0) : hung N k u top x s i = N i := by
  unfold hung hangN turn2 setUp
  by_cases hx : x = 0 <;> by_cases ht : top = 0 <;> simp only [hx, ht, hu, if_true, if_false, upd, h1, h2, or_false, or_true] at h3 h4 ⊢ <;> simp only [h3, h4, if_false]
theorem belowN_congr {N N' : Nodes} {y : Nat} (h : y ≠ 0 → (N' y).many = (N y).many ∧ (N' y).total = (N y).total) : belowN N' y = belowN N y := by
  unfold belowN
  by_cases hy : y = 0
  · rw [if_pos hy, if_pos hy]
  · rw [if_neg hy, if_neg hy, (h hy).1, (h hy).2]
theorem TrAt.below {N : Nodes} {it : Nat → Item} {t : Tr} {up : Nat} (h : TrAt N it up t) : belowN N t.root = ((t.list.length : Int), aggOf it t.list) := by
  cases t with
  | nil => rfl
  | node l k r =>
    obtain ⟨a, b, _, _⟩ := h
    have e : belowN N k = ((N k).many, (N k).total) := if_neg a
    show belowN N k = _
    rw [e, b]
    rfl
theorem pullR_of {N : Nodes} {it : Nat → Item} {h up l r : Nat} {xs ys : List Nat} (hl : belowN N l = ((xs.length : Int), aggOf it xs)) (hr : belowN N r = ((ys.length : Int), aggOf it ys))
    (e1 : (N h).item = it h) (e2 : (N h).up = up) (e3 : (N h).l = l) (e4 : (N h).r = r) (hm : ∀ i ∈ xs ++ h :: ys, May (it i)) (hlen : (xs ++ h :: ys).length ≤ 4096) : pullR N h = recOf it up l h r (xs ++ h :: ys) := by
  simp only [List.length_append, List.length_cons] at hlen
  have mx : ∀ x ∈ xs.map it, May x := fun x hx => by
    obtain ⟨i, hi, rfl⟩ := List.mem_map.1 hx
    exact hm i (List.mem_append_left _ hi)
  have my : ∀ x ∈ ys.map it, May x := fun x hx => by
    obtain ⟨i, hi, rfl⟩ := List.mem_map.1 hx
    exact hm i (List.mem_append_right _ (.tail _ hi))
  have mh : May (it h) := hm h (List.mem_append_right _ (.head _))
  have t1 : plusA (aggOf it xs) (ownA (it h)) = aggL (xs.map it ++ [it h]) := by
    rw [ownA_aggL mh]
    exact plusA_aggL mx (fun y hy => by rw [List.mem_singleton.1 hy]; exact mh) (by simp; omega)
  have t2 : plusA (aggL (xs.map it ++ [it h])) (aggOf it ys) = aggL ((xs.map it ++ [it h]) ++ ys.map it) := by
    refine plusA_aggL (fun x hx => ?_) my (by simp; omega)
    rcases List.mem_append.1 hx with hx | hx
    · exact mx x hx
    · rw [List.mem_singleton.1 hx]; exact mh
  unfold pullR recOf
  rw [e1, e3, e4, hl, hr, t1, t2]
  have w1 : w64 (w64 ((xs.length : Int) + 1) + (ys.length : Int)) = (((xs ++ h :: ys).length : Nat) : Int) := by
    have : w64 ((xs.length : Int) + 1) = (xs.length : Int) + 1 := by unfold w64; rw [wrap_i64] <;> omega
    rw [this]
    unfold w64
    rw [wrap_i64]
    · simp only [List.length_append, List.length_cons]; omega
    · omega
    · omega
  simp only [w1]
  have e5 : aggL ((xs.map it ++ [it h]) ++ ys.map it) = aggOf it (xs ++ h :: ys) := by unfold aggOf; simp
  rw [e5]
  cases hN : N h with
  | mk a b c d f g =>
    rw [hN] at e1 e2 e3 e4
    simp only [] at e1 e2 e3 e4
    subst e1 e2 e3 e4
    rfl
end Go.Sp
