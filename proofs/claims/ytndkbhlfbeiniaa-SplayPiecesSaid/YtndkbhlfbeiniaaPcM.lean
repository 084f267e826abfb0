/-
  SplayPieces, plain: where a sequence is cut, and the pieces.
-/
import Derived.Test.YtndkbhlfbeiniaaSpN
namespace Go.Sp
open Go Go.Hp
set_option linter.unusedVariables false
/-- Rising numbers with one more. -/
def insL : List Nat → Nat → List Nat
  | [], k => [k]
  | x :: F, k => if k < x then k :: x :: F else if x = k then x :: F else x :: insL F k
def Rising : List Nat → Prop
  | [] => True
  | [_] => True
  | x :: y :: F => x < y ∧ Rising (y :: F)
theorem insL_lt : ∀ {F G : List Nat} {k : Nat}, (∀ x ∈ F, x < k) → insL (F ++ G) k = F ++ insL G k
  | [], G, k, _ => rfl
  | x :: F, G, k, h => by
    have hx := h x (.head _)
    show (if k < x then k :: x :: (F ++ G) else if x = k then x :: (F ++ G) else x :: insL (F ++ G) k) = _
    rw [if_neg (by omega), if_neg (by omega), insL_lt fun y hy => h y (.tail _ hy)]
    rfl
theorem rising_tail {x : Nat} {F : List Nat} (h : Rising (x :: F)) : Rising F := by
  cases F with
  | nil => trivial
  | cons y F => exact h.2
theorem rising_lt : ∀ {F : List Nat} {x : Nat}, Rising (x :: F) → ∀ y ∈ F, x < y
  | [], _, _, y, h => by cases h
  | z :: F, x, h, y, hy => by
    rcases List.mem_cons.1 hy with rfl | hy
    · exact h.1
    · have := rising_lt h.2 y hy
      have := h.1
      omega
theorem rising_cons {x : Nat} {F : List Nat} (h : Rising F) (hx : ∀ y ∈ F, x < y) : Rising (x :: F) := by
  cases F with
  | nil => trivial
  | cons y F => exact ⟨hx y (.head _), h⟩
theorem insL_mem : ∀ {F : List Nat} {k y : Nat}, y ∈ insL F k ↔ y = k ∨ y ∈ F
  | [], k, y => by simp [insL]
  | x :: F, k, y => by
    unfold insL
    split
    · simp
    · split
      · rename_i h; subst h; simp
      · rw [List.mem_cons, insL_mem, List.mem_cons]
        constructor
        · rintro (h | h | h)
          · exact .inr (.inl h)
          · exact .inl h
          · exact .inr (.inr h)
        · rintro (h | h | h)
          · exact .inr (.inl h)
          · exact .inl h
          · exact .inr (.inr h)
theorem insL_rising : ∀ {F : List Nat} {k : Nat}, Rising F → Rising (insL F k)
  | [], k, _ => trivial
  | x :: F, k, h => by
    unfold insL
    split
    · rename_i h1; exact ⟨h1, h⟩
    · split
      · exact h
      · rename_i h1 h2
        refine rising_cons (insL_rising (rising_tail h)) fun y hy => ?_
        rcases insL_mem.1 hy with rfl | hy
        · omega
        · exact rising_lt h y hy
theorem insL_length : ∀ (F : List Nat) (k : Nat), (insL F k).length ≤ F.length + 1
  | [], k => by simp [insL]
  | x :: F, k => by
    have := insL_length F k
    unfold insL
    split
    · simp
    · split
      · simp
      · simp; omega
theorem insL_head {F : List Nat} {k : Nat} (h : ∃ F', F = 0 :: F') : ∃ F', insL F k = 0 :: F' := by
  obtain ⟨F', rfl⟩ := h
  unfold insL
  rw [if_neg (by omega)]
  split
  · exact ⟨_, rfl⟩
  · exact ⟨_, rfl⟩
/-- The pieces of a list, cut at these places. -/
def segs (l : List Nat) : List Nat → List (List Nat)
  | [] => []
  | [a] => [l.drop a]
  | a :: b :: F => ((l.drop a).take (b - a)) :: segs l (b :: F)
theorem drop_cons {l : List Nat} {k x : Nat} (h : l[k]? = some x) : l.drop k = x :: l.drop (k + 1) := by
  have hlt := (List.getElem?_eq_some_iff.1 h).1
  have e := (List.getElem?_eq_some_iff.1 h).2
  rw [List.drop_eq_getElem_cons hlt, e]
theorem segs_first : ∀ {F : List Nat} {l : List Nat} {k x : Nat}, Rising F → k ∈ F → l[k]? = some x → ∃ r, x :: r ∈ segs l F
  | [a], l, k, x, _, hk, hx => by
    simp only [List.mem_singleton] at hk
    subst hk
    exact ⟨_, by rw [show segs l [k] = [l.drop k] from rfl, drop_cons hx]; exact .head _⟩
  | a :: b :: F, l, k, x, hr, hk, hx => by
    rcases List.mem_cons.1 hk with rfl | hk
    · have hab := hr.1
      refine ⟨(l.drop (k + 1)).take (b - k - 1), ?_⟩
      show _ ∈ ((l.drop k).take (b - k)) :: _
      rw [drop_cons hx, show b - k = (b - k - 1) + 1 by omega, List.take_succ_cons]
      exact .head _
    · obtain ⟨r, h⟩ := segs_first (rising_tail hr) hk hx
      exact ⟨r, .tail _ h⟩
theorem take_drop_split {l : List Nat} {a k b : Nat} (h1 : a ≤ k) (h2 : k ≤ b) : (l.drop a).take (b - a) = (l.drop a).take (k - a) ++ (l.drop k).take (b - k) := by
  rw [show b - a = (k - a) + (b - k) by omega, List.take_add, List.drop_drop, show a + (k - a) = k by omega]
theorem drop_split {l : List Nat} {a k : Nat} (h1 : a ≤ k) : l.drop a = (l.drop a).take (k - a) ++ l.drop k := by
  conv => lhs; rw [← List.take_append_drop (k - a) (l.drop a)]
  rw [List.drop_drop, show a + (k - a) = k by omega]
theorem seg_ne {l : List Nat} {a k : Nat} (h1 : a < k) (h2 : k ≤ l.length) : (l.drop a).take (k - a) ≠ [] := by
  intro h
  have := congrArg List.length h
  rw [List.length_take, List.length_drop, List.length_nil] at this
  omega
/-- Cut once more. -/
theorem segs_split : ∀ {F : List Nat} {l : List Nat} {k x : Nat}, Rising F → k ∉ F → (∃ a F', F = a :: F' ∧ a < k) → l[k]? = some x →
    ∃ (R : List (List Nat)) (p r : List Nat), (segs l F).Perm ((p ++ x :: r) :: R) ∧ p ≠ [] ∧ (segs l (insL F k)).Perm (p :: (x :: r) :: R)
  | [], l, k, x, _, _, ⟨_, _, h, _⟩, _ => by cases h
  | [a], l, k, x, _, hk, ⟨_, _, h, hak⟩, hx => by
    simp only [List.cons.injEq] at h
    obtain ⟨rfl, rfl⟩ := h
    have hlt := (List.getElem?_eq_some_iff.1 hx).1
    refine ⟨[], (l.drop a).take (k - a), l.drop (k + 1), ?_, seg_ne hak (by omega), ?_⟩
    · show [l.drop a].Perm _
      rw [← drop_cons hx, ← drop_split (by omega)]
    · have : insL [a] k = [a, k] := by
        unfold insL
        rw [if_neg (by omega), if_neg (by omega)]
        rfl
      rw [this, ← drop_cons hx]
      exact .refl _
  | a :: b :: F, l, k, x, hr, hk, ⟨_, _, h, hak⟩, hx => by
    simp only [List.cons.injEq] at h
    obtain ⟨rfl, rfl⟩ := h
    have hlt := (List.getElem?_eq_some_iff.1 hx).1
    simp only [List.mem_cons, not_or] at hk
    have hins : insL (a :: b :: F) k = a :: insL (b :: F) k := by
      rw [show insL (a :: b :: F) k = (if k < a then k :: a :: b :: F else if a = k then a :: b :: F else a :: insL (b :: F) k) from rfl, if_neg (by omega), if_neg (by omega)]
    rw [hins]
    by_cases hkb : k < b
    · have hib : insL (b :: F) k = k :: b :: F := by
        rw [show insL (b :: F) k = (if k < b then k :: b :: F else if b = k then b :: F else b :: insL F k) from rfl, if_pos hkb]
      rw [hib]
      refine ⟨segs l (b :: F), (l.drop a).take (k - a), (l.drop (k + 1)).take (b - k - 1), ?_, seg_ne hak (by omega), ?_⟩
      · show (((l.drop a).take (b - a)) :: segs l (b :: F)).Perm _
        rw [take_drop_split (l := l) (show a ≤ k by omega) (show k ≤ b by omega), drop_cons hx, show b - k = (b - k - 1) + 1 by omega, List.take_succ_cons]
        exact .refl _
      · show (((l.drop a).take (k - a)) :: ((l.drop k).take (b - k)) :: segs l (b :: F)).Perm _
        rw [drop_cons hx, show b - k = (b - k - 1) + 1 by omega, List.take_succ_cons]
        exact .refl _
    · obtain ⟨R, p, r, h1, h2, h3⟩ := segs_split (rising_tail hr) (by simp only [List.mem_cons, not_or]; exact hk.2) ⟨b, F, rfl, by omega⟩ hx
      obtain ⟨G, hG⟩ : ∃ G, insL (b :: F) k = b :: G := by
        rw [show insL (b :: F) k = (if k < b then k :: b :: F else if b = k then b :: F else b :: insL F k) from rfl, if_neg hkb]
        split
        · exact ⟨_, rfl⟩
        · exact ⟨_, rfl⟩
      rw [hG] at h3 ⊢
      refine ⟨((l.drop a).take (b - a)) :: R, p, r, ?_, h2, ?_⟩
      · show (((l.drop a).take (b - a)) :: segs l (b :: F)).Perm _
        exact (List.Perm.cons _ h1).trans (List.Perm.swap _ _ _)
      · show (((l.drop a).take (b - a)) :: segs l (b :: G)).Perm _
        exact (List.Perm.cons _ h3).trans ((List.Perm.swap _ _ _).trans (List.Perm.cons _ (List.Perm.swap _ _ _)))
theorem segs_get : ∀ {F : List Nat} {l : List Nat} {i a : Nat}, F[i]? = some a → (segs l F)[i]? = some (match F[i + 1]? with | some b => (l.drop a).take (b - a) | none => l.drop a)
  | [x], l, 0, a, h => by
    obtain rfl := Option.some.inj h
    rfl
  | [x], l, i + 1, a, h => by cases h
  | x :: y :: F, l, 0, a, h => by
    obtain rfl := Option.some.inj h
    rfl
  | x :: y :: F, l, i + 1, a, h => by
    have := segs_get (F := y :: F) (l := l) (i := i) (a := a) (by simpa using h)
    show (segs l (y :: F))[i]? = _
    rw [this]
    rfl
end Go.Sp
