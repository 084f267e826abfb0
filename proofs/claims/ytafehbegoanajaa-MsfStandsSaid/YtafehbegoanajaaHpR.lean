/-
  Rows of ints of their own: reading, writing, appending; which block they lie in.
-/
import Derived.Test.YtafehbegoanajaaHpM
namespace Go.Hp
open Go
set_option linter.unusedVariables false

/-- The slice v holds the ints xs in a row of its own: block B; nil: none. -/
def IR (H : Heap) (B : Option Nat) (v : Value) (xs : List Int) : Prop := Own H B v 1 xs.length (xs.map (Value.int .i64))
theorem IR.nil (H : Heap) : IR H none (.slice none 0 0) [] := ⟨rfl, .inl ⟨rfl, rfl, rfl⟩⟩
theorem IR.frame {S : Nat → Prop} {H H' : Heap} {B : Option Nat} {v : Value} {xs : List Int} (h : IR H B v xs) (hf : Fr S H H') (hb : ∀ g, B = some g → ¬ S g) : IR H' B v xs := Own.frame h hf hb
theorem IR.lt {H : Heap} {B : Option Nat} {v : Value} {xs : List Int} (h : IR H B v xs) {g : Nat} (hg : B = some g) : g < H.size := by
  obtain ⟨_, h | ⟨g', c, rest, h1, h2, h3, h4, h5⟩⟩ := h
  · rw [h.1] at hg; cases hg
  · rw [h1] at hg
    obtain rfl := Option.some.inj hg
    exact h3.lt
theorem IR.slice {H : Heap} {B : Option Nat} {v : Value} {xs : List Int} (h : IR H B v xs) : ∃ a c, v = .slice a xs.length c := by
  obtain ⟨_, h | ⟨g', c, rest, h1, h2, h3, h4, h5⟩⟩ := h
  · obtain ⟨_, h2, h3⟩ := h
    exact ⟨none, 0, by rw [h2, h3]⟩
  · exact ⟨_, _, h2⟩
theorem IR.row {H : Heap} {B : Option Nat} {v : Value} {xs : List Int} (h : IR H B v xs) (hx : xs ≠ []) :
    ∃ g c rest, B = some g ∧ v = .slice (some ⟨g, 0, none⟩) xs.length c ∧ Blk H g (xs.map (Value.int .i64) ++ rest) ∧ xs.length + rest.length = c ∧ xs.length ≤ c := by
  obtain ⟨_, h | ⟨g, c, rest, h1, h2, h3, h4, h5⟩⟩ := h
  · exact absurd (List.length_eq_zero_iff.1 h.2.2) hx
  · exact ⟨g, c, rest, h1, h2, h3, by simpa using h4, h5⟩
theorem IR.read {H : Heap} {B : Option Nat} {v : Value} {xs : List Int} (h : IR H B v xs) {i : Nat} {x : Int} (hi : xs[i]? = some x) :
    ∃ g c, B = some g ∧ v = .slice (some ⟨g, 0, none⟩) xs.length c ∧ hcell H ⟨g, i, none⟩ = some (.int .i64 x) := by
  obtain ⟨g, c, rest, h1, h2, h3, _, _⟩ := h.row (by intro e; rw [e] at hi; cases hi)
  refine ⟨g, c, h1, h2, h3.cellOf ?_⟩
  have hlt := (List.getElem?_eq_some_iff.1 hi).1
  rw [List.getElem?_append_left (by simpa using hlt), List.getElem?_map, hi]
  rfl
theorem IR.cell {H : Heap} {g n c : Nat} {xs : List Int} (h : IR H (some g) (.slice (some ⟨g, 0, none⟩) n c) xs) {i : Nat} {x : Int} (hi : xs[i]? = some x) : hcell H ⟨g, i, none⟩ = some (.int .i64 x) := by
  obtain ⟨g', c', h1, _, h2⟩ := h.read hi
  obtain rfl := Option.some.inj h1
  exact h2
theorem IR.write {H : Heap} {g n c : Nat} {xs : List Int} (h : IR H (some g) (.slice (some ⟨g, 0, none⟩) n c) xs) {i : Nat} (hi : i < xs.length) (y : Int) :
    okW H ⟨g, i, none⟩ ∧ IR (hset H ⟨g, i, none⟩ (.int .i64 y)) (some g) (.slice (some ⟨g, 0, none⟩) n c) (xs.set i y) := by
  obtain ⟨_, h | ⟨g', c', rest, h1, h2, h3, h4, h5⟩⟩ := h
  · cases h.1
  · obtain rfl := Option.some.inj h1
    simp only [Value.slice.injEq] at h2
    obtain ⟨_, rfl, rfl⟩ := h2
    refine ⟨h3.okW (by simp; omega), by simp, .inr ⟨g, c, rest, rfl, by simp, ?_, by simpa using h4, by simpa using h5⟩⟩
    have := h3.set_same i (.int .i64 y)
    rw [List.set_append_left _ _ (by simpa using hi)] at this
    rw [List.map_set]
    exact this
/-- append(xs, x) -/
theorem append_ir {P : Program} {t e : TypeId} {te : TL} {s : Value} {H H0 : Heap} {B : Option Nat} {d : Nat} {xs : List Int} {x : Int} {K : Value → Heap → Prop}
    (he : elems P t = some (none, e, 1)) (ht : tl P e = some te) (h : IR H0 B s xs) (hH : H = H0.push (.cells #[.int .i64 x] e)) (hb0 : 0 < te.bytes) (hb : 2 * (xs.length + 1) * te.bytes ≤ 2 ^ 48) (hz : te.zero.cells.size = 1)
    (hk : ∀ v' H' B', IR H' B' v' (xs ++ [x]) → Fr (fun b => B = some b) H0 H' → (B' = B ∨ ∃ g, B' = some g ∧ H0.size ≤ g) → K v' H') : appendX P t s (.slice (some ⟨H0.size, 0, none⟩) 1 d) H K := by
  subst hH
  have hfr : Fr (fun _ => False) H0 (H0.push (.cells #[.int .i64 x] e)) := (Fr.refl _ _).push _
  refine append_own he ht (Own.frame h hfr (fun _ _ h => h)) (.inl ⟨_, _, rfl, readL_blk (Blk.new H0 [.int .i64 x] e) 1 0 0 (by simp)⟩) (by simp [plainVal]) hb0 hb rfl hz ?_
  intro v' H' B' ho' hf hB
  refine hk v' H' B' (by unfold IR; simpa using ho') ((hfr.mono (S' := fun b => B = some b) fun b _ h => h.elim).trans hf) ?_
  rcases hB with h | ⟨g, h1, h2⟩
  · exact .inl h
  · refine .inr ⟨g, h1, ?_⟩
    simp at h2
    omega
end Go.Hp
