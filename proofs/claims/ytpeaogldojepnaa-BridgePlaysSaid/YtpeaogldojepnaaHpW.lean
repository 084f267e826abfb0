/-
  Rows of bools of their own.
-/
import Derived.Test.YtpeaogldojepnaaHpT
namespace Go.Hp
open Go
set_option linter.unusedVariables false

def BR (H : Heap) (B : Option Nat) (v : Value) (xs : List Bool) : Prop := Own H B v 1 xs.length (xs.map Value.bool)
theorem BR.nil (H : Heap) : BR H none (.slice none 0 0) [] := ⟨rfl, .inl ⟨rfl, rfl, rfl⟩⟩
theorem BR.frame {S : Nat → Prop} {H H' : Heap} {B : Option Nat} {v : Value} {xs : List Bool} (h : BR H B v xs) (hf : Fr S H H') (hb : ∀ g, B = some g → ¬ S g) : BR H' B v xs := Own.frame h hf hb
theorem BR.lt {H : Heap} {B : Option Nat} {v : Value} {xs : List Bool} (h : BR H B v xs) {g : Nat} (hg : B = some g) : g < H.size := by
  obtain ⟨_, h | ⟨g', c, rest, h1, h2, h3, h4, h5⟩⟩ := h
  · rw [h.1] at hg; cases hg
  · rw [h1] at hg
    obtain rfl := Option.some.inj hg
    exact h3.lt
theorem BR.slice {H : Heap} {B : Option Nat} {v : Value} {xs : List Bool} (h : BR H B v xs) : ∃ a c, v = .slice a xs.length c := by
  obtain ⟨_, h | ⟨g', c, rest, h1, h2, h3, h4, h5⟩⟩ := h
  · obtain ⟨_, h2, h3⟩ := h
    exact ⟨none, 0, by rw [h2, h3]⟩
  · exact ⟨_, _, h2⟩
theorem BR.open {H : Heap} {B : Option Nat} {v : Value} {xs : List Bool} (h : BR H B v xs) (hx : xs ≠ []) : ∃ g c, B = some g ∧ v = .slice (some ⟨g, 0, none⟩) xs.length c ∧ xs.length ≤ c := by
  obtain ⟨_, h | ⟨g, c, rest, h1, h2, h3, h4, h5⟩⟩ := h
  · exact absurd (List.length_eq_zero_iff.1 h.2.2) hx
  · exact ⟨g, c, h1, h2, h5⟩
theorem BR.cell {H : Heap} {g n c : Nat} {xs : List Bool} (h : BR H (some g) (.slice (some ⟨g, 0, none⟩) n c) xs) {i : Nat} {x : Bool} (hi : xs[i]? = some x) : hcell H ⟨g, i, none⟩ = some (.bool x) := by
  obtain ⟨_, h | ⟨g', c', rest, h1, h2, h3, h4, h5⟩⟩ := h
  · cases h.1
  · obtain rfl := Option.some.inj h1
    refine h3.cellOf ?_
    have hlt := (List.getElem?_eq_some_iff.1 hi).1
    rw [List.getElem?_append_left (by simpa using hlt), List.getElem?_map, hi]
    rfl
theorem BR.write {H : Heap} {g n c : Nat} {xs : List Bool} (h : BR H (some g) (.slice (some ⟨g, 0, none⟩) n c) xs) {i : Nat} (hi : i < xs.length) (y : Bool) :
    okW H ⟨g, i, none⟩ ∧ BR (hset H ⟨g, i, none⟩ (.bool y)) (some g) (.slice (some ⟨g, 0, none⟩) n c) (xs.set i y) := by
  obtain ⟨_, h | ⟨g', c', rest, h1, h2, h3, h4, h5⟩⟩ := h
  · cases h.1
  · obtain rfl := Option.some.inj h1
    simp only [Value.slice.injEq] at h2
    obtain ⟨_, rfl, rfl⟩ := h2
    refine ⟨h3.okW (by simp; omega), by simp, .inr ⟨g, c, rest, rfl, by simp, ?_, by simpa using h4, by simpa using h5⟩⟩
    have := h3.set_same i (.bool y)
    rw [List.set_append_left _ _ (by simpa using hi)] at this
    rw [List.map_set]
    exact this
theorem append_br {P : Program} {t e : TypeId} {te : TL} {s : Value} {H H0 : Heap} {B : Option Nat} {d : Nat} {xs : List Bool} {x : Bool} {K : Value → Heap → Prop}
    (he : elems P t = some (none, e, 1)) (ht : tl P e = some te) (h : BR H0 B s xs) (hH : H = H0.push (.cells #[.bool x] e)) (hb0 : 0 < te.bytes) (hb : 2 * (xs.length + 1) * te.bytes ≤ 2 ^ 48) (hz : te.zero.cells.size = 1)
    (hk : ∀ v' H' B', BR H' B' v' (xs ++ [x]) → Fr (fun b => B = some b) H0 H' → (B' = B ∨ ∃ g, B' = some g ∧ H0.size ≤ g) → K v' H') : appendX P t s (.slice (some ⟨H0.size, 0, none⟩) 1 d) H K := by
  subst hH
  have hfr : Fr (fun _ => False) H0 (H0.push (.cells #[.bool x] e)) := (Fr.refl _ _).push _
  refine append_own he ht (Own.frame h hfr (fun _ _ h => h)) (.inl ⟨_, _, rfl, readL_blk (Blk.new H0 [.bool x] e) 1 0 0 (by simp)⟩) (by simp [plainVal]) hb0 hb rfl hz ?_
  intro v' H' B' ho' hf hB
  refine hk v' H' B' (by unfold BR; simpa using ho') ((hfr.mono (S' := fun b => B = some b) fun b _ h => h.elim).trans hf) ?_
  rcases hB with h | ⟨g, h1, h2⟩
  · exact .inl h
  · refine .inr ⟨g, h1, ?_⟩
    simp at h2
    omega
theorem BR.one (H : Heap) (x : Bool) (T : TypeId) : BR (H.push (.cells #[.bool x] T)) (some H.size) (.slice (some ⟨H.size, 0, none⟩) 1 1) [x] :=
  ⟨rfl, .inr ⟨H.size, 1, [], rfl, rfl, Blk.new H [.bool x] T, rfl, Nat.le_refl _⟩⟩
end Go.Hp
