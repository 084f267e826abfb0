/-
  Rows of structs of so many cells each, in a block of their own: read, parted, appended to.
-/
import Derived.Test.YtafehbegoanajaaHpX
namespace Go.Hp
open Go
set_option linter.unusedVariables false
variable {α : Type} {C : α → List Value} {k : Nat}
/-- The slice v holds the structs xs, k cells each, in a row of its own: block B; nil: none. -/
def SR (C : α → List Value) (k : Nat) (H : Heap) (B : Option Nat) (v : Value) (xs : List α) : Prop := Own H B v k xs.length (xs.flatMap C)
theorem srf_len (hC : ∀ x, (C x).length = k) (xs : List α) : (xs.flatMap C).length = xs.length * k := by
  induction xs with
  | nil => simp
  | cons x xs ih => rw [List.flatMap_cons, List.length_append, ih, hC, List.length_cons, Nat.add_mul]; omega
theorem srf_drop (hC : ∀ x, (C x).length = k) : ∀ (xs : List α) (o : Nat), (xs.flatMap C).drop (o * k) = (xs.drop o).flatMap C
  | xs, 0 => by simp
  | [], o + 1 => by simp
  | x :: xs, o + 1 => by
    rw [List.flatMap_cons, List.drop_succ_cons, ← srf_drop hC xs o, Nat.add_mul, Nat.one_mul, List.drop_append, hC, List.drop_of_length_le (by rw [hC]; omega), List.nil_append]
    congr 1; omega
theorem srf_take (hC : ∀ x, (C x).length = k) : ∀ (xs : List α) (o : Nat), (xs.flatMap C).take (o * k) = (xs.take o).flatMap C
  | xs, 0 => by simp
  | [], o + 1 => by simp
  | x :: xs, o + 1 => by
    rw [List.flatMap_cons, List.take_succ_cons, List.flatMap_cons, ← srf_take hC xs o, Nat.add_mul, Nat.one_mul, List.take_append, hC, List.take_of_length_le (by rw [hC]; omega)]
    congr 2; omega
theorem srf_get (hC : ∀ x, (C x).length = k) {xs : List α} {i : Nat} {x : α} (hi : xs[i]? = some x) {j : Nat} (hj : j < k) : (xs.flatMap C)[i * k + j]? = (C x)[j]? := by
  have h1 : (xs.flatMap C)[i * k + j]? = ((xs.flatMap C).drop (i * k))[j]? := by rw [List.getElem?_drop]
  have hlt := (List.getElem?_eq_some_iff.1 hi).1
  have hx := (List.getElem?_eq_some_iff.1 hi).2
  rw [h1, srf_drop hC, List.drop_eq_getElem_cons hlt, hx, List.flatMap_cons, List.getElem?_append_left (by rw [hC]; exact hj)]
section
variable {H H' : Heap} {B : Option Nat} {v : Value} {xs : List α}
theorem SR.nil (C : α → List Value) (k : Nat) (H : Heap) : SR C k H none (.slice none 0 0) [] := ⟨by simp, .inl ⟨rfl, rfl, rfl⟩⟩
theorem SR.frame {S : Nat → Prop} (h : SR C k H B v xs) (hf : Fr S H H') (hb : ∀ g, B = some g → ¬ S g) : SR C k H' B v xs := Own.frame h hf hb
theorem SR.lt (h : SR C k H B v xs) {g : Nat} (hg : B = some g) : g < H.size := by
  obtain ⟨_, h | ⟨g', c, rest, h1, h2, h3, h4, h5⟩⟩ := h
  · rw [h.1] at hg; cases hg
  · rw [h1] at hg
    obtain rfl := Option.some.inj hg
    exact h3.lt
theorem SR.slice (h : SR C k H B v xs) : ∃ a c, v = .slice a xs.length c := by
  obtain ⟨_, h | ⟨g', c, rest, h1, h2, h3, h4, h5⟩⟩ := h
  · obtain ⟨_, h2, h3⟩ := h
    exact ⟨none, 0, by rw [h2, h3]⟩
  · exact ⟨_, _, h2⟩
theorem SR.open (h : SR C k H B v xs) (hx : xs ≠ []) : ∃ g c, B = some g ∧ v = .slice (some ⟨g, 0, none⟩) xs.length c ∧ xs.length ≤ c := by
  obtain ⟨_, h | ⟨g, c, rest, h1, h2, h3, h4, h5⟩⟩ := h
  · exact absurd (List.length_eq_zero_iff.1 h.2.2) hx
  · exact ⟨g, c, h1, h2, h5⟩
theorem SR.cell {g n c : Nat} (hC : ∀ x, (C x).length = k) (h : SR C k H (some g) (.slice (some ⟨g, 0, none⟩) n c) xs) {i : Nat} {x : α} (hi : xs[i]? = some x) {j : Nat} {u : Value} (hj : (C x)[j]? = some u) : hcell H ⟨g, i * k + j, none⟩ = some u := by
  obtain ⟨_, h | ⟨g', c', rest, h1, h2, h3, h4, h5⟩⟩ := h
  · cases h.1
  · obtain rfl := Option.some.inj h1
    have hjk : j < k := by have := (List.getElem?_eq_some_iff.1 hj).1; rw [hC] at this; exact this
    have hlt := (List.getElem?_eq_some_iff.1 hi).1
    refine h3.cellOf ?_
    rw [List.getElem?_append_left, srf_get hC hi hjk, hj]
    rw [srf_len hC]
    have : (i + 1) * k ≤ xs.length * k := Nat.mul_le_mul_right _ hlt
    rw [Nat.add_mul, Nat.one_mul] at this
    omega
theorem SR.at (hC : ∀ x, (C x).length = k) (h : SR C k H B v xs) {i : Nat} {x : α} (hi : xs[i]? = some x) :
    ∃ g c, B = some g ∧ v = .slice (some ⟨g, 0, none⟩) xs.length c ∧ xs.length ≤ c ∧ ∀ j u, (C x)[j]? = some u → hcell H ⟨g, i * k + j, none⟩ = some u := by
  obtain ⟨g, c, rfl, rfl, hc⟩ := h.open (by intro e; rw [e] at hi; cases hi)
  exact ⟨g, c, rfl, rfl, hc, fun j u hj => h.cell hC hi hj⟩
theorem SR.readL {g n c : Nat} (hC : ∀ x, (C x).length = k) (h : SR C k H (some g) (.slice (some ⟨g, 0, none⟩) n c) xs) {o m : Nat} (hm : o + m ≤ xs.length) : readL H ⟨g, o * k, none⟩ 0 (m * k) = some (((xs.drop o).take m).flatMap C) := by
  obtain ⟨hl, h | ⟨g', c', rest, h1, h2, h3, h4, h5⟩⟩ := h
  · cases h.1
  · obtain rfl := Option.some.inj h1
    have hle : (o + m) * k ≤ xs.length * k := Nat.mul_le_mul_right _ hm
    rw [Nat.add_mul] at hle
    rw [readL_blk h3 (m * k) (o * k) 0 (by rw [List.length_append, srf_len hC]; omega), Nat.add_zero, List.drop_append_of_le_length (by rw [srf_len hC]; omega), srf_drop hC, List.take_append_of_le_length (by rw [srf_len hC, List.length_drop, Nat.sub_mul]; omega), srf_take hC]
/-- append(xs, x) -/
theorem append_sr {P : Program} {t e : TypeId} {te : TL} {s : Value} {H H0 : Heap} {B : Option Nat} {d : Nat} {xs : List α} {x : α} {K : Value → Heap → Prop} (hC : ∀ x, (C x).length = k) (hp : ∀ x, ∀ u ∈ C x, plainVal u = true)
    (he : elems P t = some (none, e, k)) (ht : tl P e = some te) (h : SR C k H0 B s xs) (hH : H = H0.push (.cells (C x).toArray e)) (hb0 : 0 < te.bytes) (hb : 2 * (xs.length + 1) * te.bytes ≤ 2 ^ 48) (hz : te.zero.cells.size = k)
    (hk : ∀ v' H' B', SR C k H' B' v' (xs ++ [x]) → Fr (fun b => B = some b) H0 H' → (B' = B ∨ ∃ g, B' = some g ∧ H0.size ≤ g) → K v' H') : appendX P t s (.slice (some ⟨H0.size, 0, none⟩) 1 d) H K := by
  subst hH
  have hfr : Fr (fun _ => False) H0 (H0.push (.cells (C x).toArray e)) := (Fr.refl _ _).push _
  refine append_own he ht (Own.frame h hfr (fun _ _ h => h)) (m := 1) (new := C x) (.inl ⟨_, _, rfl, ?_⟩) (hp x) hb0 hb (by rw [hC, Nat.one_mul]) hz ?_
  · have := readL_blk (Blk.new H0 (C x) e) k 0 0 (by rw [hC]; omega)
    rw [Nat.one_mul, this, Nat.add_zero, List.drop_zero, List.take_of_length_le (by rw [hC]; omega)]
  intro v' H' B' ho' hf hB
  refine hk v' H' B' (by unfold SR; rw [List.flatMap_append, List.length_append]; simpa using ho') ((hfr.mono (S' := fun b => B = some b) fun b _ h => h.elim).trans hf) ?_
  rcases hB with h | ⟨g, h1, h2⟩
  · exact .inl h
  · refine .inr ⟨g, h1, ?_⟩
    simp at h2
    omega
/-- append(xs, part of a row..) -/
theorem append_srs {P : Program} {t e : TypeId} {te : TL} {s : Value} {H : Heap} {B : Option Nat} {b o m d : Nat} {xs ys : List α} {K : Value → Heap → Prop} (hC : ∀ x, (C x).length = k) (hp : ∀ x, ∀ u ∈ C x, plainVal u = true)
    (he : elems P t = some (none, e, k)) (ht : tl P e = some te) (h : SR C k H B s xs) (hy : Go.Hp.readL H ⟨b, o, none⟩ 0 (m * k) = some (ys.flatMap C)) (hm : ys.length = m) (hb0 : 0 < te.bytes) (hb : 2 * (xs.length + m) * te.bytes ≤ 2 ^ 48) (hz : te.zero.cells.size = k)
    (hk : ∀ v' H' B', SR C k H' B' v' (xs ++ ys) → Fr (fun b => B = some b) H H' → (B' = B ∨ ∃ g, B' = some g ∧ H.size ≤ g) → K v' H') : appendX P t s (.slice (some ⟨b, o, none⟩) m d) H K := by
  refine append_own he ht h (.inl ⟨_, _, rfl, hy⟩) (fun u hu => by obtain ⟨x, _, hx⟩ := List.mem_flatMap.1 hu; exact hp x u hx) hb0 hb (by rw [srf_len hC, hm]) hz ?_
  intro v' H' B' ho hf hB
  exact hk v' H' B' (by unfold SR; rw [List.flatMap_append, List.length_append, hm]; exact ho) hf hB
/-- append(xs, none..): nil, or an empty part -/
theorem append_sr0 {P : Program} {t e : TypeId} {te : TL} {s : Value} {H : Heap} {B : Option Nat} {xs : List α} {K : Value → Heap → Prop}
    (he : elems P t = some (none, e, k)) (ht : tl P e = some te) (h : SR C k H B s xs) (hb0 : 0 < te.bytes) (hb : 2 * xs.length * te.bytes ≤ 2 ^ 48) (hz : te.zero.cells.size = k)
    (hk : ∀ v' H' B', SR C k H' B' v' xs → Fr (fun b => B = some b) H H' → (B' = B ∨ ∃ g, B' = some g ∧ H.size ≤ g) → K v' H') : appendX P t s (.slice none 0 0) H K := by
  refine append_own he ht h (m := 0) (new := []) (.inr ⟨rfl, rfl, rfl⟩) (fun _ h => by cases h) hb0 (by simpa using hb) (by simp) hz ?_
  intro v' H' B' ho hf hB
  exact hk v' H' B' (by unfold SR; simpa using ho) hf hB
end
end Go.Hp
