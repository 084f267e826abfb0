/-
  Rows of things of one kind that lie in a block of their own; rows of such rows.
-/
import Derived.Test.YtafehbegoanajaaHpV
namespace Go.Hp
open Go
set_option linter.unusedVariables false
variable {α : Type} {C : α → Value}

/-- The slice v holds the things xs, each as C says, in a row of its own: block B; nil: none. -/
def OR (C : α → Value) (H : Heap) (B : Option Nat) (v : Value) (xs : List α) : Prop := Own H B v 1 xs.length (xs.map C)
theorem OR.nil (C : α → Value) (H : Heap) : OR C H none (.slice none 0 0) [] := ⟨rfl, .inl ⟨rfl, rfl, rfl⟩⟩
theorem OR.frame {S : Nat → Prop} {H H' : Heap} {B : Option Nat} {v : Value} {xs : List α} (h : OR C H B v xs) (hf : Fr S H H') (hb : ∀ g, B = some g → ¬ S g) : OR C H' B v xs := Own.frame h hf hb
theorem OR.lt {H : Heap} {B : Option Nat} {v : Value} {xs : List α} (h : OR C H B v xs) {g : Nat} (hg : B = some g) : g < H.size := by
  obtain ⟨_, h | ⟨g', c, rest, h1, h2, h3, h4, h5⟩⟩ := h
  · rw [h.1] at hg; cases hg
  · rw [h1] at hg
    obtain rfl := Option.some.inj hg
    exact h3.lt
theorem OR.slice {H : Heap} {B : Option Nat} {v : Value} {xs : List α} (h : OR C H B v xs) : ∃ a c, v = .slice a xs.length c := by
  obtain ⟨_, h | ⟨g', c, rest, h1, h2, h3, h4, h5⟩⟩ := h
  · obtain ⟨_, h2, h3⟩ := h
    exact ⟨none, 0, by rw [h2, h3]⟩
  · exact ⟨_, _, h2⟩
theorem OR.open {H : Heap} {B : Option Nat} {v : Value} {xs : List α} (h : OR C H B v xs) (hx : xs ≠ []) : ∃ g c, B = some g ∧ v = .slice (some ⟨g, 0, none⟩) xs.length c ∧ xs.length ≤ c := by
  obtain ⟨_, h | ⟨g, c, rest, h1, h2, h3, h4, h5⟩⟩ := h
  · exact absurd (List.length_eq_zero_iff.1 h.2.2) hx
  · exact ⟨g, c, h1, h2, h5⟩
theorem OR.cell {H : Heap} {g n c : Nat} {xs : List α} (h : OR C H (some g) (.slice (some ⟨g, 0, none⟩) n c) xs) {i : Nat} {x : α} (hi : xs[i]? = some x) : hcell H ⟨g, i, none⟩ = some (C x) := by
  obtain ⟨_, h | ⟨g', c', rest, h1, h2, h3, h4, h5⟩⟩ := h
  · cases h.1
  · obtain rfl := Option.some.inj h1
    refine h3.cellOf ?_
    have hlt := (List.getElem?_eq_some_iff.1 hi).1
    rw [List.getElem?_append_left (by simpa using hlt), List.getElem?_map, hi]
    rfl
theorem OR.at {H : Heap} {B : Option Nat} {v : Value} {xs : List α} (h : OR C H B v xs) {i : Nat} {x : α} (hi : xs[i]? = some x) :
    ∃ g c, B = some g ∧ v = .slice (some ⟨g, 0, none⟩) xs.length c ∧ hcell H ⟨g, i, none⟩ = some (C x) := by
  obtain ⟨g, c, rfl, rfl, _⟩ := h.open (by intro e; rw [e] at hi; cases hi)
  exact ⟨g, c, rfl, rfl, h.cell hi⟩
theorem OR.write {H : Heap} {g n c : Nat} {xs : List α} (h : OR C H (some g) (.slice (some ⟨g, 0, none⟩) n c) xs) {i : Nat} (hi : i < xs.length) (y : α) :
    okW H ⟨g, i, none⟩ ∧ OR C (hset H ⟨g, i, none⟩ (C y)) (some g) (.slice (some ⟨g, 0, none⟩) n c) (xs.set i y) := by
  obtain ⟨_, h | ⟨g', c', rest, h1, h2, h3, h4, h5⟩⟩ := h
  · cases h.1
  · obtain rfl := Option.some.inj h1
    simp only [Value.slice.injEq] at h2
    obtain ⟨_, rfl, rfl⟩ := h2
    refine ⟨h3.okW (by simp; omega), by simp, .inr ⟨g, c, rest, rfl, by simp, ?_, by simpa using h4, by simpa using h5⟩⟩
    have := h3.set_same i (C y)
    rw [List.set_append_left _ _ (by simpa using hi)] at this
    rw [List.map_set]
    exact this
theorem append_or {P : Program} {t e : TypeId} {te : TL} {s : Value} {H H0 : Heap} {B : Option Nat} {d : Nat} {xs : List α} {x : α} {K : Value → Heap → Prop}
    (he : elems P t = some (none, e, 1)) (ht : tl P e = some te) (h : OR C H0 B s xs) (hH : H = H0.push (.cells #[C x] e)) (hp : plainVal (C x) = true) (hb0 : 0 < te.bytes) (hb : 2 * (xs.length + 1) * te.bytes ≤ 2 ^ 48) (hz : te.zero.cells.size = 1)
    (hk : ∀ v' H' B', OR C H' B' v' (xs ++ [x]) → Fr (fun b => B = some b) H0 H' → (B' = B ∨ ∃ g, B' = some g ∧ H0.size ≤ g) → K v' H') : appendX P t s (.slice (some ⟨H0.size, 0, none⟩) 1 d) H K := by
  subst hH
  have hfr : Fr (fun _ => False) H0 (H0.push (.cells #[C x] e)) := (Fr.refl _ _).push _
  refine append_own he ht (Own.frame h hfr (fun _ _ h => h)) (.inl ⟨_, _, rfl, readL_blk (Blk.new H0 [C x] e) 1 0 0 (by simp)⟩) (by simpa using hp) hb0 hb rfl hz ?_
  intro v' H' B' ho' hf hB
  refine hk v' H' B' (by unfold OR; simpa using ho') ((hfr.mono (S' := fun b => B = some b) fun b _ h => h.elim).trans hf) ?_
  rcases hB with h | ⟨g, h1, h2⟩
  · exact .inl h
  · refine .inr ⟨g, h1, ?_⟩
    simp at h2
    omega

/-! ### rows of rows -/
/-- The slice va holds slices; each of them holds a list of L in a block of its own; all of them lie within T. -/
def LL (C : α → Value) (H : Heap) (T : Nat → Prop) (va : Value) (L : List (List α)) : Prop :=
  ∃ (Ba : Option Nat) (es : List (Option Nat × Value)), es.length = L.length ∧ OR Prod.snd H Ba va es ∧
    (∀ (i : Nat) e xs, es[i]? = some e → L[i]? = some xs → OR C H e.1 e.2 xs) ∧
    (∀ (i j : Nat) (e e' : Option Nat × Value) (g : Nat), es[i]? = some e → es[j]? = some e' → e.1 = some g → e'.1 = some g → i = j) ∧
    (∀ (i : Nat) (e : Option Nat × Value) (g : Nat), es[i]? = some e → e.1 = some g → Ba ≠ some g ∧ T g) ∧
    (∀ g, Ba = some g → T g) ∧ ∀ b, T b → b < H.size
variable {H : Heap} {T : Nat → Prop} {va : Value} {L : List (List α)}
theorem LL.nil (C : α → Value) (H : Heap) : LL C H (fun _ => False) (.slice none 0 0) [] :=
  ⟨none, [], rfl, OR.nil _ _, fun i e xs h => (by cases h), fun i j e e' g h => (by cases h), fun i e g h => (by cases h), fun g h => (by cases h), fun _ h => h.elim⟩
theorem LL.frame {S : Nat → Prop} {H' : Heap} (h : LL C H T va L) (hf : Fr S H H') (hS : ∀ b, T b → ¬ S b) : LL C H' T va L := by
  obtain ⟨Ba, es, h1, h2, h3, h4, h5, h6, h7⟩ := h
  exact ⟨Ba, es, h1, h2.frame hf fun g hg => hS g (h6 g hg), fun i e xs he hx => (h3 i e xs he hx).frame hf fun g hg => hS g (h5 i e g he hg).2, h4, h5, h6, fun b hb => Nat.lt_of_lt_of_le (h7 b hb) hf.size⟩
theorem LL.lt (h : LL C H T va L) {b : Nat} (hb : T b) : b < H.size := by
  obtain ⟨Ba, es, h1, h2, h3, h4, h5, h6, h7⟩ := h
  exact h7 b hb
theorem LL.slice (h : LL C H T va L) : ∃ a c, va = .slice a L.length c := by
  obtain ⟨Ba, es, h1, h2, _⟩ := h
  obtain ⟨a, c, h⟩ := h2.slice
  exact ⟨a, c, by rw [h, h1]⟩
/-- What it takes to look at the i-th list, to write into it, to put another one in its place. -/
theorem LL.at {i : Nat} {xs : List α} (h : LL C H T va L) (hi : L[i]? = some xs) :
    ∃ g c B v, va = .slice (some ⟨g, 0, none⟩) L.length c ∧ hcell H ⟨g, i, none⟩ = some v ∧ OR C H B v xs ∧ T g ∧ (∀ b, B = some b → T b ∧ b ≠ g) ∧
      (∀ k y, k < xs.length → ∃ b n, B = some b ∧ v = .slice (some ⟨b, 0, none⟩) xs.length n ∧ okW H ⟨b, k, none⟩ ∧ LL C (hset H ⟨b, k, none⟩ (C y)) T va (L.set i (xs.set k y))) ∧
      (∀ H' B' v' ys, OR C H' B' v' ys → Fr (fun b => B = some b) H H' → (B' = B ∨ ∃ g', B' = some g' ∧ H.size ≤ g') →
        okW H' ⟨g, i, none⟩ ∧ LL C (hset H' ⟨g, i, none⟩ v') (fun b => T b ∨ B' = some b) va (L.set i ys)) := by
  obtain ⟨Ba, es, h1, h2, h3, h4, h5, h6, h7⟩ := h
  have hlt : i < L.length := (List.getElem?_eq_some_iff.1 hi).1
  obtain ⟨⟨B, v⟩, he⟩ : ∃ e, es[i]? = some e := ⟨_, List.getElem?_eq_getElem (by omega)⟩
  obtain ⟨g, c, rfl, rfl, hc⟩ := h2.at he
  have ho := h3 i _ xs he hi
  simp only at ho
  have hsl : ∀ (j : Nat) (ys zs : List α), (L.set i ys)[j]? = some zs → (j = i ∧ zs = ys) ∨ (j ≠ i ∧ L[j]? = some zs) := by
    intro j ys zs hj
    rw [List.getElem?_set] at hj
    by_cases hji : i = j
    · rw [if_pos hji, if_pos hlt] at hj
      exact .inl ⟨hji.symm, (Option.some.inj hj).symm⟩
    · rw [if_neg hji] at hj
      exact .inr ⟨fun e => hji e.symm, hj⟩
  refine ⟨g, c, B, v, by rw [h1], hc, ho, h6 g rfl, fun b hb => ⟨(h5 i _ b he hb).2, fun e => (h5 i _ b he hb).1 (by rw [e])⟩, fun k y hk => ?_, fun H' B' v' ys hv hf hB => ?_⟩
  · obtain ⟨b, n, rfl, rfl, _⟩ := ho.open (by intro e; rw [e] at hk; simp at hk)
    obtain ⟨w, ho'⟩ := ho.write hk y
    have hfr : Fr (· = b) H (hset H ⟨b, k, none⟩ (C y)) := Fr.set (S := (· = b)) (a := ⟨b, k, none⟩) (Fr.refl _ H) (.inl rfl) _
    refine ⟨b, n, rfl, rfl, w, some g, es, by simpa using h1, h2.frame hfr (fun g' hg' (e : g' = b) => (h5 i _ b he rfl).1 (by rw [hg', e])), fun j e zs hj hz => ?_, h4, h5, h6, fun b' hb' => by rw [hset_size]; exact h7 b' hb'⟩
    rcases hsl j _ zs hz with ⟨rfl, rfl⟩ | ⟨hne, hz'⟩
    · rw [he] at hj
      obtain rfl := Option.some.inj hj
      exact ho'
    · exact (h3 j e zs hj hz').frame hfr fun g' hg' (e' : g' = b) => hne (h4 j i e _ g' hj he hg' (by rw [e']))
  · have hBg : B ≠ some g := fun e => (h5 i _ g he e).1 rfl
    have h2' := h2.frame hf (fun g' hg' e => hBg (by rw [e, ← hg']))
    obtain ⟨w, h2''⟩ := h2'.write (i := i) (by omega) (B', v')
    have hfr : Fr (· = g) H' (hset H' ⟨g, i, none⟩ v') := Fr.set (S := (· = g)) (a := ⟨g, i, none⟩) (Fr.refl _ H') (.inl rfl) _
    have hg := h7 g (h6 g rfl)
    have hB'g : ∀ b, B' = some b → b ≠ g ∧ (T b → B = some b) := fun b hb => by
      rcases hB with rfl | ⟨g', rfl, hg'⟩
      · exact ⟨fun e => hBg (by rw [hb, e]), fun _ => hb⟩
      · obtain rfl := Option.some.inj hb
        exact ⟨by omega, fun hT => by have := h7 _ hT; omega⟩
    have hes : ∀ (j : Nat) (e : Option Nat × Value), (es.set i (B', v'))[j]? = some e → (j = i ∧ e = (B', v')) ∨ (j ≠ i ∧ es[j]? = some e) := by
      intro j e hj
      rw [List.getElem?_set] at hj
      by_cases hji : i = j
      · rw [if_pos hji, if_pos (by omega)] at hj
        exact .inl ⟨hji.symm, (Option.some.inj hj).symm⟩
      · rw [if_neg hji] at hj
        exact .inr ⟨fun e => hji e.symm, hj⟩
    refine ⟨w, some g, es.set i (B', v'), by simpa using h1, h2'', fun j e zs hj hz => ?_, ?_, ?_, fun g' hg' => .inl (h6 g' hg'), fun b hb => ?_⟩
    · rcases hes j e hj with ⟨rfl, rfl⟩ | ⟨hne, hj'⟩
      · rcases hsl j _ zs hz with ⟨_, rfl⟩ | ⟨hne, _⟩
        · exact hv.frame hfr fun b hb e => (hB'g b hb).1 e
        · exact absurd rfl hne
      · rcases hsl j _ zs hz with ⟨rfl, _⟩ | ⟨_, hz'⟩
        · exact absurd rfl hne
        · refine ((h3 j e zs hj' hz').frame hf fun g' hg' e' => hne (h4 j i e _ g' hj' he hg' e')).frame hfr fun g' hg' (e' : g' = g) => (h5 j e g' hj' hg').1 (by rw [e'])
    · intro j k e e' g' hj hk hg1 hg2
      rcases hes j e hj with ⟨rfl, rfl⟩ | ⟨hne, hj'⟩
      · rcases hes k e' hk with ⟨rfl, rfl⟩ | ⟨hne', hk'⟩
        · rfl
        · exact (h4 k j e' _ g' hk' he hg2 ((hB'g g' hg1).2 (h5 k e' g' hk' hg2).2)).symm
      · rcases hes k e' hk with ⟨rfl, rfl⟩ | ⟨hne', hk'⟩
        · exact h4 j k e _ g' hj' he hg1 ((hB'g g' hg2).2 (h5 j e g' hj' hg1).2)
        · exact h4 j k e e' g' hj' hk' hg1 hg2
    · intro j e g' hj hg1
      rcases hes j e hj with ⟨rfl, rfl⟩ | ⟨hne, hj'⟩
      · exact ⟨fun e => (hB'g g' hg1).1 (Option.some.inj e).symm, .inr hg1⟩
      · exact ⟨(h5 j e g' hj' hg1).1, .inl (h5 j e g' hj' hg1).2⟩
    · rw [hset_size]
      rcases hb with hb | hb
      · exact Nat.lt_of_lt_of_le (h7 b hb) hf.size
      · exact hv.lt hb
/-- append(all, list) -/
theorem append_ll {P : Program} {t e : TypeId} {te : TL} {H0 : Heap} {d : Nat} {B : Option Nat} {v : Value} {xs : List α} {K : Value → Heap → Prop}
    (he : elems P t = some (none, e, 1)) (ht : tl P e = some te) (h : LL C H0 T va L) (hv : OR C H0 B v xs) (hB : ∀ b, B = some b → ¬ T b) (hH : H = H0.push (.cells #[v] e)) (hb0 : 0 < te.bytes) (hb : 2 * (L.length + 1) * te.bytes ≤ 2 ^ 48) (hz : te.zero.cells.size = 1)
    (hk : ∀ v' H' T', LL C H' T' v' (L ++ [xs]) → Fr T H0 H' → (∀ b, T' b → T b ∨ B = some b ∨ H0.size ≤ b) → K v' H') : appendX P t va (.slice (some ⟨H0.size, 0, none⟩) 1 d) H K := by
  obtain ⟨Ba, es, h1, h2, h3, h4, h5, h6, h7⟩ := h
  refine append_or (C := Prod.snd) (x := (B, v)) he ht h2 hH ?_ hb0 (by rw [h1]; exact hb) hz ?_
  · obtain ⟨a, c, rfl⟩ := hv.slice
    rfl
  intro v' H' Ba' ho hf hBa
  have hnew : ∀ b, Ba' = some b → (Ba = some b) ∨ H0.size ≤ b := fun b hb => by
    rcases hBa with rfl | ⟨g, rfl, hg⟩
    · exact .inl hb
    · rw [← Option.some.inj hb]; exact .inr hg
  have hes : ∀ (j : Nat) (e : Option Nat × Value), (es ++ [(B, v)])[j]? = some e → (j = es.length ∧ e = (B, v)) ∨ (j < es.length ∧ es[j]? = some e) := by
    intro j e hj
    rcases Nat.lt_trichotomy j es.length with h | h | h
    · rw [List.getElem?_append_left h] at hj
      exact .inr ⟨h, hj⟩
    · subst h
      rw [List.getElem?_append_right (Nat.le_refl _)] at hj
      simp at hj
      exact .inl ⟨rfl, hj.symm⟩
    · rw [List.getElem?_append_right (by omega), List.getElem?_eq_none (by simp; omega)] at hj
      cases hj
  refine hk v' H' (fun b => T b ∨ B = some b ∨ Ba' = some b) ⟨Ba', es ++ [(B, v)], by simp [h1], ho, fun j e zs hj hz => ?_, ?_, ?_, fun g hg => .inr (.inr hg), fun b hb => ?_⟩ (hf.mono fun b _ hb => h6 b hb) fun b hb => ?_
  · rcases hes j e hj with ⟨rfl, rfl⟩ | ⟨hlt, hj'⟩
    · rw [h1, List.getElem?_append_right (Nat.le_refl _)] at hz
      simp at hz
      subst hz
      exact hv.frame hf fun g hg hg' => hB g hg (h6 g hg')
    · rw [List.getElem?_append_left (by omega)] at hz
      exact (h3 j e zs hj' hz).frame hf fun g hg hg' => (h5 j e g hj' hg).1 hg'
  · intro j k e e' g' hj hk hg1 hg2
    rcases hes j e hj with ⟨rfl, rfl⟩ | ⟨hlt, hj'⟩
    · rcases hes k e' hk with ⟨rfl, rfl⟩ | ⟨hlt', hk'⟩
      · rfl
      · exact absurd (h5 k e' g' hk' hg2).2 (hB g' hg1)
    · rcases hes k e' hk with ⟨rfl, rfl⟩ | ⟨hlt', hk'⟩
      · exact absurd (h5 j e g' hj' hg1).2 (hB g' hg2)
      · exact h4 j k e e' g' hj' hk' hg1 hg2
  · intro j e g' hj hg1
    rcases hes j e hj with ⟨rfl, rfl⟩ | ⟨hlt, hj'⟩
    · refine ⟨fun e => ?_, .inr (.inl hg1)⟩
      rcases hnew g' e with h | h
      · exact hB g' hg1 (h6 g' h)
      · have := hv.lt hg1
        omega
    · refine ⟨fun e => ?_, .inl (h5 j _ g' hj' hg1).2⟩
      rcases hnew g' e with h | h
      · exact (h5 j _ g' hj' hg1).1 h
      · have := h7 g' (h5 j _ g' hj' hg1).2
        omega
  · rcases hb with hb | hb | hb
    · exact Nat.lt_of_lt_of_le (h7 b hb) hf.size
    · exact Nat.lt_of_lt_of_le (hv.lt hb) hf.size
    · exact ho.lt hb
  · rcases hb with hb | hb | hb
    · exact .inl hb
    · exact .inr (.inl hb)
    · rcases hnew b hb with h | h
      · exact .inl (h6 b h)
      · exact .inr (.inr h)
end Go.Hp
