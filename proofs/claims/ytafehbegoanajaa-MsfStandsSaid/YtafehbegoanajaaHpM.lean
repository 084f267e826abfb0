/-
  Memory as blocks: what a store and a new block do to cells and to whole blocks; frames; rows of cells that a slice owns.
-/
import Derived.Test.YtafehbegoanajaaHpK
namespace Go.Hp
open Go
set_option linter.unusedVariables false

theorem add_mk (b o n : Nat) : (⟨b, o, none⟩ : Addr).add n = ⟨b, o + n, none⟩ := by
  unfold Addr.add
  split
  · rename_i h; subst h; rfl
  · rfl
/-- A plain block: its cells. -/
def Blk (H : Heap) (b : Nat) (l : List Value) : Prop := ∃ T, H[b]? = some (.cells l.toArray T (0, 0))
theorem Blk.lt {H : Heap} {b : Nat} {l : List Value} (h : Blk H b l) : b < H.size := by
  obtain ⟨T, h⟩ := h
  rcases Nat.lt_or_ge b H.size with hb | hb
  · exact hb
  · rw [Array.getElem?_eq_none hb] at h; cases h
theorem Blk.cell {H : Heap} {b : Nat} {l : List Value} (h : Blk H b l) (i : Nat) : hcell H ⟨b, i, none⟩ = l[i]? := by
  obtain ⟨T, h⟩ := h
  unfold hcell
  simp only [h]
  simp
theorem Blk.cellOf {H : Heap} {b : Nat} {l : List Value} (h : Blk H b l) {i : Nat} {v : Value} (hi : l[i]? = some v) : hcell H ⟨b, i, none⟩ = some v := by
  rw [h.cell, hi]
theorem Blk.okW {H : Heap} {b : Nat} {l : List Value} (h : Blk H b l) {i : Nat} (hi : i < l.length) : okW H ⟨b, i, none⟩ := by
  refine ⟨⟨l[i], by rw [h.cell]; simp [hi]⟩, ?_⟩
  obtain ⟨T, h⟩ := h
  unfold hfrozen
  simp only [h]
  simp
theorem hset_get_ne {H : Heap} {a : Addr} {v : Value} {b : Nat} (h : b ≠ a.block) : (hset H a v)[b]? = H[b]? := by
  unfold hset
  rw [Array.getElem?_modify, if_neg (Ne.symm h)]
theorem Blk.set_same {H : Heap} {b : Nat} {l : List Value} (h : Blk H b l) (i : Nat) (v : Value) : Blk (hset H ⟨b, i, none⟩ v) b (l.set i v) := by
  obtain ⟨T, h⟩ := h
  refine ⟨T, ?_⟩
  unfold hset
  rw [Array.getElem?_modify, if_pos rfl, h]
  simp
theorem Blk.set_ne {H : Heap} {b : Nat} {l : List Value} (h : Blk H b l) {a : Addr} (hb : b ≠ a.block) (v : Value) : Blk (hset H a v) b l := by
  obtain ⟨T, h⟩ := h
  exact ⟨T, by rw [hset_get_ne hb, h]⟩
theorem Blk.push {H : Heap} {b : Nat} {l : List Value} (h : Blk H b l) (o : Obj) : Blk (H.push o) b l := by
  have hb := h.lt
  obtain ⟨T, h⟩ := h
  exact ⟨T, by rw [Array.getElem?_push, if_neg (by omega), h]⟩
theorem Blk.new (H : Heap) (l : List Value) (T : TypeId) : Blk (H.push (.cells l.toArray T)) H.size l :=
  ⟨T, by rw [Array.getElem?_push, if_pos rfl]⟩
theorem Blk.inj {H : Heap} {b : Nat} {l l' : List Value} (h : Blk H b l) (h' : Blk H b l') : l = l' := by
  obtain ⟨T, h⟩ := h
  obtain ⟨T', h'⟩ := h'
  rw [h] at h'
  simp only [Option.some.injEq, Obj.cells.injEq] at h'
  simpa using h'.1
/-- Of what was there nothing has turned but blocks of S; none has gone. -/
structure Fr (S : Nat → Prop) (H H' : Heap) : Prop where
  size : H.size ≤ H'.size
  same : ∀ b, b < H.size → ¬ S b → H'[b]? = H[b]?
theorem Fr.refl (S : Nat → Prop) (H : Heap) : Fr S H H := ⟨Nat.le_refl _, fun _ _ _ => rfl⟩
theorem Fr.trans {S : Nat → Prop} {H H' H'' : Heap} (h : Fr S H H') (k : Fr S H' H'') : Fr S H H'' :=
  ⟨Nat.le_trans h.size k.size, fun b hb hs => (k.same b (Nat.lt_of_lt_of_le hb h.size) hs).trans (h.same b hb hs)⟩
theorem Fr.mono {S S' : Nat → Prop} {H H' : Heap} (h : Fr S H H') (k : ∀ b, b < H.size → S b → S' b) : Fr S' H H' :=
  ⟨h.size, fun b hb hs => h.same b hb fun h => hs (k b hb h)⟩
/-- New blocks count as one's own. -/
theorem Fr.trans' {S S' : Nat → Prop} {H H' H'' : Heap} (h : Fr S H H') (k : Fr S' H' H'') (hS : ∀ b, b < H.size → S' b → S b) : Fr S H H'' :=
  ⟨Nat.le_trans h.size k.size, fun b hb hs => (k.same b (Nat.lt_of_lt_of_le hb h.size) fun h => hs (hS b hb h)).trans (h.same b hb hs)⟩
theorem hset_size (H : Heap) (a : Addr) (v : Value) : (hset H a v).size = H.size := by unfold hset; simp
theorem Fr.set {S : Nat → Prop} {H H' : Heap} (h : Fr S H H') {a : Addr} (ha : S a.block ∨ H.size ≤ a.block) (v : Value) : Fr S H (hset H' a v) :=
  h.trans' (S' := fun b => b = a.block) ⟨by rw [hset_size]; exact Nat.le_refl _, fun b _ hb => hset_get_ne hb⟩ fun b hb e => by
    subst e
    rcases ha with ha | ha
    · exact ha
    · omega
theorem Fr.push {S : Nat → Prop} {H H' : Heap} (h : Fr S H H') (o : Obj) : Fr S H (H'.push o) :=
  h.trans ⟨by simp, fun b hb _ => by rw [Array.getElem?_push, if_neg (by omega)]⟩
theorem Blk.frame {S : Nat → Prop} {H H' : Heap} {b : Nat} {l : List Value} (h : Blk H b l) (k : Fr S H H') (hb : ¬ S b) : Blk H' b l := by
  have hlt := h.lt
  obtain ⟨T, h⟩ := h
  exact ⟨T, by rw [k.same b hlt hb, h]⟩
theorem Fr.cell {S : Nat → Prop} {H H' : Heap} (k : Fr S H H') {a : Addr} (ha : a.block < H.size) (hs : ¬ S a.block) : hcell H' a = hcell H a := by
  unfold hcell; rw [k.same _ ha hs]
/-! ### cells behind stores -/
theorem hcell_hset_same {H : Heap} {b o : Nat} {v u : Value} (h : hcell H ⟨b, o, none⟩ = some u) : hcell (hset H ⟨b, o, none⟩ v) ⟨b, o, none⟩ = some v := by
  unfold hcell hset at *
  simp only [Array.getElem?_modify, if_true] at *
  cases hb : H[b]? with
  | none => rw [hb] at h; cases h
  | some x =>
    rw [hb] at h
    cases x <;> simp at h ⊢
    rename_i c T fr
    have : o < c.size := by
      rcases Nat.lt_or_ge o c.size with h' | h'
      · exact h'
      · rw [Array.getElem?_eq_none h'] at h; cases h
    simp [this]
theorem hcell_hset_off {H : Heap} {b o o' : Nat} {v : Value} (h : o ≠ o') : hcell (hset H ⟨b, o, none⟩ v) ⟨b, o', none⟩ = hcell H ⟨b, o', none⟩ := by
  unfold hcell hset
  simp only [Array.getElem?_modify, if_true]
  cases hb : H[b]? with
  | none => rfl
  | some x => cases x <;> simp [h]
theorem hcell_hset_ne {H : Heap} {a a' : Addr} {v : Value} (h : a'.block ≠ a.block) : hcell (hset H a v) a' = hcell H a' := by
  unfold hcell; rw [hset_get_ne h]
theorem hfrozen_hset {H : Heap} {a a' : Addr} {v : Value} : hfrozen (hset H a v) a' = hfrozen H a' := by
  unfold hfrozen hset
  rw [Array.getElem?_modify]
  by_cases h : a.block = a'.block
  · rw [if_pos h, ← h]
    cases hb : H[a.block]? with
    | none => rfl
    | some x => cases x <;> rfl
  · rw [if_neg h]
theorem hcell_isSome_hset {H : Heap} {a a' : Addr} {v : Value} : (hcell (hset H a v) a').isSome = (hcell H a').isSome := by
  unfold hcell hset
  rw [Array.getElem?_modify]
  by_cases hb : a.block = a'.block
  · rw [if_pos hb]
    cases hx : H[a'.block]? with
    | none => rfl
    | some x =>
      cases x <;> first | rfl | skip
      rename_i c T fr
      simp only [Option.map_some]
      cases a'.spot with
      | some s => rfl
      | none =>
        simp only [Option.isSome_none, Bool.false_eq_true, if_false]
        cases a.spot with
        | some s => rfl
        | none =>
          simp only [Option.isSome_none, Bool.false_eq_true, if_false]
          by_cases h : a'.off < c.size <;> simp [h]
  · rw [if_neg hb]
theorem okW_hset {H : Heap} {a a' : Addr} {v : Value} : okW (hset H a v) a' = okW H a' := by
  unfold okW
  rw [hfrozen_hset]
  have : (∃ u, hcell (hset H a v) a' = some u) = (∃ u, hcell H a' = some u) := by
    rw [← Option.isSome_iff_exists, ← Option.isSome_iff_exists, hcell_isSome_hset]
  rw [this]
theorem hcell_hset_eq {H : Heap} {b o : Nat} {v : Value} (h : okW H ⟨b, o, none⟩) : hcell (hset H ⟨b, o, none⟩ v) ⟨b, o, none⟩ = some v := by
  obtain ⟨⟨u, hu⟩, _⟩ := h
  exact hcell_hset_same hu
theorem hcell_push {H : Heap} {a : Addr} {o : Obj} (h : a.block < H.size) : hcell (H.push o) a = hcell H a := by
  unfold hcell; rw [Array.getElem?_push, if_neg (by omega)]
theorem hcell_lt {H : Heap} {a : Addr} {v : Value} (h : hcell H a = some v) : a.block < H.size := by
  rcases Nat.lt_or_ge a.block H.size with hb | hb
  · exact hb
  · unfold hcell at h; rw [Array.getElem?_eq_none hb] at h; cases h
theorem hcell_new {H : Heap} {l : List Value} {T : TypeId} {i : Nat} : hcell (H.push (.cells l.toArray T)) ⟨H.size, i, none⟩ = l[i]? := (Blk.new H l T).cell i
/-! ### a slice's own row -/
/-- The slice value s (n elements of k cells) owns a row of its own in which the cells l stand; nil: none. The row's block, if any: B. -/
def Own (H : Heap) (B : Option Nat) (s : Value) (k n : Nat) (l : List Value) : Prop :=
  l.length = n * k ∧ ((B = none ∧ s = .slice none 0 0 ∧ n = 0) ∨
    ∃ g c rest, B = some g ∧ s = .slice (some ⟨g, 0, none⟩) n c ∧ Blk H g (l ++ rest) ∧ (l ++ rest).length = c * k ∧ n ≤ c)
theorem Own.frame {S : Nat → Prop} {H H' : Heap} {B : Option Nat} {s : Value} {k n : Nat} {l : List Value} (h : Own H B s k n l) (hf : Fr S H H') (hb : ∀ g, B = some g → ¬ S g) : Own H' B s k n l := by
  obtain ⟨hl, h | ⟨g, c, rest, h1, h2, h3, h4, h5⟩⟩ := h
  · exact ⟨hl, .inl h⟩
  · exact ⟨hl, .inr ⟨g, c, rest, h1, h2, h3.frame hf (hb g h1), h4, h5⟩⟩
theorem readL_blk {H : Heap} {b : Nat} {l : List Value} (h : Blk H b l) : ∀ (n o i : Nat), o + i + n ≤ l.length → readL H ⟨b, o, none⟩ i n = some ((l.drop (o + i)).take n)
  | 0, o, i, _ => by simp [readL]
  | n + 1, o, i, hn => by
    unfold readL
    rw [add_mk, h.cell, readL_blk h n o (i + 1) (by omega), List.getElem?_eq_getElem (by omega)]
    simp only []
    rw [List.drop_eq_getElem_cons (show o + i < l.length by omega), List.take_succ_cons]
    rfl
theorem storesX_blk {b : Nat} : ∀ (vs : List Value) (H : Heap) (o i : Nat) (l : List Value) (K : Heap → Prop), Blk H b l → o + i + vs.length ≤ l.length → (∀ v ∈ vs, plainVal v = true) →
    (∀ H', Blk H' b (l.take (o + i) ++ vs ++ l.drop (o + i + vs.length)) → Fr (· = b) H H' → H'.size = H.size → K H') → storesX ⟨b, o, none⟩ i vs H K
  | [], H, o, i, l, K, h, _, _, hk => hk H (by simpa using h) (.refl _ _) rfl
  | v :: vs, H, o, i, l, K, h, hl, hp, hk => by
    simp only [List.length_cons] at hl
    refine ⟨hp v (.head _), by rw [add_mk]; exact h.okW (by omega), ?_⟩
    rw [add_mk]
    refine storesX_blk vs _ o (i + 1) _ K (h.set_same (o + i) v) (by simp; omega) (fun v hv => hp v (.tail _ hv)) fun H' h1 h2 h3 => hk H' ?_ ?_ (by rw [h3, hset_size])
    · have e1 : (l.set (o + i) v).take (o + (i + 1)) = l.take (o + i) ++ [v] := by
        rw [show o + (i + 1) = (o + i) + 1 by omega, List.take_succ_eq_append_getElem (by simp; omega)]
        simp [List.take_set_of_le]
      have e2 : (l.set (o + i) v).drop (o + (i + 1) + vs.length) = l.drop (o + i + (vs.length + 1)) := by
        rw [List.drop_set_of_lt (by omega)]
        congr 1; omega
      rw [e1, e2] at h1
      simpa using h1
    · exact ((Fr.refl (· = b) H).set (.inl rfl) v).trans h2
/-- append: what s owned and the new cells are owned by what comes out. -/
theorem append_own {P : Program} {t e : TypeId} {sz : Nat} {te : TL} {s x : Value} {H : Heap} {B : Option Nat} {n m : Nat} {l new : List Value} {K : Value → Heap → Prop}
    (he : elems P t = some (none, e, sz)) (ht : tl P e = some te) (h : Own H B s sz n l)
    (hx : (∃ b c, x = .slice (some b) m c ∧ readL H b 0 (m * sz) = some new) ∨ (x = .slice none 0 0 ∧ m = 0 ∧ new = [])) (hp : ∀ v ∈ new, plainVal v = true)
    (hb0 : 0 < te.bytes) (hb : 2 * (n + m) * te.bytes ≤ 2 ^ 48) (hnew : new.length = m * sz) (hz : te.zero.cells.size = sz)
    (hk : ∀ v' H' B', Own H' B' v' sz (n + m) (l ++ new) → Fr (fun b => B = some b) H H' → (B' = B ∨ ∃ g, B' = some g ∧ H.size ≤ g) → K v' H') : appendX P t s x H K := by
  unfold appendX
  obtain ⟨hl, h⟩ := h
  have nil : s = .slice none 0 0 → n = 0 → B = none → l = [] := fun _ hn _ => by subst hn; simpa using hl
  have srcs : ∀ Q : Prop, Q → srcX H sz x m new ∧ Q := fun Q q => by
    rcases hx with ⟨b, c, rfl, hr⟩ | ⟨rfl, hm, hn⟩
    · exact ⟨⟨rfl, hr⟩, q⟩
    · exact ⟨⟨hm.symm, hm, hn⟩, q⟩
  rcases h with ⟨rfl, rfl, rfl⟩ | ⟨g, c, rest, rfl, rfl, hblk, hlen, hnc⟩
  · rw [he]
    simp only [ht]
    refine ⟨m, new, srcs _ ?_⟩
    obtain rfl : l = [] := nil rfl rfl rfl
    by_cases hm : 0 + m ≤ 0
    · rw [if_pos hm]
      obtain rfl : m = 0 := by omega
      obtain rfl : new = [] := by simpa using hnew
      exact hk _ _ none ⟨by simp, .inl ⟨rfl, rfl, rfl⟩⟩ (.refl _ _) (.inl rfl)
    · rw [if_neg hm]
      refine ⟨[], rfl, hb0, hb, fun c hc _ => hk _ _ (some H.size) ⟨by simp [hnew], .inr ⟨H.size, c, repL (c - (0 + m)) te.zero.cells.toList, rfl, rfl, ?_, ?_, hc⟩⟩ ((Fr.refl _ _).push _) (.inr ⟨_, rfl, Nat.le_refl _⟩)⟩
      · exact Blk.new H ([] ++ new ++ repL (c - (0 + m)) te.zero.cells.toList) e
      · simp [repL_length, hz, hnew]
        rw [← Nat.add_mul]; congr 1; omega
  · rw [he]
    simp only [ht]
    refine ⟨m, new, srcs _ ?_⟩
    by_cases hc : n + m ≤ c
    · rw [if_pos hc, add_mk]
      have hlt : n * sz + m * sz ≤ c * sz := by rw [← Nat.add_mul]; exact Nat.mul_le_mul_right _ hc
      refine storesX_blk new H _ 0 (l ++ rest) _ hblk (by omega) hp fun H' h1 h2 h3 => hk _ _ (some g) ⟨by simp [hl, hnew, Nat.add_mul], .inr ⟨g, c, rest.drop (m * sz), rfl, rfl, ?_, ?_, hc⟩⟩ (h2.mono fun b _ e => by rw [e]) (.inl rfl)
      · have e1 : (l ++ rest).take (0 + n * sz + 0) = l := by rw [show 0 + n * sz + 0 = l.length by omega]; simp
        have e2 : (l ++ rest).drop (0 + n * sz + 0 + new.length) = rest.drop (m * sz) := by
          rw [show 0 + n * sz + 0 + new.length = l.length + m * sz by omega, List.drop_append]; simp
        rw [e1, e2] at h1
        exact h1
      · simp at hlen ⊢
        omega
    · rw [if_neg hc]
      have hr : readL H ⟨g, 0, none⟩ 0 (n * sz) = some l := by
        rw [readL_blk hblk _ _ _ (by simp at hlen ⊢; omega)]
        simp [← hl]
      refine ⟨l, hr, hb0, hb, fun c' hc' _ => hk _ _ (some H.size) ⟨by simp [hl, hnew, Nat.add_mul], .inr ⟨H.size, c', repL (c' - (n + m)) te.zero.cells.toList, rfl, rfl, Blk.new _ _ _, ?_, hc'⟩⟩ ((Fr.refl _ _).push _) (.inr ⟨_, rfl, Nat.le_refl _⟩)⟩
      simp [repL_length, hz, hnew, hl]
      rw [← Nat.add_mul, ← Nat.add_mul]; congr 1; omega
/-- A slice of ints of its own, all of whose memory lies from block base on. -/
def Ints (H : Heap) (base : Nat) (v : Value) (xs : List Int) : Prop := ∃ B, Own H B v 1 xs.length (xs.map (Value.int .i64)) ∧ ∀ g, B = some g → base ≤ g
theorem Ints.nil (H : Heap) (base : Nat) : Ints H base (.slice none 0 0) [] := ⟨none, ⟨rfl, .inl ⟨rfl, rfl, rfl⟩⟩, fun g h => by cases h⟩
theorem Ints.frame {S : Nat → Prop} {H H' : Heap} {base : Nat} {v : Value} {xs : List Int} (h : Ints H base v xs) (hf : Fr S H H') (hb : ∀ g, base ≤ g → g < H.size → ¬ S g) : Ints H' base v xs := by
  obtain ⟨B, hl, ho⟩ := h
  refine ⟨B, hl.frame hf fun g hg => hb g (ho g hg) ?_, ho⟩
  obtain ⟨_, h | ⟨g', c, rest, h1, h2, h3, h4, h5⟩⟩ := hl
  · rw [h.1] at hg; cases hg
  · rw [h1] at hg
    obtain rfl := Option.some.inj hg
    exact h3.lt
theorem Ints.slice {H : Heap} {base : Nat} {v : Value} {xs : List Int} (h : Ints H base v xs) : ∃ a c, v = .slice a xs.length c := by
  obtain ⟨B, ⟨_, h | ⟨g', c, rest, h1, h2, h3, h4, h5⟩⟩, ho⟩ := h
  · obtain ⟨_, h2, h3⟩ := h
    exact ⟨none, 0, by rw [h2, h3]⟩
  · exact ⟨_, _, h2⟩
theorem Ints.read {H : Heap} {base : Nat} {v : Value} {xs : List Int} (h : Ints H base v xs) {i : Nat} {x : Int} (hi : xs[i]? = some x) :
    ∃ b c, v = .slice (some ⟨b, 0, none⟩) xs.length c ∧ hcell H ⟨b, i, none⟩ = some (.int .i64 x) := by
  obtain ⟨B, ⟨hl, h | ⟨g', c, rest, h1, h2, h3, h4, h5⟩⟩, ho⟩ := h
  · have : xs = [] := List.length_eq_zero_iff.1 h.2.2
    rw [this] at hi; cases hi
  · refine ⟨g', c, h2, h3.cellOf ?_⟩
    have hlt : i < xs.length := by
      rcases Nat.lt_or_ge i xs.length with h | h
      · exact h
      · rw [List.getElem?_eq_none h] at hi; cases hi
    rw [List.getElem?_append_left (by simpa using hlt), List.getElem?_map, hi]
    rfl
/-- A slice of ints that came in reads as zs. -/
def InInts (H : Heap) (a : Option Addr) (len : Nat) (zs : Nat → Int) : Prop :=
  ∀ i, i < len → ∃ p, a = some p ∧ hcell H (p.add i) = some (.int .i64 (zs i)) ∧ -9223372036854775808 ≤ zs i ∧ zs i ≤ 9223372036854775807
theorem InInts.frame {H H' : Heap} {a : Option Addr} {len : Nat} {zs : Nat → Int} (h : InInts H a len zs) (hf : Fr (fun _ => False) H H') : InInts H' a len zs := fun i hi => by
  obtain ⟨p, h1, h2, h3⟩ := h i hi
  exact ⟨p, h1, by rw [hf.cell (hcell_lt h2) (fun h => h)]; exact h2, h3⟩
/-- append(xs, x) -/
theorem append_int {P : Program} {t e : TypeId} {te : TL} {s : Value} {H H0 : Heap} {base d : Nat} {xs : List Int} {x : Int} {K : Value → Heap → Prop}
    (he : elems P t = some (none, e, 1)) (ht : tl P e = some te) (h : Ints H0 base s xs) (hH : H = H0.push (.cells #[.int .i64 x] e)) (hb0 : 0 < te.bytes) (hbase : base ≤ H0.size) (hb : 2 * (xs.length + 1) * te.bytes ≤ 2 ^ 48) (hz : te.zero.cells.size = 1)
    (hk : ∀ v' H', Ints H' base v' (xs ++ [x]) → Fr (fun b => base ≤ b) H0 H' → K v' H') : appendX P t s (.slice (some ⟨H0.size, 0, none⟩) 1 d) H K := by
  subst hH
  obtain ⟨B, hl, ho⟩ := h
  have hfr : Fr (fun _ => False) H0 (H0.push (.cells #[.int .i64 x] e)) := (Fr.refl _ _).push _
  have hlB : ∀ g, B = some g → g < H0.size := fun g hg => by
    obtain ⟨_, h | ⟨g', c, rest, h1, h2, h3, h4, h5⟩⟩ := hl
    · rw [h.1] at hg; cases hg
    · rw [h1] at hg
      obtain rfl := Option.some.inj hg
      exact h3.lt
  refine append_own he ht (hl.frame hfr (fun _ _ h => h)) (.inl ⟨_, _, rfl, readL_blk (Blk.new H0 [.int .i64 x] e) 1 0 0 (by simp)⟩) (by simp [plainVal]) hb0 hb rfl hz ?_
  intro v' H' B' ho' hf hB
  refine hk v' H' ⟨B', by simpa using ho', fun g hg => ?_⟩ ((hfr.mono (S' := fun b => base ≤ b) fun b _ h => h.elim).trans' hf fun b _ h => ho b h)
  rcases hB with rfl | ⟨g', h1, h2⟩
  · exact ho g hg
  · rw [h1] at hg
    obtain rfl := Option.some.inj hg
    simp at h2
    omega
/-- append onto a row that is there. -/
theorem append_row {P : Program} {t e : TypeId} {sz : Nat} {te : TL} {H : Heap} {g b n m c d : Nat} {l rest new : List Value} {K : Value → Heap → Prop}
    (he : elems P t = some (none, e, sz)) (ht : tl P e = some te) (hblk : Blk H g (l ++ rest)) (hl : l.length = n * sz) (hlen : n * sz + rest.length = c * sz) (hnc : n ≤ c)
    (hx : readL H ⟨b, 0, none⟩ 0 (m * sz) = some new) (hp : ∀ v ∈ new, plainVal v = true)
    (hb0 : 0 < te.bytes) (hb : 2 * (n + m) * te.bytes ≤ 2 ^ 48) (hnew : new.length = m * sz) (hz : te.zero.cells.size = sz)
    (hk : ∀ H' g' c' rest', Blk H' g' (l ++ new ++ rest') → (n + m) * sz + rest'.length = c' * sz → n + m ≤ c' → Fr (· = g) H H' → (g' = g ∨ H.size ≤ g') → K (.slice (some ⟨g', 0, none⟩) (n + m) c') H') :
    appendX P t (.slice (some ⟨g, 0, none⟩) n c) (.slice (some ⟨b, 0, none⟩) m d) H K := by
  refine append_own he ht (B := some g) ⟨hl, .inr ⟨g, c, rest, rfl, rfl, hblk, by rw [List.length_append, hl, hlen], hnc⟩⟩ (.inl ⟨_, _, rfl, hx⟩) hp hb0 hb hnew hz ?_
  rintro v' H' B' ⟨hl', h | ⟨g', c', rest', rfl, rfl, h3, h4, h5⟩⟩ hf hB
  · obtain ⟨rfl, _⟩ := h
    rcases hB with h | ⟨_, h, _⟩ <;> cases h
  · refine hk H' g' c' rest' h3 (by rw [List.length_append, hl'] at h4; exact h4) h5 (hf.mono fun b _ h => (Option.some.inj h).symm) ?_
    rcases hB with h | ⟨_, h, h'⟩
    · exact .inl (Option.some.inj h)
    · obtain rfl := Option.some.inj h
      exact .inr h'
attribute [go_sem] opX isRdOp rdX Env.eval put_get put_none Env.init ptrX_some nilX_some boolX intX loadX TK.agg cellX cellsX bigRow binX intBin
  strBin fieldAX indexX tupX sliceX boundX callX lenX isPtr isBool isSlice isString convX fieldX buildX fillX putL repL storesX resX outX newPtr
  plainVal seqQ blockQ endQ add_mk Value.cells Option.map_some Option.map_none Option.isNone_none Option.isNone_some List.getElem?_cons_zero
  List.getElem?_cons_succ List.map_cons List.map_nil List.getElem?_toArray List.map_toArray List.size_toArray List.length_cons List.length_nil
  List.append_toArray List.nil_append List.append_nil List.cons_append List.toList_toArray Array.getD_eq_getD_getElem? Option.getD_some if_true if_false
  Nat.zero_add Nat.add_zero Nat.mul_one Option.some.injEq Value.int.injEq Value.pointer.injEq Value.bool.injEq ex_slice Value.string.injEq
  Value.map.injEq exists_eq_left' exists_eq_left true_and and_true and_self and_assoc ne_eq not_false_eq_true Bool.false_eq_true Bool.not_true
  Bool.not_false beq_self_eq_true bne_self_eq_false decide_true decide_false Int.toNat_natCast Int.toNat_zero Int.toNat_one Int.natCast_nonneg
  Int.ofNat_lt Int.ofNat_le Value.ite_bool ge_iff_le gt_iff_lt Int.cast_ofNat_Int
end Go.Hp
