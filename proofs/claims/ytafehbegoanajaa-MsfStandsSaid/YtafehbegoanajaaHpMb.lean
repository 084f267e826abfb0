/-
  Maps over a heap, further: entries are born one by one; ranging over a map: in whatever order, each entry once.
-/
import Derived.Test.YtafehbegoanajaaHpMa
namespace Go.Hp
open Go
set_option linter.unusedVariables false
set_option linter.unusedSimpArgs false
set_option linter.unusedSectionVars false
/-- Entries have stamps of their own. -/
def MapB (H : Heap) (r : Nat) : Prop := ∃ es c, H[r]? = some (.map es c) ∧ (es.toList.map (·.born)).Nodup ∧ ∀ e ∈ es.toList, e.born < c
theorem MapB.make (H : Heap) : MapB (H.push (.map #[] 0)) H.size := ⟨#[], 0, by rw [Array.getElem?_push, if_pos rfl], by simp, by simp⟩
theorem MapB.lt {H : Heap} {r : Nat} (h : MapB H r) : r < H.size := by
  obtain ⟨es, c, h, _⟩ := h
  rcases Nat.lt_or_ge r H.size with hb | hb
  · exact hb
  · rw [Array.getElem?_eq_none hb] at h; cases h
theorem MapB.frame {S : Nat → Prop} {H H' : Heap} {r : Nat} (h : MapB H r) (hf : Fr S H H') (hr : ¬ S r) : MapB H' r := by
  have := h.lt
  obtain ⟨es, c, h1, h2⟩ := h
  exact ⟨es, c, by rw [hf.same r this hr]; exact h1, h2⟩
theorem born_modify (es : Array MapEntry) (i : Nat) (f : MapEntry → MapEntry) (hf : ∀ e, (f e).born = e.born) : (es.modify i f).toList.map (·.born) = es.toList.map (·.born) := by
  apply List.ext_getElem?
  intro j
  simp only [List.getElem?_map, Array.getElem?_toList, Array.getElem?_modify]
  by_cases e : i = j
  · subst e
    rw [if_pos rfl]
    cases es[i]? with
    | none => rfl
    | some x => simp [hf]
  · rw [if_neg e]
section
variable {κ V : Type} [DecidableEq κ]
variable {P : Program} {H H' : Heap} {kf : κ → Value} {vf : V → Value} {r n : Nat} {g : κ → Option V} {t kt : TypeId} {z : Value}
/-- m[k] = v -/
theorem hp_updB (ht : mapT P t = some (kt, z)) (hk : KeyT P kt kf) (hM : MapF kf vf H r g n) (hB : MapB H r) (k : κ) (v : V) {K : Value → Heap → Prop}
    (fin : ∀ H', MapF kf vf H' r (fun j => if j = k then some v else g j) (if (g k).isSome then n else n + 1) → MapB H' r → Fr (· = r) H H' → H'.size = H.size → (∀ a, hcell H' a = hcell H a) → K undef H') :
    semHp P (do Instr.mapUpdate t (.map (some r)) (kf k) (vf v); pure Next.skip) H (nextHp P K) := by
  have hM0 := hM
  obtain ⟨ti, e, te, h1, h2, h3, rfl⟩ := mapT_spec ht
  obtain ⟨es, c, l, h4, h5, h6, h7, h8⟩ := hM
  obtain ⟨es', c', hB0, hB1, hB2⟩ := hB
  rw [h4] at hB0
  simp only [Option.some.injEq, Obj.map.injEq] at hB0
  obtain ⟨rfl, rfl⟩ := hB0
  have hE : Ent kf es.toList (l.map fun x => (x.1, vf x.2)) := by unfold Ent; rw [h5, List.map_map]; rfl
  have hf := hk.find H k es.toList _ hE
  have ha := findL_atL (vf := vf) k l 0
  rw [← h7] at ha
  have hcells : ∀ (es' : Array MapEntry) (c' : Nat) (a : Addr), hcell (H.setIfInBounds r (.map es' c')) a = hcell H a := fun es' c' a => hcell_setMap ⟨es, c, h4⟩ a
  have hfr : ∀ (es' : Array MapEntry) (c' : Nat), Fr (· = r) H (H.setIfInBounds r (.map es' c')) := fun es' c' => Fr.setMap (S := (· = r)) (Fr.refl _ H) (.inl rfl) _
  rw [semHp_bind']
  unfold Instr.mapUpdate
  refine hp_rd (rd_underlying h1) ?_
  rw [h2]
  refine hp_rd (Rd.getObj h4 rfl) (hp_rd (hk.check H _ k) (hp_rd hf ?_))
  cases hq : findL k (l.map fun x => (x.1, vf x.2)) 0 with
  | none =>
    rw [hq] at ha
    have hg : g k = none := by cases hh : g k with
      | none => rfl
      | some w => rw [hh] at ha; cases ha
    refine ⟨⟨_, h4, rfl⟩, ?_⟩
    refine fin _ ⟨es.push { key := kf k, val := vf v, born := c }, c + 1, l ++ [(k, v)], setMap_same ⟨es, c, h4⟩, by simp [h5], ?_, fun j => ?_, by simp [hg, h8]⟩ ⟨es.push { key := kf k, val := vf v, born := c }, c + 1, setMap_same ⟨es, c, h4⟩, ?_, ?_⟩ (hfr _ _) (by simp) (hcells _ _)
    · rw [List.map_append, List.nodup_append]
      refine ⟨h6, by simp, fun a ha' b hb => ?_⟩
      simp at hb
      subst hb
      rintro rfl
      rw [h7, atL_none] at hg
      exact hg ha'
    · show (if j = k then some v else g j) = _
      rw [atL_append]
      by_cases e : j = k
      · subst e
        rw [← h7, hg]; simp [atL]
      · rw [if_neg e, ← h7]
        simp [atL, e]
    · simp only [Array.toList_push, List.map_append, List.map_cons, List.map_nil, List.nodup_append]
      refine ⟨hB1, by simp, fun a ha' b hb => ?_⟩
      simp at hb
      subst hb
      obtain ⟨e, he, rfl⟩ := List.mem_map.1 ha'
      have := hB2 e he
      omega
    · intro e he
      simp only [Array.toList_push, List.mem_append, List.mem_singleton] at he
      rcases he with he | rfl
      · exact Nat.lt_succ_of_lt (hB2 e he)
      · exact Nat.lt_succ_self _
  | some p =>
    obtain ⟨i, u⟩ := p
    rw [hq] at ha
    obtain ⟨_, hl⟩ := findL_some hq
    rw [Nat.sub_zero] at hl
    have hgs : (g k).isSome = true := by
      cases hh : g k with
      | none => rw [hh] at ha; cases ha
      | some w => rfl
    obtain ⟨⟨k', u'⟩, hl1, hl2⟩ : ∃ x, l[i]? = some x ∧ (x.1, vf x.2) = (k, u) := by
      rw [List.getElem?_map] at hl
      cases hx : l[i]? with
      | none => rw [hx] at hl; cases hl
      | some x => rw [hx] at hl; exact ⟨x, rfl, Option.some.inj hl⟩
    obtain ⟨rfl, rfl⟩ := Prod.mk.inj hl2
    obtain ⟨en, he1, he2⟩ : ∃ en, es[i]? = some en ∧ (en.key, en.val) = (kf k', vf u') := by
      have := congrArg (fun q => q[i]?) h5
      simp only [List.getElem?_map, hl1, Array.getElem?_toList, Option.map_some] at this
      cases hx : es[i]? with
      | none => rw [hx] at this; cases this
      | some x => rw [hx] at this; exact ⟨x, rfl, Option.some.inj this⟩
    obtain ⟨he3, he4⟩ := Prod.mk.inj he2
    simp only []
    refine hp_rd (x := kf k') ?_ ⟨⟨_, h4, rfl⟩, ?_⟩
    · unfold Instr.keyThatStays
      have : Instr.sameBits 10000 (((es[i]?).map (·.key)).getD (kf k')) (kf k') = true := by
        rw [he1]; simp only [Option.map_some, Option.getD_some, he3]; exact hk.bits k'
      rw [if_pos this]
      exact Rd.ret _
    · have hi : i < l.length := (List.getElem?_eq_some_iff.1 hl1).1
      have hset : ∀ j w, atL j (l.set i (k', w)) = if j = k' then some w else atL j l := fun j w => atL_set h6 hl1 j
      refine fin _ ⟨es.modify i fun e => { e with key := kf k', val := vf v }, c, l.set i (k', v), setMap_same ⟨es, c, h4⟩, ?_, ?_, fun j => ?_, by simp [hgs, h8]⟩ ⟨es.modify i fun e => { e with key := kf k', val := vf v }, c, setMap_same ⟨es, c, h4⟩, ?_, ?_⟩ (hfr _ _) (by simp) (hcells _ _)
      · apply List.ext_getElem?
        intro j
        have := congrArg (fun q => q[j]?) h5
        simp only [List.getElem?_map, Array.getElem?_toList] at this
        simp only [List.getElem?_map, Array.getElem?_toList, Array.getElem?_modify, List.getElem?_set]
        by_cases e : i = j
        · subst e
          rw [if_pos rfl, he1, if_pos rfl, if_pos hi]; rfl
        · rw [if_neg e, if_neg e]; exact this
      · rw [List.map_set]
        have : (l.map Prod.fst).set i k' = l.map Prod.fst := by
          apply List.ext_getElem?
          intro j
          rw [List.getElem?_set]
          by_cases e : i = j
          · subst e
            rw [if_pos rfl, List.length_map, if_pos hi, List.getElem?_map, hl1]; rfl
          · rw [if_neg e]
        rw [this]; exact h6
      · show (if j = k' then some v else g j) = _
        rw [hset, h7]
      · rw [born_modify es i (fun e => { e with key := kf k', val := vf v }) fun _ => rfl]; exact hB1
      · intro e he
        have : e.born ∈ (es.modify i fun e => { e with key := kf k', val := vf v }).toList.map (·.born) := List.mem_map.2 ⟨e, he, rfl⟩
        rw [born_modify es i (fun e => { e with key := kf k', val := vf v }) fun _ => rfl] at this
        obtain ⟨e', he', hee⟩ := List.mem_map.1 this
        rw [← hee]; exact hB2 e' he'
theorem hp_delB (ht : mapT P t = some (kt, z)) (hk : KeyT P kt kf) (hM : MapF kf vf H r g n) (hB : MapB H r) (k : κ) {a1 : TypeId} {ty : TypeId} {K : Value → Heap → Prop}
    (fin : ∀ H', MapF kf vf H' r (fun j => if j = k then none else g j) (if (g k).isSome then n - 1 else n) → MapB H' r → Fr (· = r) H H' → H'.size = H.size → (∀ a, hcell H' a = hcell H a) → K (.tuple #[]) H') :
    semHp P (do pure (.value (← Builtin.delete_ #[t, a1] ty #[.map (some r), kf k])) : Sem Next) H (nextHp P K) := by
  obtain ⟨ti, e, te, h1, h2, h3, rfl⟩ := mapT_spec ht
  obtain ⟨es, c, l, h4, h5, h6, h7, h8⟩ := hM
  obtain ⟨es', c', hB0, hB1, hB2⟩ := hB
  rw [h4] at hB0
  simp only [Option.some.injEq, Obj.map.injEq] at hB0
  obtain ⟨rfl, rfl⟩ := hB0
  have hE : Ent kf es.toList (l.map fun x => (x.1, vf x.2)) := by unfold Ent; rw [h5, List.map_map]; rfl
  have hf := hk.find H k es.toList _ hE
  have ha := findL_atL (vf := vf) k l 0
  rw [← h7] at ha
  have hcells : ∀ (es' : Array MapEntry) (c' : Nat) (a : Addr), hcell (H.setIfInBounds r (.map es' c')) a = hcell H a := fun es' c' a => hcell_setMap ⟨es, c, h4⟩ a
  have hfr : ∀ (es' : Array MapEntry) (c' : Nat), Fr (· = r) H (H.setIfInBounds r (.map es' c')) := fun es' c' => Fr.setMap (S := (· = r)) (Fr.refl _ H) (.inl rfl) _
  have hu := rd_underlying (H := H) h1
  rw [h2] at hu
  rw [semHp_bind']
  unfold Builtin.delete_
  refine hp_rd hu ?_
  refine hp_rd (Rd.getObj h4 rfl) (hp_rd (hk.check H _ k) (hp_rd hf ?_))
  cases hq : findL k (l.map fun x => (x.1, vf x.2)) 0 with
  | none =>
    rw [hq] at ha
    have hg : g k = none := by cases hh : g k with
      | none => rfl
      | some w => rw [hh] at ha; cases ha
    refine ⟨⟨_, h4, rfl⟩, ?_⟩
    refine fin _ ⟨es, c, l, setMap_same ⟨es, c, h4⟩, h5, h6, fun j => ?_, by simp [hg, h8]⟩ ⟨es, c, setMap_same ⟨es, c, h4⟩, hB1, hB2⟩ (hfr _ _) (by simp) (hcells _ _)
    show (if j = k then none else g j) = _
    by_cases e : j = k
    · subst e; rw [if_pos rfl, ← h7, hg]
    · rw [if_neg e, h7]
  | some p =>
    obtain ⟨i, u⟩ := p
    rw [hq] at ha
    have hgs : (g k).isSome = true := by
      cases hh : g k with
      | none => rw [hh] at ha; cases ha
      | some w => rfl
    have hnd : ((l.map fun x => (x.1, vf x.2)).map Prod.fst).Nodup := by rw [List.map_map]; exact h6
    have her := findL_erase hnd hq
    rw [Nat.sub_zero] at her
    obtain ⟨_, hl⟩ := findL_some hq
    rw [Nat.sub_zero] at hl
    have hi : i < l.length := by simpa using (List.getElem?_eq_some_iff.1 hl).1
    have hsz : es.size = l.length := by simpa using congrArg List.length h5
    have hel : l.eraseIdx i = l.filter fun x => x.1 ≠ k := by
      refine erase_filter h6 ?_
      rw [List.getElem?_map] at hl
      cases hx : l[i]? with
      | none => rw [hx] at hl; cases hl
      | some x => rw [hx] at hl; simp at hl; simp [hl.1]
    refine ⟨⟨_, h4, rfl⟩, ?_⟩
    refine fin _ ⟨es.eraseIdxIfInBounds i, c, l.eraseIdx i, setMap_same ⟨es, c, h4⟩, ?_, ?_, fun j => ?_, by rw [List.length_eraseIdx, if_pos hi, hgs, h8]; rfl⟩ ⟨es.eraseIdxIfInBounds i, c, setMap_same ⟨es, c, h4⟩, by rw [Array.toList_eraseIdxIfInBounds, map_erase]; exact (List.eraseIdx_sublist _ _).nodup hB1, fun e he => hB2 e (by rw [Array.toList_eraseIdxIfInBounds] at he; exact (List.eraseIdx_sublist _ _).subset he)⟩ (hfr _ _) (by simp) (hcells _ _)
    · rw [Array.toList_eraseIdxIfInBounds]
      rw [map_erase, map_erase, h5]
    · rw [hel]
      exact (List.filter_sublist.map Prod.fst).nodup h6
    · show (if j = k then none else g j) = _
      rw [hel, atL_filter, h7]
/-! ### ranging -/
/-- An iterator over a map: which entries (by place) were given. -/
structure It (kf : κ → Value) (vf : V → Value) (H : Heap) (q r : Nat) (l : List (κ × V)) (D : List Nat) : Prop where
  ex : ∃ (es : Array MapEntry) (c : Nat) (seen : Array Nat), H[r]? = some (.map es c) ∧ H[q]? = some (.mapIter (some r) c seen c) ∧ es.toList.map (fun e => (e.key, e.val)) = l.map (fun x => (kf x.1, vf x.2)) ∧ (es.toList.map (·.born)).Nodup ∧ (∀ e ∈ es.toList, e.born < c) ∧
    (∀ i e, es[i]? = some e → (e.born ∈ seen.toList ↔ i ∈ D)) ∧ (∀ i, D.head? = some i → ∃ e, es[i]? = some e ∧ seen.back? = some e.born)
  lt : ∀ i ∈ D, i < l.length
/-- The map's entries, as a list. -/
theorem list_of (hM : MapF kf vf H r g n) (hB : MapB H r) : ∃ l : List (κ × V), (l.map Prod.fst).Nodup ∧ (∀ k, g k = atL k l) ∧ l.length = n ∧ ∃ es c, H[r]? = some (.map es c) ∧ es.toList.map (fun e => (e.key, e.val)) = l.map (fun x => (kf x.1, vf x.2)) ∧ (es.toList.map (·.born)).Nodup ∧ ∀ e ∈ es.toList, e.born < c := by
  obtain ⟨es, c, l, h4, h5, h6, h7, h8⟩ := hM
  obtain ⟨es', c', hB0, hB1, hB2⟩ := hB
  rw [h4] at hB0
  simp only [Option.some.injEq, Obj.map.injEq] at hB0
  obtain ⟨rfl, rfl⟩ := hB0
  exact ⟨l, h6, h7, h8, es, c, h4, h5, hB1, hB2⟩
theorem hp_range {l : List (κ × V)} (ht : mapT P t = some (kt, z)) (hl : ∃ es c, H[r]? = some (.map es c) ∧ es.toList.map (fun e => (e.key, e.val)) = l.map (fun x => (kf x.1, vf x.2)) ∧ (es.toList.map (·.born)).Nodup ∧ ∀ e ∈ es.toList, e.born < c) {K : Value → Heap → Prop}
    (fin : ∀ H', It kf vf H' H.size r l [] → Fr (fun _ => False) H H' → K (.pointer (some ⟨H.size, 0, none⟩)) H') :
    semHp P (do pure (.value (← Instr.range t (.map (some r)))) : Sem Next) H (nextHp P K) := by
  obtain ⟨es, c, h1, h2, h3, h4⟩ := hl
  obtain ⟨ti, e, te, k1, k2, k3, rfl⟩ := mapT_spec ht
  have hlt : r < H.size := by
    rcases Nat.lt_or_ge r H.size with hb | hb
    · exact hb
    · rw [Array.getElem?_eq_none hb] at h1; cases h1
  refine hp_val ?_
  unfold Instr.range
  refine hp_rd (rd_underlying k1) ?_
  rw [k2]
  rw [semHp_bind']
  refine ⟨_, h1, rfl, ?_⟩
  refine fin _ ⟨⟨es, c, #[], ?_, ?_, h2, h3, h4, fun i e _ => by simp, fun i h => by cases h⟩, nofun⟩ ((Fr.refl _ _).push _)
  · rw [Array.getElem?_push, if_neg (by omega)]; exact h1
  · rw [Array.getElem?_push, if_pos rfl]
theorem hp_choose {α : Type} {m : Nat} (hm : 1 ≤ m) {k : Nat → Sem α} {K : α → Heap → Prop} (h : ∀ i, i < m → semHp P (k i) H K) : semHp P (choose (.mapNext m) >>= k) H K := by
  rw [semHp_bind']
  show (if (Question.mapNext m).forced = true then semHp P (.pure 0) H _ else ∀ t, semHp P (.pure ((Question.mapNext m).cut t)) H _)
  split
  · exact h 0 (by omega)
  · exact fun t => h (t % m) (Nat.mod_lt _ (by omega))
theorem hp_next {q : Nat} {l : List (κ × V)} {D : List Nat} {ty : TypeId} (hI : It kf vf H q r l D) {K : Value → Heap → Prop}
    (none : (∀ i, i < l.length → i ∈ D) → K (.tuple #[.bool false]) H)
    (some : ∀ i x H', l[i]? = some x → i ∉ D → It kf vf H' q r l (i :: D) → Fr (· = q) H H' → K (.tuple #[.bool true, kf x.1, vf x.2]) H') :
    semHp P (do pure (.value (← Instr.next (.pointer (.some ⟨q, 0, .none⟩)) false ty)) : Sem Next) H (nextHp P K) := by
  obtain ⟨⟨es, c, seen, h1, h2, h3, h4, h5, h6, h7⟩, hlt⟩ := hI
  have hqlt : q < H.size := by
    rcases Nat.lt_or_ge q H.size with hb | hb
    · exact hb
    · rw [Array.getElem?_eq_none hb] at h2; cases h2
  have hrq : r ≠ q := fun e => by rw [e, h2] at h1; cases h1
  have hsz : es.size = l.length := by simpa using congrArg List.length h3
  refine hp_val ?_
  unfold Instr.next
  refine hp_rd (Rd.getObj h2 rfl) ?_
  simp only []
  refine hp_rd (Rd.getObj h1 rfl) ?_
  simp only []
  have hno : (!seen.isEmpty && !es.isEmpty && es.all fun x => decide (x.born ≥ c)) = false := by
    rw [Bool.and_eq_false_iff]
    by_cases he : es.isEmpty = true
    · left; rw [he]; simp
    · right
      rw [Array.all_eq_false]
      have hpos : 0 < es.size := by
        rcases Nat.eq_zero_or_pos es.size with h0 | h0
        · exact absurd (by simpa using h0) he
        · exact h0
      exact ⟨0, hpos, by have := h5 es[0] (by simp); simp; omega⟩
  rw [if_neg (by rw [hno]; decide)]
  have hold : ∀ a : Array MapEntry, (∀ e ∈ a.toList, e.born < c) → a.filter (fun e => decide (e.born < c)) = a := fun a ha => by
    rw [Array.filter_eq_self]
    intro e he
    simpa using ha e (by simpa using he)
  have hnew : ∀ a : Array MapEntry, (∀ e ∈ a.toList, e.born < c) → a.filter (fun e => decide (e.born ≥ c)) = #[] := fun a ha => by
    rw [Array.filter_eq_empty_iff]
    intro e he
    have := ha e (by simpa using he)
    simp
    omega
  obtain ⟨left, hleft⟩ : ∃ left, left = es.filter fun e => !seen.contains e.born := ⟨_, rfl⟩
  have hlm : ∀ e, e ∈ left.toList ↔ e ∈ es.toList ∧ e.born ∉ seen.toList := fun e => by
    rw [hleft]
    simp
  have hlb : ∀ e ∈ left.toList, e.born < c := fun e he => h5 e ((hlm e).1 he).1
  rw [← hleft, hold left hlb, hnew left hlb, Array.append_empty]
  by_cases hemp : left.isEmpty = true
  · have e0 : left = #[] := by simpa using hemp
    rw [if_pos hemp, e0]
    refine hp_choose (by simp) fun i hi => ?_
    have : i = 0 := by simp at hi; omega
    subst this
    have hg0 : (#[Option.none] ++ Array.map Option.some (#[] : Array MapEntry))[0]? = Option.some Option.none := by simp
    rw [hg0]
    show K (.tuple #[.bool false]) H
    refine none fun i hi => ?_
    have he := (h6 i es[i] (Array.getElem?_eq_getElem (by omega))).1
    refine Classical.byContradiction fun hn => ?_
    have : es[i] ∈ left.toList := (hlm _).2 ⟨by simp, fun h => hn (he h)⟩
    rw [e0] at this
    cases this
  · rw [if_neg hemp]
    have hpos : 0 < left.size := by
      rcases Nat.eq_zero_or_pos left.size with h0 | h0
      · exact absurd (by simpa using h0) hemp
      · exact h0
    refine hp_choose (by simp; omega) fun j hj => ?_
    have hj' : j < left.size := by simpa using hj
    have hget : (#[] ++ left.map Option.some)[j]? = Option.some (Option.some left[j]) := by simp [hj']
    rw [hget]
    have hmem := (hlm left[j]).1 (by simp)
    obtain ⟨i, hi⟩ := List.mem_iff_getElem?.1 hmem.1
    rw [Array.getElem?_toList] at hi
    have hilt : i < es.size := (Array.getElem?_eq_some_iff.1 hi).1
    obtain ⟨x, hx⟩ : ∃ x, l[i]? = Option.some x := ⟨_, List.getElem?_eq_getElem (by omega)⟩
    have hkv : (left[j].key, left[j].val) = (kf x.1, vf x.2) := by
      have := congrArg (fun a => a[i]?) h3
      simp only [List.getElem?_map, Array.getElem?_toList, hi, hx, Option.map_some] at this
      exact Option.some.inj this
    obtain ⟨hk, hv⟩ := Prod.mk.inj hkv
    show semHp P (setObj q _ >>= fun _ => _) H _
    rw [semHp_bind']
    refine ⟨⟨_, h2, rfl⟩, ?_⟩
    show K (.tuple #[.bool true, left[j].key, left[j].val]) _
    rw [hk, hv]
    have hiD : i ∉ D := fun h => hmem.2 ((h6 i _ hi).2 h)
    refine some i x _ hx hiD ⟨⟨es, c, seen.push left[j].born, ?_, ?_, h3, h4, h5, fun i' e' he' => ?_, fun i' h' => ?_⟩, fun i' h' => ?_⟩ ⟨by simp, fun b _ hb => by rw [Array.getElem?_setIfInBounds_ne (Ne.symm hb)]⟩
    · rw [Array.getElem?_setIfInBounds_ne (Ne.symm hrq)]; exact h1
    · rw [Array.getElem?_setIfInBounds_self_of_lt hqlt]
    · rw [Array.toList_push, List.mem_append, List.mem_singleton, h6 i' e' he', List.mem_cons]
      constructor
      · rintro (h | h)
        · exact .inr h
        · left
          have a1 : (es.toList.map (·.born))[i']? = Option.some e'.born := by rw [List.getElem?_map, Array.getElem?_toList, he']; rfl
          have a2 : (es.toList.map (·.born))[i]? = Option.some e'.born := by rw [List.getElem?_map, Array.getElem?_toList, hi, h]; rfl
          exact (List.getElem?_inj (by rw [List.length_map, Array.length_toList]; exact (Array.getElem?_eq_some_iff.1 he').1) h4).1 (a1.trans a2.symm)
      · rintro (rfl | h)
        · right
          rw [hi] at he'
          rw [Option.some.inj he']
        · exact .inl h
    · simp only [List.head?_cons, Option.some.injEq] at h'
      subst h'
      exact ⟨_, hi, by simp⟩
    · rcases List.mem_cons.1 h' with rfl | h'
      · omega
      · exact hlt i' h'
theorem hp_entry {q i : Nat} {l : List (κ × V)} {D : List Nat} {x : κ × V} (hI : It kf vf H q r l (i :: D)) (hx : l[i]? = some x) {K : Value → Heap → Prop} (h : K (.tuple #[kf x.1, vf x.2]) H) :
    semHp P (do pure (.value (← Instr.entry (.pointer (some ⟨q, 0, none⟩)))) : Sem Next) H (nextHp P K) := by
  obtain ⟨⟨es, c, seen, h1, h2, h3, h4, h5, h6, h7⟩, hlt⟩ := hI
  obtain ⟨e, he, hb⟩ := h7 i rfl
  have hkv : (e.key, e.val) = (kf x.1, vf x.2) := by
    have := congrArg (fun a => a[i]?) h3
    simp only [List.getElem?_map, Array.getElem?_toList, he, hx, Option.map_some] at this
    exact Option.some.inj this
  obtain ⟨hk, hv⟩ := Prod.mk.inj hkv
  refine hp_val ?_
  unfold Instr.entry
  refine hp_rd (Rd.getObj h2 rfl) ?_
  simp only []
  rw [hb]
  simp only []
  refine hp_rd (Rd.getObj h1 rfl) ?_
  simp only [bne_self_eq_false, Bool.false_eq_true, if_false]
  have hf : es.find? (fun y => y.born == e.born) = some e := by
    have hmem : e ∈ es := Array.mem_of_getElem? he
    cases hfd : es.find? (fun y => y.born == e.born) with
    | none => rw [Array.find?_eq_none] at hfd; exact absurd (hfd e hmem) (by simp)
    | some y =>
      have hy1 : y.born = e.born := by simpa using Array.find?_some hfd
      obtain ⟨j, hj⟩ := Array.mem_iff_getElem?.1 (Array.mem_of_find?_eq_some hfd)
      have a1 : (es.toList.map (·.born))[j]? = some e.born := by rw [List.getElem?_map, Array.getElem?_toList, hj, Option.map_some, hy1]
      have a2 : (es.toList.map (·.born))[i]? = some e.born := by rw [List.getElem?_map, Array.getElem?_toList, he]; rfl
      have : j = i := (List.getElem?_inj (by rw [List.length_map, Array.length_toList]; exact (Array.getElem?_eq_some_iff.1 hj).1) h4).1 (a1.trans a2.symm)
      subst this
      rw [hj] at he
      exact he
  rw [hf]
  show K (.tuple #[e.key, e.val]) H
  rw [hk, hv]
  exact h
theorem It.frame {S : Nat → Prop} {q : Nat} {l : List (κ × V)} {D : List Nat} (h : It kf vf H q r l D) (hf : Fr S H H') (hq : ¬ S q) (hr : ¬ S r) : It kf vf H' q r l D := by
  obtain ⟨⟨es, c, seen, h1, h2, h3⟩, hlt⟩ := h
  have l1 : r < H.size := (Array.getElem?_eq_some_iff.1 h1).1
  have l2 : q < H.size := (Array.getElem?_eq_some_iff.1 h2).1
  exact ⟨⟨es, c, seen, by rw [hf.same r l1 hr]; exact h1, by rw [hf.same q l2 hq]; exact h2, h3⟩, hlt⟩
end
end Go.Hp
