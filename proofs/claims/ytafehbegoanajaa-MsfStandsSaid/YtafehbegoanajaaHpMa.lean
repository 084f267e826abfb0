/-
  Maps over a heap, told by what each key has: looked up, laid, deleted, counted, made.
-/
import Derived.Test.YtafehbegoanajaaHpY
import Derived.Test.YtafehbegoanajaaHpU
namespace Go.Hp
open Go
set_option linter.unusedVariables false
set_option linter.unusedSimpArgs false
section
variable {κ V : Type} [DecidableEq κ]
/-- Where a key stands in a list, and what it has. -/
def findL (k : κ) : List (κ × Value) → Nat → Option (Nat × Value)
  | [], _ => none
  | (k', v) :: l, i => if k = k' then some (i, v) else findL k l (i + 1)
def Ent (kf : κ → Value) (es : List MapEntry) (l : List (κ × Value)) : Prop := es.map (fun e => (e.key, e.val)) = l.map (fun x => (kf x.1, x.2))
/-- A type whose values are keys that are compared as told. -/
structure KeyT (P : Program) (kt : TypeId) (kf : κ → Value) : Prop where
  check : ∀ H b k, Rd P H (Instr.checkKey b 10000 kt (kf k)) ()
  find : ∀ H k (es : List MapEntry) (l : List (κ × Value)), Ent kf es l → Rd P H (Instr.findKey kt (kf k) es) (findL k l 0)
  bits : ∀ k, Instr.sameBits 10000 (kf k) (kf k) = true
def mapT (P : Program) (t : TypeId) : Option (TypeId × Value) :=
  match tab P t with
  | some ti => match ti.desc with
    | .map k e => match tab P e with
      | some te => some (k, te.zero)
      | none => none
    | _ => none
  | none => none
theorem mapT_spec {P : Program} {t kt : TypeId} {z : Value} (h : mapT P t = some (kt, z)) : ∃ ti e te, tab P t = some ti ∧ ti.desc = .map kt e ∧ tab P e = some te ∧ te.zero = z := by
  unfold mapT at h
  split at h
  · rename_i ti ht
    split at h
    · rename_i k e hd
      split at h
      · rename_i te he
        simp only [Option.some.injEq, Prod.mk.injEq] at h
        obtain ⟨rfl, rfl⟩ := h
        exact ⟨ti, e, te, ht, hd, he, rfl⟩
      · cases h
    · cases h
  · cases h
/-- What a key has in a list. -/
def atL (k : κ) : List (κ × V) → Option V
  | [] => none
  | (k', v) :: l => if k = k' then some v else atL k l
/-- A map's block: what each key has (g), how many there are. -/
def MapF (kf : κ → Value) (vf : V → Value) (H : Heap) (r : Nat) (g : κ → Option V) (n : Nat) : Prop :=
  ∃ es c, ∃ l : List (κ × V), H[r]? = some (.map es c) ∧ es.toList.map (fun e => (e.key, e.val)) = l.map (fun x => (kf x.1, vf x.2)) ∧ (l.map Prod.fst).Nodup ∧ (∀ k, g k = atL k l) ∧ l.length = n
variable {P : Program} {H H' : Heap} {kf : κ → Value} {vf : V → Value} {r n : Nat} {g : κ → Option V} {t kt : TypeId} {z : Value}
theorem MapF.lt (h : MapF kf vf H r g n) : r < H.size := by
  obtain ⟨es, c, l, h, _⟩ := h
  rcases Nat.lt_or_ge r H.size with hb | hb
  · exact hb
  · rw [Array.getElem?_eq_none hb] at h; cases h
theorem MapF.frame {S : Nat → Prop} (h : MapF kf vf H r g n) (hf : Fr S H H') (hr : ¬ S r) : MapF kf vf H' r g n := by
  have := h.lt
  obtain ⟨es, c, l, h1, h2⟩ := h
  exact ⟨es, c, l, by rw [hf.same r this hr]; exact h1, h2⟩
theorem MapF.isMap (h : MapF kf vf H r g n) : isMap H r := by
  obtain ⟨es, c, l, h1, h2⟩ := h
  exact ⟨es, c, h1⟩
theorem MapF.make (kf : κ → Value) (vf : V → Value) (H : Heap) : MapF kf vf (H.push (.map #[] 0)) H.size (fun _ => none) 0 :=
  ⟨#[], 0, [], by rw [Array.getElem?_push, if_pos rfl], rfl, List.nodup_nil, fun _ => rfl, rfl⟩
theorem MapF.congr {g' : κ → Option V} (h : MapF kf vf H r g n) (hg : ∀ k, g' k = g k) : MapF kf vf H r g' n := by
  have : g' = g := funext hg
  rw [this]; exact h
theorem findL_atL (k : κ) : ∀ (l : List (κ × V)) (i : Nat), (findL k (l.map fun x => (x.1, vf x.2)) i).map Prod.snd = (atL k l).map vf
  | [], i => rfl
  | (k', v) :: l, i => by
    simp only [List.map_cons, findL, atL]
    split
    · rfl
    · exact findL_atL k l (i + 1)
theorem findL_some {k : κ} : ∀ {l : List (κ × Value)} {i j : Nat} {v : Value}, findL k l i = some (j, v) → i ≤ j ∧ l[j - i]? = some (k, v)
  | [], i, j, v, h => by cases h
  | (k', u) :: l, i, j, v, h => by
    unfold findL at h
    split at h
    · rename_i e
      subst e
      simp only [Option.some.injEq, Prod.mk.injEq] at h
      obtain ⟨rfl, rfl⟩ := h
      simp
    · obtain ⟨h1, h2⟩ := findL_some h
      refine ⟨by omega, ?_⟩
      rw [show j - i = (j - (i + 1)) + 1 by omega]
      simpa using h2
def gotV (z : Value) (ok : Bool) : Option Value → Value
  | some v => if ok then .tuple #[v, .bool true] else v
  | none => if ok then .tuple #[z, .bool false] else z
theorem rd_lookupF (ht : mapT P t = some (kt, z)) (hk : KeyT P kt kf) (hM : MapF kf vf H r g n) (k : κ) (ok : Bool) : Rd P H (Instr.lookup t (.map (some r)) (kf k) ok) (gotV z ok ((g k).map vf)) := by
  obtain ⟨ti, e, te, h1, h2, h3, rfl⟩ := mapT_spec ht
  obtain ⟨es, c, l, h4, h5, h6, h7, h8⟩ := hM
  have hf := hk.find H k es.toList (l.map fun x => (x.1, vf x.2)) (by unfold Ent; rw [h5, List.map_map]; rfl)
  have ha := findL_atL (vf := vf) k l 0
  rw [← h7] at ha
  unfold Instr.lookup
  refine Rd.bind (rd_underlying h1) ?_
  rw [h2]
  refine Rd.bind (x := .map es c) (Rd.getObj h4 rfl) (Rd.bind (x := es) (Rd.ret _) (Rd.bind (x := ()) (hk.check H _ k) (Rd.bind hf ?_)))
  cases hq : findL k (l.map fun x => (x.1, vf x.2)) 0 with
  | none =>
    rw [hq] at ha
    rw [show (g k).map vf = none from ha.symm]
    exact Rd.bind (rd_zeroValue h3) (Rd.bind (x := (te.zero, false)) (Rd.ret _) (Rd.ret _))
  | some p =>
    rw [hq] at ha
    rw [show (g k).map vf = some p.2 from ha.symm]
    exact Rd.bind (x := (p.2, true)) (Rd.ret _) (Rd.ret _)
theorem rd_lookupQ (ht : mapT P t = some (kt, z)) (hk : KeyT P kt kf) (hM : MapF kf vf H r g n) (k : κ) (ok : Bool) {K : Value → Prop} (h : K (gotV z ok ((g k).map vf))) :
    ∃ v, Rd P H (do pure (.value (← Instr.lookup t (.map (some r)) (kf k) ok)) : Sem Next) (.value v) ∧ K v := ⟨_, Rd.value (rd_lookupF ht hk hM k ok), h⟩
theorem rd_lenF (ht : mapT P t = some (kt, z)) (hM : MapF kf vf H r g n) {ty : TypeId} : Rd P H (Builtin.len_ #[t] ty #[.map (some r)]) (.int .i64 (n : Nat)) := by
  obtain ⟨ti, e, te, h1, h2, h3, rfl⟩ := mapT_spec ht
  obtain ⟨es, c, l, h4, h5, h6, h7, h8⟩ := hM
  have hs : es.size = n := by
    have := congrArg List.length h5
    simpa [h8] using this
  have hu := rd_underlying (H := H) h1
  rw [h2] at hu
  refine Rd.bind hu ?_
  rw [← hs]
  exact Rd.bind (Rd.getObj h4 rfl) (Rd.ret _)
theorem atL_none {k : κ} : ∀ {l : List (κ × V)}, atL k l = none ↔ k ∉ l.map Prod.fst
  | [] => by simp [atL]
  | (k', v) :: l => by
    unfold atL
    by_cases h : k = k'
    · simp [h]
    · rw [if_neg h, atL_none]
      simp [h]
theorem atL_append {k : κ} : ∀ {l m : List (κ × V)}, atL k (l ++ m) = (atL k l).or (atL k m)
  | [], m => by simp [atL]
  | (k', v) :: l, m => by
    simp only [List.cons_append, atL]
    by_cases h : k = k'
    · simp [h]
    · rw [if_neg h, if_neg h, atL_append]
theorem atL_mem {k : κ} {v : V} : ∀ {l : List (κ × V)}, (l.map Prod.fst).Nodup → ((k, v) ∈ l ↔ atL k l = some v)
  | [], _ => by simp [atL]
  | (k', u) :: l, h => by
    simp only [List.map_cons, List.nodup_cons] at h
    unfold atL
    by_cases e : k = k'
    · subst e
      simp only [List.mem_cons, Prod.mk.injEq, true_and, if_true, Option.some.injEq]
      constructor
      · rintro (rfl | hm)
        · rfl
        · exact absurd (List.mem_map.2 ⟨_, hm, rfl⟩) h.1
      · rintro rfl; exact .inl rfl
    · rw [if_neg e, ← atL_mem h.2]
      simp [e]
theorem setMap_ne {H : Heap} {r b : Nat} {o : Obj} (h : b ≠ r) : (H.setIfInBounds r o)[b]? = H[b]? := Array.getElem?_setIfInBounds_ne (Ne.symm h)
theorem atL_set {k : κ} {u w : V} : ∀ {l : List (κ × V)} {i : Nat}, (l.map Prod.fst).Nodup → l[i]? = some (k, u) → ∀ j, atL j (l.set i (k, w)) = if j = k then some w else atL j l
  | [], i, _, h, _ => by cases h
  | y :: l, 0, hn, h, j => by
    simp only [List.getElem?_cons_zero, Option.some.injEq] at h
    subst h
    simp only [List.set_cons_zero, atL]
    split <;> rfl
  | (y1, y2) :: l, i + 1, hn, h, j => by
    simp only [List.getElem?_cons_succ] at h
    simp only [List.map_cons, List.nodup_cons] at hn
    simp only [List.set_cons_succ]
    unfold atL
    rw [atL_set hn.2 h]
    by_cases e1 : j = y1
    · rw [if_pos e1, if_pos e1]
      have : j ≠ k := by
        rintro rfl
        subst e1
        exact hn.1 (List.mem_map.2 ⟨_, List.mem_of_getElem? h, rfl⟩)
      rw [if_neg this]
    · rw [if_neg e1, if_neg e1]
theorem erase_filter {k : κ} : ∀ {l : List (κ × V)} {i : Nat}, (l.map Prod.fst).Nodup → l[i]?.map Prod.fst = some k → l.eraseIdx i = l.filter fun x => x.1 ≠ k
  | [], i, _, h => by cases h
  | y :: l, 0, hn, h => by
    simp at h
    subst h
    simp only [List.map_cons, List.nodup_cons] at hn
    rw [List.eraseIdx_cons_zero, List.filter_cons_of_neg (by simp)]
    symm
    rw [List.filter_eq_self]
    intro x hx
    simp only [ne_eq, decide_not, Bool.not_eq_true', decide_eq_false_iff_not]
    intro e'
    exact hn.1 (List.mem_map.2 ⟨x, hx, e'⟩)
  | y :: l, i + 1, hn, h => by
    simp only [List.getElem?_cons_succ] at h
    simp only [List.map_cons, List.nodup_cons] at hn
    have hy : y.1 ≠ k := by
      intro e'
      cases hx : l[i]? with
      | none => rw [hx] at h; cases h
      | some x =>
        rw [hx] at h
        simp at h
        exact hn.1 (List.mem_map.2 ⟨x, List.mem_of_getElem? hx, by rw [e', h]⟩)
    rw [List.eraseIdx_cons_succ, List.filter_cons_of_pos (by simp [hy]), erase_filter hn.2 h]
theorem map_erase {α β : Type} (f : α → β) : ∀ (l : List α) (i : Nat), (l.eraseIdx i).map f = (l.map f).eraseIdx i
  | [], i => rfl
  | x :: l, 0 => rfl
  | x :: l, i + 1 => by simp only [List.eraseIdx_cons_succ, List.map_cons]; rw [map_erase f l i]
/-- m[k] = v -/
theorem hp_updF (ht : mapT P t = some (kt, z)) (hk : KeyT P kt kf) (hM : MapF kf vf H r g n) (k : κ) (v : V) {K : Value → Heap → Prop}
    (fin : ∀ H', MapF kf vf H' r (fun j => if j = k then some v else g j) (if (g k).isSome then n else n + 1) → Fr (· = r) H H' → H'.size = H.size → (∀ a, hcell H' a = hcell H a) → K undef H') :
    semHp P (do Instr.mapUpdate t (.map (some r)) (kf k) (vf v); pure Next.skip) H (nextHp P K) := by
  have hM0 := hM
  obtain ⟨ti, e, te, h1, h2, h3, rfl⟩ := mapT_spec ht
  obtain ⟨es, c, l, h4, h5, h6, h7, h8⟩ := hM
  have hE : Ent kf es.toList (l.map fun x => (x.1, vf x.2)) := by unfold Ent; rw [h5, List.map_map]; rfl
  have hf := hk.find H k es.toList _ hE
  have ha := findL_atL (vf := vf) k l 0
  rw [← h7] at ha
  have hcells : ∀ (es' : Array MapEntry) (c' : Nat) (a : Addr), hcell (H.setIfInBounds r (.map es' c')) a = hcell H a := fun es' c' a => hcell_setMap ⟨es, c, h4⟩ a
  have hfr : ∀ (es' : Array MapEntry) (c' : Nat), Fr (· = r) H (H.setIfInBounds r (.map es' c')) := fun es' c' => Fr.setMap (S := (· = r)) (Fr.refl _ H) (.inl rfl) _
  rw [semHp_bind']
  unfold Instr.mapUpdate
  refine hp_rd (rd_underlying h1) ?_
  rw [h2]
  refine hp_rd (Rd.getObj h4 rfl) (hp_rd (hk.check H _ k) (hp_rd hf ?_))
  cases hq : findL k (l.map fun x => (x.1, vf x.2)) 0 with
  | none =>
    rw [hq] at ha
    have hg : g k = none := by cases hh : g k with
      | none => rfl
      | some w => rw [hh] at ha; cases ha
    refine ⟨⟨_, h4, rfl⟩, ?_⟩
    refine fin _ ⟨es.push { key := kf k, val := vf v, born := c }, c + 1, l ++ [(k, v)], setMap_same ⟨es, c, h4⟩, by simp [h5], ?_, fun j => ?_, by simp [hg, h8]⟩ (hfr _ _) (by simp) (hcells _ _)
    · rw [List.map_append, List.nodup_append]
      refine ⟨h6, by simp, fun a ha' b hb => ?_⟩
      simp at hb
      subst hb
      rintro rfl
      rw [h7, atL_none] at hg
      exact hg ha'
    · show (if j = k then some v else g j) = _
      rw [atL_append]
      by_cases e : j = k
      · subst e
        rw [← h7, hg]; simp [atL]
      · rw [if_neg e, ← h7]
        simp [atL, e]
  | some p =>
    obtain ⟨i, u⟩ := p
    rw [hq] at ha
    obtain ⟨_, hl⟩ := findL_some hq
    rw [Nat.sub_zero] at hl
    have hgs : (g k).isSome = true := by
      cases hh : g k with
      | none => rw [hh] at ha; cases ha
      | some w => rfl
    obtain ⟨⟨k', u'⟩, hl1, hl2⟩ : ∃ x, l[i]? = some x ∧ (x.1, vf x.2) = (k, u) := by
      rw [List.getElem?_map] at hl
      cases hx : l[i]? with
      | none => rw [hx] at hl; cases hl
      | some x => rw [hx] at hl; exact ⟨x, rfl, Option.some.inj hl⟩
    obtain ⟨rfl, rfl⟩ := Prod.mk.inj hl2
    obtain ⟨en, he1, he2⟩ : ∃ en, es[i]? = some en ∧ (en.key, en.val) = (kf k', vf u') := by
      have := congrArg (fun q => q[i]?) h5
      simp only [List.getElem?_map, hl1, Array.getElem?_toList, Option.map_some] at this
      cases hx : es[i]? with
      | none => rw [hx] at this; cases this
      | some x => rw [hx] at this; exact ⟨x, rfl, Option.some.inj this⟩
    obtain ⟨he3, he4⟩ := Prod.mk.inj he2
    simp only []
    refine hp_rd (x := kf k') ?_ ⟨⟨_, h4, rfl⟩, ?_⟩
    · unfold Instr.keyThatStays
      have : Instr.sameBits 10000 (((es[i]?).map (·.key)).getD (kf k')) (kf k') = true := by
        rw [he1]; simp only [Option.map_some, Option.getD_some, he3]; exact hk.bits k'
      rw [if_pos this]
      exact Rd.ret _
    · have hi : i < l.length := (List.getElem?_eq_some_iff.1 hl1).1
      have hset : ∀ j w, atL j (l.set i (k', w)) = if j = k' then some w else atL j l := fun j w => atL_set h6 hl1 j
      refine fin _ ⟨es.modify i fun e => { e with key := kf k', val := vf v }, c, l.set i (k', v), setMap_same ⟨es, c, h4⟩, ?_, ?_, fun j => ?_, by simp [hgs, h8]⟩ (hfr _ _) (by simp) (hcells _ _)
      · apply List.ext_getElem?
        intro j
        have := congrArg (fun q => q[j]?) h5
        simp only [List.getElem?_map, Array.getElem?_toList] at this
        simp only [List.getElem?_map, Array.getElem?_toList, Array.getElem?_modify, List.getElem?_set]
        by_cases e : i = j
        · subst e
          rw [if_pos rfl, he1, if_pos rfl, if_pos hi]; rfl
        · rw [if_neg e, if_neg e]; exact this
      · rw [List.map_set]
        have : (l.map Prod.fst).set i k' = l.map Prod.fst := by
          apply List.ext_getElem?
          intro j
          rw [List.getElem?_set]
          by_cases e : i = j
          · subst e
            rw [if_pos rfl, List.length_map, if_pos hi, List.getElem?_map, hl1]; rfl
          · rw [if_neg e]
        rw [this]; exact h6
      · show (if j = k' then some v else g j) = _
        rw [hset, h7]
theorem atL_filter {k : κ} : ∀ {l : List (κ × V)} (j : κ), atL j (l.filter fun x => x.1 ≠ k) = if j = k then none else atL j l
  | [], j => by simp [atL]
  | (k', v) :: l, j => by
    by_cases e : k' = k
    · rw [List.filter_cons_of_neg (by simp [e]), atL_filter]
      by_cases e2 : j = k
      · rw [if_pos e2, if_pos e2]
      · rw [if_neg e2, if_neg e2]
        unfold atL
        rw [if_neg (by rw [e]; exact e2)]
        cases l <;> rfl
    · rw [List.filter_cons_of_pos (by simp [e])]
      unfold atL
      rw [atL_filter]
      by_cases e2 : j = k
      · rw [if_pos e2, if_pos e2, if_neg (by rw [e2]; exact fun h => e h.symm)]
      · rw [if_neg e2, if_neg e2]
theorem findL_none {k : κ} : ∀ {l : List (κ × Value)} {i : Nat}, findL k l i = none → ∀ x ∈ l, x.1 ≠ k
  | [], i, _, x, hx => by cases hx
  | (k', v) :: l, i, h, x, hx => by
    unfold findL at h
    split at h
    · cases h
    · rename_i e
      rcases List.mem_cons.1 hx with rfl | hx
      · exact fun e' => e e'.symm
      · exact findL_none h x hx
theorem findL_erase {k : κ} : ∀ {l : List (κ × Value)} {i j : Nat} {v : Value}, (l.map Prod.fst).Nodup → findL k l i = some (j, v) → l.eraseIdx (j - i) = l.filter fun x => x.1 ≠ k
  | [], i, j, v, _, h => by cases h
  | (k', u) :: l, i, j, v, hn, h => by
    simp only [List.map_cons, List.nodup_cons] at hn
    unfold findL at h
    split at h
    · rename_i e
      subst e
      simp only [Option.some.injEq, Prod.mk.injEq] at h
      obtain ⟨rfl, rfl⟩ := h
      rw [Nat.sub_self, List.eraseIdx_cons_zero, List.filter_cons_of_neg (by simp)]
      symm
      rw [List.filter_eq_self]
      intro x hx
      simp only [ne_eq, decide_not, Bool.not_eq_true', decide_eq_false_iff_not]
      rintro rfl
      exact hn.1 (List.mem_map.2 ⟨x, hx, rfl⟩)
    · rename_i e
      obtain ⟨h1, _⟩ := findL_some h
      rw [show j - i = (j - (i + 1)) + 1 by omega, List.eraseIdx_cons_succ, List.filter_cons_of_pos (by simp; exact fun h => e h.symm), findL_erase hn.2 h]
/-- delete(m, k) -/
theorem hp_delF (ht : mapT P t = some (kt, z)) (hk : KeyT P kt kf) (hM : MapF kf vf H r g n) (k : κ) {a1 : TypeId} {ty : TypeId} {K : Value → Heap → Prop}
    (fin : ∀ H', MapF kf vf H' r (fun j => if j = k then none else g j) (if (g k).isSome then n - 1 else n) → Fr (· = r) H H' → H'.size = H.size → (∀ a, hcell H' a = hcell H a) → K (.tuple #[]) H') :
    semHp P (do pure (.value (← Builtin.delete_ #[t, a1] ty #[.map (some r), kf k])) : Sem Next) H (nextHp P K) := by
  obtain ⟨ti, e, te, h1, h2, h3, rfl⟩ := mapT_spec ht
  obtain ⟨es, c, l, h4, h5, h6, h7, h8⟩ := hM
  have hE : Ent kf es.toList (l.map fun x => (x.1, vf x.2)) := by unfold Ent; rw [h5, List.map_map]; rfl
  have hf := hk.find H k es.toList _ hE
  have ha := findL_atL (vf := vf) k l 0
  rw [← h7] at ha
  have hcells : ∀ (es' : Array MapEntry) (c' : Nat) (a : Addr), hcell (H.setIfInBounds r (.map es' c')) a = hcell H a := fun es' c' a => hcell_setMap ⟨es, c, h4⟩ a
  have hfr : ∀ (es' : Array MapEntry) (c' : Nat), Fr (· = r) H (H.setIfInBounds r (.map es' c')) := fun es' c' => Fr.setMap (S := (· = r)) (Fr.refl _ H) (.inl rfl) _
  have hu := rd_underlying (H := H) h1
  rw [h2] at hu
  rw [semHp_bind']
  unfold Builtin.delete_
  refine hp_rd hu ?_
  refine hp_rd (Rd.getObj h4 rfl) (hp_rd (hk.check H _ k) (hp_rd hf ?_))
  cases hq : findL k (l.map fun x => (x.1, vf x.2)) 0 with
  | none =>
    rw [hq] at ha
    have hg : g k = none := by cases hh : g k with
      | none => rfl
      | some w => rw [hh] at ha; cases ha
    refine ⟨⟨_, h4, rfl⟩, ?_⟩
    refine fin _ ⟨es, c, l, setMap_same ⟨es, c, h4⟩, h5, h6, fun j => ?_, by simp [hg, h8]⟩ (hfr _ _) (by simp) (hcells _ _)
    show (if j = k then none else g j) = _
    by_cases e : j = k
    · subst e; rw [if_pos rfl, ← h7, hg]
    · rw [if_neg e, h7]
  | some p =>
    obtain ⟨i, u⟩ := p
    rw [hq] at ha
    have hgs : (g k).isSome = true := by
      cases hh : g k with
      | none => rw [hh] at ha; cases ha
      | some w => rfl
    have hnd : ((l.map fun x => (x.1, vf x.2)).map Prod.fst).Nodup := by rw [List.map_map]; exact h6
    have her := findL_erase hnd hq
    rw [Nat.sub_zero] at her
    obtain ⟨_, hl⟩ := findL_some hq
    rw [Nat.sub_zero] at hl
    have hi : i < l.length := by simpa using (List.getElem?_eq_some_iff.1 hl).1
    have hsz : es.size = l.length := by simpa using congrArg List.length h5
    have hel : l.eraseIdx i = l.filter fun x => x.1 ≠ k := by
      refine erase_filter h6 ?_
      rw [List.getElem?_map] at hl
      cases hx : l[i]? with
      | none => rw [hx] at hl; cases hl
      | some x => rw [hx] at hl; simp at hl; simp [hl.1]
    refine ⟨⟨_, h4, rfl⟩, ?_⟩
    refine fin _ ⟨es.eraseIdxIfInBounds i, c, l.eraseIdx i, setMap_same ⟨es, c, h4⟩, ?_, ?_, fun j => ?_, by rw [List.length_eraseIdx, if_pos hi, hgs, h8]; rfl⟩ (hfr _ _) (by simp) (hcells _ _)
    · rw [Array.toList_eraseIdxIfInBounds]
      rw [map_erase, map_erase, h5]
    · rw [hel]
      exact (List.filter_sublist.map Prod.fst).nodup h6
    · show (if j = k then none else g j) = _
      rw [hel, atL_filter, h7]
omit [DecidableEq κ] in
theorem Ent.cons_inv {e : MapEntry} {es : List MapEntry} {x : κ × Value} {l : List (κ × Value)} (h : Ent kf (e :: es) (x :: l)) : e.key = kf x.1 ∧ e.val = x.2 ∧ Ent kf es l := by
  simp only [Ent, List.map_cons, List.cons.injEq, Prod.mk.injEq] at h
  exact ⟨h.1.1, h.1.2, h.2⟩
end
/-! ### keys that are whole numbers -/
def intK (i : Int) : Value := .int .i64 i
theorem keyInt {P : Program} {kt : TypeId} {tk : TI} (h : tab P kt = some tk) (hd : tk.desc = .int .i64) : KeyT P kt intK where
  check H b k := rd_checkKey h (by rw [hd]; rfl) b _
  find H k es l hE := by
    refine rd_findKey h ?_
    rw [hd]
    have : ∀ (l : List (Int × Value)) (es : List MapEntry) (i : Nat), Ent intK es l → Instr.findNow (.int .i64) (intK k) es i = some (findL k l i) := by
      intro l
      induction l with
      | nil =>
        intro es i hE
        cases es with
        | nil => rfl
        | cons e es => simp [Ent] at hE
      | cons x l ih =>
        intro es i hE
        cases es with
        | nil => simp [Ent] at hE
        | cons e es =>
          obtain ⟨h1, h2, h3⟩ := hE.cons_inv
          obtain ⟨x1, x2⟩ := x
          simp only [intK] at h1
          unfold Instr.findNow findL
          simp only [intK, h1, Instr.sameNow, if_true]
          by_cases e' : k = x1
          · simp only [e', beq_self_eq_true, if_true, h2]
          · have : (k == x1) = false := by simp [e']
            simp only [this, e', if_false]
            exact ih es (i + 1) h3
    exact this l es.toArray.toList 0 (by simpa using hE)
  bits k := by simp [intK, Instr.sameBits]
/-! ### keys that are pairs of whole numbers, as arrays -/
def arrK (p : Int × Int) : Value := .agg #[.int .i64 p.1, .int .i64 p.2]
theorem rd_checkInt {P : Program} {H : Heap} {kt : TypeId} {tk : TI} (h : tab P kt = some tk) (hd : tk.desc = .int .i64) (b : Bool) (n : Nat) (v : Value) : Rd P H (Instr.checkKey b (n + 1) kt v) () := by
  unfold Instr.checkKey
  refine Rd.bind (rd_underlying h) ?_
  rw [hd]
  exact Rd.ret _
theorem rd_findAsking {κ : Type} [DecidableEq κ] {P : Program} {H : Heap} {kt : TypeId} {kf : κ → Value} (he : ∀ a b, Rd P H (Op.equal kt (kf a) (kf b)) (decide (a = b))) (k : κ) :
    ∀ (l : List (κ × Value)) (es : List MapEntry) (i : Nat), Ent kf es l → Rd P H (Instr.findAsking kt (kf k) es i) (findL k l i) := by
  intro l
  induction l with
  | nil =>
    intro es i hE
    cases es with
    | nil => exact Rd.ret _
    | cons e es => simp [Ent] at hE
  | cons x l ih =>
    intro es i hE
    cases es with
    | nil => simp [Ent] at hE
    | cons e es =>
      obtain ⟨h1, h2, h3⟩ := hE.cons_inv
      obtain ⟨x1, x2⟩ := x
      simp only at h1 h2
      unfold Instr.findAsking findL
      rw [h1]
      refine Rd.bind (he k x1) ?_
      by_cases e' : k = x1
      · simp only [e', decide_true, if_true, h2]; exact Rd.ret _
      · simp only [e', decide_false, if_false, Bool.false_eq_true]
        exact ih es (i + 1) h3
theorem keyT_of {κ : Type} [DecidableEq κ] {P : Program} {kt : TypeId} {tk : TI} {kf : κ → Value} (h : tab P kt = some tk) (hn : ∀ x y, Instr.sameNow tk.desc x y = none) (hc : ∀ H b k, Rd P H (Instr.checkKey b 10000 kt (kf k)) ())
    (he : ∀ H a b, Rd P H (Op.equal kt (kf a) (kf b)) (decide (a = b))) (hb : ∀ k, Instr.sameBits 10000 (kf k) (kf k) = true) : KeyT P kt kf where
  check := hc
  bits := hb
  find H k es l hE := by
    unfold Instr.findKey
    refine Rd.bind (rd_underlying h) ?_
    cases es with
    | nil =>
      cases l with
      | nil => exact Rd.ret _
      | cons x l => simp [Ent] at hE
    | cons e es =>
      have : Instr.findNow tk.desc (kf k) (e :: es) 0 = none := by
        unfold Instr.findNow
        rw [hn]
      rw [this]
      exact rd_findAsking (he H) k l _ 0 hE
theorem rd_part_int {P : Program} {H : Heap} {e : TypeId} {te : TI} (h : tab P e = some te) (hd : te.desc = .int .i64) {cs : Array Value} {i : Nat} {v : Value} (hv : cs[i]? = some v) : Rd P H (part e cs i) v :=
  rd_int_part h (by rw [hd]; rfl) hv
theorem keyArr {P : Program} {kt e : TypeId} {tk te : TI} (h : tab P kt = some tk) (hd : tk.desc = .array 2 e) (hE : tab P e = some te) (hed : te.desc = .int .i64) (hs : te.size = 1) : KeyT P kt arrK := by
  refine keyT_of h ?_ ?_ ?_ ?_
  · intro x y
    rw [hd]
    unfold Instr.sameNow
    rfl
  · intro H b k
    unfold Instr.checkKey
    have hu := rd_underlying (H := H) h
    rw [hd] at hu
    refine Rd.bind hu ?_
    simp only [arrK]
    rw [Std.Legacy.Range.forIn_eq_forIn_range']
    have er : List.range' ([0:2] : Std.Legacy.Range).start ([0:2] : Std.Legacy.Range).size ([0:2] : Std.Legacy.Range).step = [0, 1] := by
      simp [Std.Legacy.Range.size, List.range']
    rw [er]
    refine Rd.bind (x := PUnit.unit) ?_ (Rd.ret _)
    rw [List.forIn_cons]
    refine Rd.bind (x := ForInStep.yield PUnit.unit) ?_ ?_
    · refine Rd.bind (rd_sizeOf hE) (Rd.bind (rd_part_int hE hed (v := .int .i64 k.1) (by simp)) (Rd.bind (rd_checkInt hE hed _ _ _) (Rd.ret _)))
    · simp only []
      rw [List.forIn_cons]
      refine Rd.bind (x := ForInStep.yield PUnit.unit) ?_ ?_
      · refine Rd.bind (rd_sizeOf hE) (Rd.bind (rd_part_int hE hed (v := .int .i64 k.2) (by rw [hs]; simp)) (Rd.bind (rd_checkInt hE hed _ _ _) (Rd.ret _)))
      · exact Rd.ret _
  · intro H a b
    have hu := rd_underlying (H := H) h
    rw [hd] at hu
    unfold Op.equal Op.maxDepth Op.equalIn
    refine Rd.bind hu ?_
    simp only [arrK]
    refine Rd.bind (rd_sizeOf hE) ?_
    rw [Std.Legacy.Range.forIn_eq_forIn_range']
    have er : List.range' ([0:2] : Std.Legacy.Range).start ([0:2] : Std.Legacy.Range).size ([0:2] : Std.Legacy.Range).step = [0, 1] := by
      simp [Std.Legacy.Range.size, List.range']
    rw [er]
    refine Rd.bind (x := if decide (a = b) then (none, ()) else (some false, ())) ?_ ?_
    · rw [List.forIn_cons]
      have i1 : Rd P H (Op.equalIn 9999 e (.int .i64 a.1) (.int .i64 b.1)) (a.1 == b.1) := rd_equal_scalar hE 9998 (by rw [hed]; simp [kindD, sEq])
      have i2 : Rd P H (Op.equalIn 9999 e (.int .i64 a.2) (.int .i64 b.2)) (a.2 == b.2) := rd_equal_scalar hE 9998 (by rw [hed]; simp [kindD, sEq])
      refine Rd.bind (x := if a.1 == b.1 then ForInStep.yield (none, ()) else ForInStep.done (some false, ())) ?_ ?_
      · refine Rd.bind (rd_part_int hE hed (v := .int .i64 a.1) (by simp)) (Rd.bind (rd_part_int hE hed (v := .int .i64 b.1) (by simp)) (Rd.bind i1 ?_))
        cases a.1 == b.1 <;> exact Rd.ret _
      · by_cases e1 : a.1 = b.1
        · have : (a.1 == b.1) = true := by simp [e1]
          rw [this]
          simp only [if_true]
          rw [List.forIn_cons]
          refine Rd.bind (x := if a.2 == b.2 then ForInStep.yield (none, ()) else ForInStep.done (some false, ())) ?_ ?_
          · refine Rd.bind (rd_part_int hE hed (v := .int .i64 a.2) (by rw [hs]; simp)) (Rd.bind (rd_part_int hE hed (v := .int .i64 b.2) (by rw [hs]; simp)) (Rd.bind i2 ?_))
            cases a.2 == b.2 <;> exact Rd.ret _
          · by_cases e2 : a.2 = b.2
            · have h2 : (a.2 == b.2) = true := by simp [e2]
              have h3 : decide (a = b) = true := by simp [Prod.ext_iff, e1, e2]
              rw [h2, h3]
              exact Rd.ret _
            · have h2 : (a.2 == b.2) = false := by simp [e2]
              have h3 : decide (a = b) = false := by simp [Prod.ext_iff, e2]
              rw [h2, h3]
              exact Rd.ret _
        · have : (a.1 == b.1) = false := by simp [e1]
          have h3 : decide (a = b) = false := by simp [Prod.ext_iff, e1]
          rw [this, h3]
          exact Rd.ret _
    · cases decide (a = b) <;> exact Rd.ret _
  · intro k
    simp [arrK, Instr.sameBits]
end Go.Hp
