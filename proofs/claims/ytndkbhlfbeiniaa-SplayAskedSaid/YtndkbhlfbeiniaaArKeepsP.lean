/-
  What ArenaKeeps keeps: handles hs they were given, what was laid there; plain.
-/
import Derived.Test.YtndkbhlfbeiniaaArP
namespace Go.Hp
open Go
set_option linter.unusedVariables false

/-- hs: the handles, as they were given; ws: what was laid there (below 0: it was dropped); of the first n numbers l. -/
structure Keep (G : Nat → Option (List Value)) (l : Nat → Int) (hs ws : List Int) (n : Nat) : Prop where
  len : hs.length = ws.length
  le : hs.length ≤ n
  live : ∀ (k : Nat) (a w : Int), hs[k]? = some a → ws[k]? = some w → 0 ≤ w → w.toNat < n ∧ G a.toNat = some [.int .i64 w, .int .i64 (l w.toNat)]
  last : ∀ (j k : Nat) (a w : Int), hs[j]? = some a → ws[j]? = some w → 0 ≤ w → hs[k]? = some a → k ≤ j
  all : ∀ (h : Nat) v, G h = some v → ∃ (k : Nat) (w : Int), hs[k]? = some (h : Int) ∧ ws[k]? = some w ∧ 0 ≤ w
  hand : ∀ (k : Nat) (a : Int), hs[k]? = some a → 1 ≤ a
theorem Keep.nil (l : Nat → Int) (n : Nat) : Keep (fun _ => none) l [] [] n :=
  ⟨rfl, Nat.zero_le _, fun k a w h => (by simp at h), fun j k a w h => (by simp at h), fun h v e => (by cases e), fun k a h => (by simp at h)⟩
theorem Keep.mono {G : Nat → Option (List Value)} {l : Nat → Int} {hs ws : List Int} {n m : Nat} (h : Keep G l hs ws n) (hm : n ≤ m) : Keep G l hs ws m :=
  ⟨h.len, Nat.le_trans h.le hm, fun k a w h1 h2 h3 => ⟨by have := (h.live k a w h1 h2 h3).1; omega, (h.live k a w h1 h2 h3).2⟩, h.last, h.all, h.hand⟩
theorem get_snoc {α : Type} {xs : List α} {x y : α} {k : Nat} (h : (xs ++ [x])[k]? = some y) : (xs[k]? = some y ∧ k < xs.length) ∨ (k = xs.length ∧ y = x) := by
  rcases Nat.lt_trichotomy k xs.length with hk | hk | hk
  · rw [List.getElem?_append_left hk] at h; exact .inl ⟨h, hk⟩
  · subst hk; simp at h; exact .inr ⟨rfl, h.symm⟩
  · rw [List.getElem?_eq_none (by simp; omega)] at h; cases h
theorem Keep.put {G G' : Nat → Option (List Value)} {l : Nat → Int} {hs ws : List Int} {n h : Nat} (hK : Keep G l hs ws n) (h1 : 1 ≤ h) (h0 : G h = none)
    (hG : ∀ i, G' i = if i = h then some [.int .i64 (n : Int), .int .i64 (l n)] else G i) : Keep G' l (hs ++ [(h : Int)]) (ws ++ [(n : Int)]) (n + 1) where
  len := by simp [hK.len]
  le := by have := hK.le; simp; omega
  live := fun k a w ha hw h0w => by
    rcases get_snoc ha with ⟨ha, hk⟩ | ⟨rfl, rfl⟩
    · rcases get_snoc hw with ⟨hw, _⟩ | ⟨hk', rfl⟩
      · obtain ⟨h2, h3⟩ := hK.live k a w ha hw h0w
        refine ⟨by omega, ?_⟩
        rw [hG, if_neg (fun e => by rw [e, h0] at h3; cases h3)]
        exact h3
      · have := hK.len; omega
    · rcases get_snoc hw with ⟨hw, hk⟩ | ⟨_, rfl⟩
      · have := hK.len; omega
      · refine ⟨by simp, ?_⟩
        rw [hG]
        simp
  last := fun j k a w ha hw h0w hk => by
    rcases get_snoc ha with ⟨ha, hj⟩ | ⟨rfl, rfl⟩
    · rcases get_snoc hw with ⟨hw, _⟩ | ⟨hk', rfl⟩
      · rcases get_snoc hk with ⟨hk, _⟩ | ⟨_, rfl⟩
        · exact hK.last j k a w ha hw h0w hk
        · have := (hK.live j _ w ha hw h0w).2
          rw [Int.toNat_natCast, h0] at this
          cases this
      · have := hK.len; omega
    · rcases get_snoc hk with ⟨_, hk⟩ | ⟨rfl, _⟩ <;> omega
  all := fun i v hi => by
    rw [hG] at hi
    by_cases e : i = h
    · subst e
      exact ⟨hs.length, n, by simp, by rw [hK.len]; simp, by omega⟩
    · rw [if_neg e] at hi
      obtain ⟨k, w, h1, h2, h3⟩ := hK.all i v hi
      have hk := (List.getElem?_eq_some_iff.1 h1).1
      exact ⟨k, w, by rw [List.getElem?_append_left hk]; exact h1, by rw [List.getElem?_append_left (by rw [← hK.len]; exact hk)]; exact h2, h3⟩
  hand := fun k a ha => by
    rcases get_snoc ha with ⟨ha, hk⟩ | ⟨rfl, rfl⟩
    · exact hK.hand k a ha
    · omega
theorem Keep.drop {G G' : Nat → Option (List Value)} {l : Nat → Int} {hs ws ws' : List Int} {n h : Nat} (hK : Keep G l hs ws n) (hl : ws'.length = ws.length)
    (hw : ∀ (k : Nat) (a w : Int), hs[k]? = some a → ws[k]? = some w → ws'[k]? = some (if a = (h : Int) then -1 else w))
    (hG : ∀ i, G' i = if i = h then none else G i) : Keep G' l hs ws' n := by
  have back : ∀ (k : Nat) (a w : Int), hs[k]? = some a → ws'[k]? = some w → 0 ≤ w → ws[k]? = some w ∧ a ≠ (h : Int) := fun k a w h1 h2 h3 => by
    have hk := (List.getElem?_eq_some_iff.1 h1).1
    have hk2 : k < ws.length := by rw [← hK.len]; exact hk
    have h4 := hw k a ws[k] h1 (List.getElem?_eq_getElem hk2)
    rw [h4] at h2
    have h5 := Option.some.inj h2
    by_cases e : a = (h : Int)
    · rw [if_pos e] at h5; omega
    · rw [if_neg e] at h5
      exact ⟨by rw [List.getElem?_eq_getElem hk2, h5], e⟩
  exact {
    len := by rw [hl]; exact hK.len
    le := hK.le
    live := fun k a w h1 h2 h3 => by
      obtain ⟨h4, h5⟩ := back k a w h1 h2 h3
      obtain ⟨h6, h7⟩ := hK.live k a w h1 h4 h3
      have := hK.hand k a h1
      refine ⟨h6, ?_⟩
      rw [hG, if_neg (by omega)]
      exact h7
    last := fun j k a w h1 h2 h3 h4 => hK.last j k a w h1 (back j a w h1 h2 h3).1 h3 h4
    all := fun i v hi => by
      rw [hG] at hi
      by_cases e : i = h
      · rw [if_pos e] at hi; cases hi
      · rw [if_neg e] at hi
        obtain ⟨k, w, h1, h2, h3⟩ := hK.all i v hi
        refine ⟨k, w, h1, ?_, h3⟩
        rw [hw k i w h1 h2, if_neg (by omega)]
    hand := hK.hand }
theorem Ar.many_handles (A : Ar) : A.many = A.handles.length := by
  have e : A.vals = (List.range A.vals.length).map A.get := by
    apply List.ext_getElem?
    intro i
    rcases Nat.lt_or_ge i A.vals.length with h' | h'
    · rw [Ar.get_eq h']; simp [h']
    · rw [List.getElem?_eq_none h', List.getElem?_eq_none (by simpa using h')]
  unfold Ar.many Ar.handles
  conv => lhs; rw [e]
  rw [List.filter_map, List.length_map]
  rfl
def liveN (ws : List Int) (i : Nat) : Nat := ((List.range i).filter fun k => decide (0 ≤ ws.getD k (-1))).length
theorem liveN_succ (ws : List Int) (i : Nat) : liveN ws (i + 1) = liveN ws i + if 0 ≤ ws.getD i (-1) then 1 else 0 := by
  unfold liveN
  rw [List.range_succ, List.filter_append, List.length_append]
  congr 1
  by_cases h : 0 ≤ ws.getD i (-1)
  · rw [if_pos h]; simp only [List.filter_cons, h, decide_true, if_true, List.filter_nil, List.length_singleton]
  · rw [if_neg h]; simp only [List.filter_cons, h, decide_false, Bool.false_eq_true, if_false, List.filter_nil, List.length_nil]
theorem liveN_le (ws : List Int) (i : Nat) : liveN ws i ≤ i := by
  unfold liveN
  exact Nat.le_trans (List.length_filter_le _ _) (by simp)
theorem Keep.count {A : Ar} {l : Nat → Int} {hs ws : List Int} {n : Nat} (hK : Keep A.get l hs ws n) : liveN ws hs.length = A.many := by
  rw [Ar.many_handles]
  unfold liveN
  have hp : (((List.range hs.length).filter fun k => decide (0 ≤ ws.getD k (-1))).map fun k => (hs.getD k 0).toNat).Perm A.handles := by
    rw [List.perm_ext_iff_of_nodup]
    · intro h
      simp only [List.mem_map, List.mem_filter, List.mem_range, decide_eq_true_eq, Ar.handles]
      constructor
      · rintro ⟨k, ⟨hk, hw⟩, rfl⟩
        have hk2 : k < ws.length := by rw [← hK.len]; exact hk
        have ha : hs[k]? = some (hs.getD k 0) := by rw [List.getD_eq_getElem?_getD, List.getElem?_eq_getElem hk]; rfl
        have hw' : ws[k]? = some (ws.getD k (-1)) := by rw [List.getD_eq_getElem?_getD, List.getElem?_eq_getElem hk2]; rfl
        have := (hK.live k _ _ ha hw' hw).2
        exact ⟨Ar.get_some_lt this, by rw [this]; rfl⟩
      · rintro ⟨h1, h2⟩
        obtain ⟨v, hv⟩ := Option.isSome_iff_exists.1 h2
        obtain ⟨k, w, h3, h4, h5⟩ := hK.all h v hv
        refine ⟨k, ⟨(List.getElem?_eq_some_iff.1 h3).1, ?_⟩, ?_⟩
        · rw [List.getD_eq_getElem?_getD, h4]; exact h5
        · rw [List.getD_eq_getElem?_getD, h3]; simp
    · rw [List.nodup_iff_pairwise_ne, List.pairwise_map]
      refine ((List.nodup_iff_pairwise_ne.1 (List.nodup_range.filter _)).imp_of_mem ?_)
      intro j k hj hk hne he
      simp only [List.mem_filter, List.mem_range, decide_eq_true_eq] at hj hk
      have f : ∀ k, k < hs.length → hs[k]? = some (hs.getD k 0) ∧ ws[k]? = some (ws.getD k (-1)) := fun k hk => by
        have hk2 : k < ws.length := by rw [← hK.len]; exact hk
        exact ⟨by rw [List.getD_eq_getElem?_getD, List.getElem?_eq_getElem hk]; rfl, by rw [List.getD_eq_getElem?_getD, List.getElem?_eq_getElem hk2]; rfl⟩
      have e : hs.getD j 0 = hs.getD k 0 := by
        have := hK.hand j _ (f j hj.1).1
        have := hK.hand k _ (f k hk.1).1
        omega
      have a1 := hK.last j k _ _ (f j hj.1).1 (f j hj.1).2 hj.2 (by rw [e]; exact (f k hk.1).1)
      have a2 := hK.last k j _ _ (f k hk.1).1 (f k hk.1).2 hk.2 (by rw [← e]; exact (f j hj.1).1)
      omega
    · exact List.nodup_range.filter _
  rw [← hp.length_eq, List.length_map]
theorem Ar.get_putOld {A : Ar} {k h : Nat} {fs : List Nat} {v : List Value} (ok : A.Ok k) (hf : A.free = h :: fs) (i : Nat) : (A.putOld h v).get i = if i = h then some v else A.get i :=
  Ar.get_set ((ok.mem h).1 (by rw [hf]; exact .head _)).2.1
theorem Ar.get_drop {A : Ar} {h : Nat} {u : List Value} (hg : A.get h = some u) (i : Nat) : (A.drop h).get i = if i = h then none else A.get i :=
  Ar.get_set (Ar.get_some_lt hg)
end Go.Hp
