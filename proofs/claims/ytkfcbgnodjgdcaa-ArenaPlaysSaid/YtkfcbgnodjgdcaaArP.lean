/-
  Arenas as plain data: what is kept by handles, which are free and in what order; their rows of cells.
-/
import Derived.Test.YtkfcbgnodjgdcaaHpM
namespace Go.Hp
open Go
set_option linter.unusedVariables false

/-! ### rows of equal length, laid end to end -/
theorem flat_length {w : Nat} : ∀ {rows : List (List Value)}, (∀ r ∈ rows, r.length = w) → rows.flatten.length = rows.length * w
  | [], _ => by simp
  | r :: rows, h => by
    rw [List.flatten_cons, List.length_append, h r (.head _), flat_length fun r hr => h r (.tail _ hr), List.length_cons, Nat.succ_mul, Nat.add_comm]
theorem flat_get {w : Nat} : ∀ {rows : List (List Value)} (_ : ∀ r ∈ rows, r.length = w) {i j : Nat} {r : List Value}, rows[i]? = some r → j < w → rows.flatten[i * w + j]? = r[j]?
  | [], _, i, j, r, h, _ => by cases h
  | x :: rows, hw, 0, j, r, h, hj => by
    obtain rfl := Option.some.inj h
    rw [List.flatten_cons, Nat.zero_mul, Nat.zero_add, List.getElem?_append_left (by rw [hw x (.head _)]; exact hj)]
  | x :: rows, hw, i + 1, j, r, h, hj => by
    rw [List.flatten_cons, List.getElem?_append_right (by rw [hw x (.head _), Nat.succ_mul]; omega), hw x (.head _),
      show (i + 1) * w + j - w = i * w + j by rw [Nat.succ_mul]; omega]
    exact flat_get (fun r hr => hw r (.tail _ hr)) (by simpa using h) hj
theorem flat_set {w : Nat} : ∀ {rows : List (List Value)} (_ : ∀ r ∈ rows, r.length = w) {i : Nat} (r : List Value), i < rows.length → ∀ rest : List Value,
    (rows.flatten ++ rest).take (i * w) ++ r ++ (rows.flatten ++ rest).drop (i * w + w) = (rows.set i r).flatten ++ rest
  | [], _, i, r, h, _ => absurd h (by simp)
  | x :: rows, hw, 0, r, h, rest => by
    have hx := hw x (.head _)
    simp only [List.flatten_cons, Nat.zero_mul, List.take_zero, List.nil_append, Nat.zero_add, List.set_cons_zero, List.append_assoc]
    rw [List.drop_append, ← hx]
    simp
  | x :: rows, hw, i + 1, r, h, rest => by
    have hx := hw x (.head _)
    have ih := flat_set (fun r hr => hw r (.tail _ hr)) (rows := rows) (i := i) r (by simpa using h) rest
    simp only [List.flatten_cons, List.set_cons_succ, List.append_assoc]
    rw [show (i + 1) * w = x.length + i * w by rw [hx, Nat.succ_mul]; omega]
    rw [show x.length + i * w + w = x.length + (i * w + w) by omega]
    rw [List.take_length_add_append, List.drop_length_add_append]
    simp only [List.append_assoc] at ih ⊢
    rw [ih]

/-! ### arenas -/
structure Ar where
  room : Nat
  vals : List (Option (List Value))
  free : List Nat
def nextOf : List Nat → Nat → Nat
  | [], _ => 0
  | x :: xs, h => if x = h then xs.headD 0 else nextOf xs h
def slotC (z : List Value) (s : Option (List Value)) (nx : Nat) : List Value :=
  match s with
  | some v => v ++ [.bool true, .int .i64 0]
  | none => z ++ [.bool false, .int .i64 nx]
namespace Ar
def many (A : Ar) : Nat := (A.vals.filter (·.isSome)).length
def get (A : Ar) (h : Nat) : Option (List Value) := (A.vals[h]?).join
def rows (A : Ar) (z : List Value) : List (List Value) := A.vals.mapIdx fun i s => slotC z s (nextOf A.free i)
def handles (A : Ar) : List Nat := (List.range A.vals.length).filter fun h => (A.get h).isSome
structure Ok (A : Ar) (k : Nat) : Prop where
  len : ∀ h v, A.get h = some v → v.length = k
  zero : A.vals[0]? = some none
  nodup : A.free.Nodup
  mem : ∀ h, h ∈ A.free ↔ 1 ≤ h ∧ h < A.vals.length ∧ A.get h = none
  most : A.many ≤ A.room
  room : A.room ≤ 4096
  size : A.vals.length ≤ A.room + 1
def new (room : Nat) : Ar := ⟨room, [none], []⟩
def putNew (A : Ar) (v : List Value) : Ar := { A with vals := A.vals ++ [some v] }
def putOld (A : Ar) (h : Nat) (v : List Value) : Ar := { A with vals := A.vals.set h (some v), free := A.free.tail }
def drop (A : Ar) (h : Nat) : Ar := { A with vals := A.vals.set h none, free := h :: A.free }
def set (A : Ar) (h : Nat) (v : List Value) : Ar := { A with vals := A.vals.set h (some v) }
theorem get_some_lt {A : Ar} {h : Nat} {v : List Value} (hg : A.get h = some v) : h < A.vals.length := by
  unfold get at hg
  rcases Nat.lt_or_ge h A.vals.length with h' | h'
  · exact h'
  · rw [List.getElem?_eq_none h'] at hg; cases hg
theorem get_eq {A : Ar} {h : Nat} (hl : h < A.vals.length) : A.vals[h]? = some (A.get h) := by
  unfold get
  rw [List.getElem?_eq_getElem hl]
  rfl
theorem rows_length (A : Ar) (z : List Value) : (A.rows z).length = A.vals.length := by simp [rows]
theorem rows_get {A : Ar} {z : List Value} {h : Nat} (hl : h < A.vals.length) : (A.rows z)[h]? = some (slotC z (A.get h) (nextOf A.free h)) := by
  unfold rows
  rw [List.getElem?_mapIdx, get_eq hl]
  rfl
theorem rows_w {A : Ar} {z : List Value} {k : Nat} (hz : z.length = k) (ok : A.Ok k) : ∀ r ∈ A.rows z, r.length = k + 2 := by
  intro r hr
  obtain ⟨i, hi⟩ := List.getElem?_of_mem hr
  have hl : i < A.vals.length := by
    rcases Nat.lt_or_ge i A.vals.length with h' | h'
    · exact h'
    · rw [List.getElem?_eq_none (by rw [rows_length]; exact h')] at hi; cases hi
  rw [rows_get hl] at hi
  obtain rfl := Option.some.inj hi
  unfold slotC
  split
  · rename_i v hv
    simp [ok.len i v hv]
  · simp [hz]
/-! counting -/
theorem many_append (l : List (Option (List Value))) (s : Option (List Value)) : ((l ++ [s]).filter (·.isSome)).length = (l.filter (·.isSome)).length + if s.isSome then 1 else 0 := by
  cases s <;> simp [List.filter_append]
theorem many_set : ∀ (l : List (Option (List Value))) (h : Nat) (s t : Option (List Value)), l[h]? = some t →
    ((l.set h s).filter (·.isSome)).length + (if t.isSome then 1 else 0) = (l.filter (·.isSome)).length + if s.isSome then 1 else 0
  | [], h, s, t, ht => by cases ht
  | x :: l, 0, s, t, ht => by
    obtain rfl := Option.some.inj ht
    cases x <;> cases s <;> simp
  | x :: l, h + 1, s, t, ht => by
    have := many_set l h s t (by simpa using ht)
    cases x <;> cases s <;> cases t <;> simp at this ⊢ <;> omega
theorem many_le (l : List (Option (List Value))) : (l.filter (·.isSome)).length ≤ l.length := List.length_filter_le _ _
theorem filter_two : ∀ l : List (Option (List Value)), l.length = (l.filter (·.isSome)).length + (l.filter (fun s => !s.isSome)).length
  | [] => rfl
  | x :: l => by
    have := filter_two l
    cases x <;> simp at this ⊢ <;> omega
theorem count_free (A : Ar) {k : Nat} (ok : A.Ok k) : A.many + A.free.length + 1 = A.vals.length := by
  -- the places that hold nothing are 0 and the free ones
  have h1 : A.vals.length = A.many + (A.vals.filter (fun s => !s.isSome)).length := by
    unfold many
    exact filter_two A.vals
  have h2 : (A.vals.filter (fun s => !s.isSome)).length = ((List.range A.vals.length).filter fun h => !(A.get h).isSome).length := by
    have e : A.vals = (List.range A.vals.length).map A.get := by
      apply List.ext_getElem?
      intro i
      rcases Nat.lt_or_ge i A.vals.length with h' | h'
      · rw [get_eq h']; simp [h']
      · rw [List.getElem?_eq_none h', List.getElem?_eq_none (by simpa using h')]
    conv => lhs; rw [e]
    rw [List.filter_map, List.length_map]
    rfl
  have h3 : ((List.range A.vals.length).filter fun h => !(A.get h).isSome).Perm (0 :: A.free) := by
    rw [List.perm_ext_iff_of_nodup (List.nodup_range.filter _)]
    · intro h
      simp only [List.mem_filter, List.mem_range, Bool.not_eq_true', Option.isSome_eq_false_iff, Option.isNone_iff_eq_none, List.mem_cons, ok.mem]
      constructor
      · rintro ⟨h1, h2⟩
        by_cases h0 : h = 0
        · exact .inl h0
        · exact .inr ⟨by omega, h1, h2⟩
      · rintro (rfl | ⟨_, h1, h2⟩)
        · have := ok.zero
          refine ⟨?_, ?_⟩
          · rcases Nat.lt_or_ge 0 A.vals.length with h' | h'
            · exact h'
            · rw [List.getElem?_eq_none h'] at this; cases this
          · unfold get; rw [this]; rfl
        · exact ⟨h1, h2⟩
    · rw [List.nodup_cons]
      exact ⟨fun h => by have := (ok.mem 0).1 h; omega, ok.nodup⟩
  have h4 := h3.length_eq
  rw [List.length_cons] at h4
  omega
theorem Ok.len_le {A : Ar} {k : Nat} (ok : A.Ok k) : A.vals.length ≤ 4097 := by
  have := ok.size
  have := ok.room
  omega
end Ar
end Go.Hp
namespace Go.Hp
open Go
/-- An arena lies in memory: its header at block p, its slots in block g. -/
structure ArAt (H : Heap) (p g k : Nat) (z : List Value) (A : Ar) : Prop where
  ok : A.Ok k
  zl : z.length = k
  ne : p ≠ g
  at_ : ∃ c rest, Blk H p [.int .i64 A.room, .int .i64 A.many, .slice (some ⟨g, 0, none⟩) A.vals.length c, .int .i64 (A.free.headD 0 : Nat)] ∧
    Blk H g ((A.rows z).flatten ++ rest) ∧ A.vals.length * (k + 2) + rest.length = c * (k + 2) ∧ A.vals.length ≤ c
theorem ArAt.frame {S : Nat → Prop} {H H' : Heap} {p g k : Nat} {z : List Value} {A : Ar} (h : ArAt H p g k z A) (hf : Fr S H H') (h1 : ¬ S p) (h2 : ¬ S g) : ArAt H' p g k z A :=
  ⟨h.ok, h.zl, h.ne, let ⟨c, rest, a, b, d, e⟩ := h.at_; ⟨c, rest, a.frame hf h1, b.frame hf h2, d, e⟩⟩
theorem slot_cell {A : Ar} {z : List Value} {k : Nat} (ok : A.Ok k) (hz : z.length = k) {rest : List Value} {h j : Nat} (hh : h < A.vals.length) (hj : j < k + 2) :
    ((A.rows z).flatten ++ rest)[h * (k + 2) + j]? = (slotC z (A.get h) (nextOf A.free h))[j]? := by
  have hw := Ar.rows_w hz ok
  have hl := flat_length hw
  rw [Ar.rows_length] at hl
  rw [List.getElem?_append_left, flat_get hw (Ar.rows_get hh) hj]
  rw [hl]
  have : (h + 1) * (k + 2) ≤ A.vals.length * (k + 2) := Nat.mul_le_mul_right _ hh
  rw [Nat.succ_mul] at this
  omega
theorem slot_used {A : Ar} {z : List Value} {k : Nat} (ok : A.Ok k) (hz : z.length = k) {rest : List Value} {h : Nat} (hh : h < A.vals.length) :
    ((A.rows z).flatten ++ rest)[h * (k + 2) + k]? = some (.bool (A.get h).isSome) := by
  rw [slot_cell ok hz hh (by omega)]
  unfold slotC
  split
  · rename_i v hv
    rw [List.getElem?_append_right (by rw [ok.len h v hv]; omega), ok.len h v hv, Nat.sub_self]; simp [hv]
  · rename_i hv
    rw [List.getElem?_append_right (by omega), hz, Nat.sub_self]; simp [hv]
theorem slot_next {A : Ar} {z : List Value} {k : Nat} (ok : A.Ok k) (hz : z.length = k) {rest : List Value} {h : Nat} (hh : h < A.vals.length) (hn : A.get h = none) :
    ((A.rows z).flatten ++ rest)[h * (k + 2) + (k + 1)]? = some (.int .i64 (nextOf A.free h)) := by
  rw [slot_cell ok hz hh (by omega)]
  unfold slotC
  rw [hn]
  simp only []
  rw [List.getElem?_append_right (by omega), hz, Nat.add_sub_cancel_left]
  rfl
theorem slot_val {A : Ar} {z : List Value} {k : Nat} (ok : A.Ok k) (hz : z.length = k) {rest : List Value} {h j : Nat} {v : List Value} (hv : A.get h = some v) (hj : j < k) :
    ((A.rows z).flatten ++ rest)[h * (k + 2) + j]? = v[j]? := by
  rw [slot_cell ok hz (Ar.get_some_lt hv) (by omega)]
  unfold slotC
  rw [hv]
  simp only []
  rw [List.getElem?_append_left (by rw [ok.len h v hv]; exact hj)]
end Go.Hp
namespace Go.Hp
open Go
theorem row_set {w : Nat} {rows : List (List Value)} (hw : ∀ r ∈ rows, r.length = w) {i j : Nat} {r : List Value} (hr : rows[i]? = some r) (hj : j < w) (v : Value) (rest : List Value) :
    (rows.flatten ++ rest).set (i * w + j) v = (rows.set i (r.set j v)).flatten ++ rest := by
  have hi : i < rows.length := by
    rcases Nat.lt_or_ge i rows.length with h | h
    · exact h
    · rw [List.getElem?_eq_none h] at hr; cases hr
  have hrl : r.length = w := hw r (List.mem_of_getElem? hr)
  rw [← flat_set hw (r.set j v) hi rest]
  have hfl := flat_length hw
  have hle : i * w + w ≤ rows.length * w := by rw [← Nat.succ_mul]; exact Nat.mul_le_mul_right _ hi
  have hfd : ∀ d, d < w → (rows.flatten ++ rest)[i * w + d]? = r[d]? := fun d hd => by
    rw [List.getElem?_append_left (by rw [hfl]; omega), flat_get hw hr hd]
  have hL : i * w + w ≤ (rows.flatten ++ rest).length := by rw [List.length_append, hfl]; omega
  generalize rows.flatten ++ rest = L at hfd hL ⊢
  apply List.ext_getElem?
  intro x
  have htl : (L.take (i * w)).length = i * w := by rw [List.length_take]; omega
  by_cases h1 : x < i * w
  · rw [List.getElem?_set_ne (by omega), List.append_assoc, List.getElem?_append_left (by rw [htl]; exact h1), List.getElem?_take_of_lt h1]
  · by_cases h2 : x < i * w + w
    · rw [List.append_assoc, List.getElem?_append_right (by rw [htl]; omega), htl, List.getElem?_append_left (by rw [List.length_set, hrl]; omega)]
      by_cases h3 : x = i * w + j
      · subst h3
        rw [List.getElem?_set_self (by omega), Nat.add_sub_cancel_left, List.getElem?_set_self (by omega)]
      · rw [List.getElem?_set_ne (by omega), List.getElem?_set_ne (by omega)]
        obtain ⟨d, rfl⟩ : ∃ d, x = i * w + d := ⟨x - i * w, by omega⟩
        rw [Nat.add_sub_cancel_left, hfd d (by omega)]
    · have hl2 : (L.take (i * w) ++ r.set j v).length = i * w + w := by rw [List.length_append, htl, List.length_set, hrl]
      rw [List.getElem?_set_ne (by omega), List.getElem?_append_right (by rw [hl2]; omega), hl2, List.getElem?_drop]
      congr 1
      omega
namespace Ar
theorem rows_ext {A A' : Ar} {z : List Value} {h : Nat} {s' : Option (List Value)} (hh : h < A.vals.length) (hv : A'.vals = A.vals.set h s')
    (hn : ∀ i, i ≠ h → i < A.vals.length → A.get i = none → nextOf A'.free i = nextOf A.free i) : A'.rows z = (A.rows z).set h (slotC z s' (nextOf A'.free h)) := by
  apply List.ext_getElem?
  intro i
  by_cases hi : i < A.vals.length
  · rw [rows_get (by rw [hv]; simpa using hi)]
    by_cases e : i = h
    · subst e
      rw [List.getElem?_set_self (by rw [rows_length]; exact hh)]
      have : A'.get i = s' := by unfold get; rw [hv, List.getElem?_set_self hh]; rfl
      rw [this]
    · rw [List.getElem?_set_ne (Ne.symm e), rows_get hi]
      have : A'.get i = A.get i := by unfold get; rw [hv, List.getElem?_set_ne (Ne.symm e)]
      rw [this]
      cases hg : A.get i with
      | some v => rfl
      | none => rw [hn i e hi hg]
  · rw [List.getElem?_eq_none (by rw [rows_length, hv]; simpa using hi), List.getElem?_eq_none (by rw [List.length_set, rows_length]; omega)]
theorem get_set {A : Ar} {h i : Nat} {s : Option (List Value)} (hh : h < A.vals.length) : ((A.vals.set h s)[i]?).join = if i = h then s else A.get i := by
  unfold get
  by_cases e : i = h
  · subst e
    rw [List.getElem?_set_self hh, if_pos rfl]; rfl
  · rw [List.getElem?_set_ne (Ne.symm e), if_neg e]
theorem get_mk {r : Nat} {vs : List (Option (List Value))} {f : List Nat} (i : Nat) : (Ar.mk r vs f).get i = (vs[i]?).join := rfl
theorem pos_of_get {A : Ar} {k h : Nat} {v : List Value} (ok : A.Ok k) (hg : A.get h = some v) : 1 ≤ h := by
  rcases Nat.eq_zero_or_pos h with h0 | h0
  · subst h0
    unfold Ar.get at hg
    rw [ok.zero] at hg
    cases hg
  · exact h0
theorem Ok.new {k n : Nat} (hn : n ≤ 4096) : (Ar.new n).Ok k where
  len := fun h v hv => by
    unfold Ar.new get at hv
    cases h <;> simp at hv
  zero := rfl
  nodup := List.nodup_nil
  mem := fun h => by
    simp only [Ar.new, List.not_mem_nil, List.length_cons, List.length_nil, false_iff]
    omega
  most := by simp [Ar.new, many]
  room := hn
  size := by simp [Ar.new]
theorem Ok.set {A : Ar} {k h : Nat} {u v : List Value} (ok : A.Ok k) (hg : A.get h = some u) (hv : v.length = k) : (A.set h v).Ok k := by
  have hl := get_some_lt hg
  have h1 := pos_of_get ok hg
  have hgs : ∀ i, (A.set h v).get i = if i = h then some v else A.get i := fun i => get_set hl
  refine ⟨fun i w hw => ?_, ?_, ok.nodup, fun i => ?_, ?_, ok.room, by simpa [Ar.set] using ok.size⟩
  · rw [hgs] at hw
    split at hw
    · rw [← Option.some.inj hw]; exact hv
    · exact ok.len i w hw
  · show (A.vals.set h (some v))[0]? = _
    rw [List.getElem?_set_ne (by omega)]; exact ok.zero
  · show i ∈ A.free ↔ _
    rw [ok.mem, hgs]
    show _ ↔ 1 ≤ i ∧ i < (A.vals.set h (some v)).length ∧ _
    rw [List.length_set]
    by_cases e : i = h
    · subst e; rw [if_pos rfl, hg]; simp
    · rw [if_neg e]
  · have := many_set A.vals h (some v) (some u) (by rw [get_eq hl, hg])
    have h2 := ok.most
    unfold many at h2
    show ((A.vals.set h (some v)).filter (·.isSome)).length ≤ A.room
    simp at this
    omega
theorem many_set' {A : Ar} {h : Nat} {u v : List Value} (hg : A.get h = some u) : (A.set h v).many = A.many := by
  have := many_set A.vals h (some v) (some u) (by rw [get_eq (get_some_lt hg), hg])
  simp at this
  exact this
theorem many_drop {A : Ar} {h : Nat} {u : List Value} (hg : A.get h = some u) : (A.drop h).many + 1 = A.many := by
  have := many_set A.vals h none (some u) (by rw [get_eq (get_some_lt hg), hg])
  simp at this
  exact this
theorem Ok.drop {A : Ar} {k h : Nat} {u : List Value} (ok : A.Ok k) (hg : A.get h = some u) : (A.drop h).Ok k := by
  have hl := get_some_lt hg
  have h1 := pos_of_get ok hg
  have hgs : ∀ i, (A.drop h).get i = if i = h then none else A.get i := fun i => get_set hl
  refine ⟨fun i w hw => ?_, ?_, ?_, fun i => ?_, ?_, ok.room, by simpa [Ar.drop] using ok.size⟩
  · rw [hgs] at hw
    split at hw
    · cases hw
    · exact ok.len i w hw
  · show (A.vals.set h none)[0]? = _
    rw [List.getElem?_set_ne (by omega)]; exact ok.zero
  · show (h :: A.free).Nodup
    rw [List.nodup_cons, ok.mem, hg]
    exact ⟨by simp, ok.nodup⟩
  · show i ∈ h :: A.free ↔ 1 ≤ i ∧ i < (A.vals.set h none).length ∧ _
    rw [List.mem_cons, ok.mem, hgs, List.length_set]
    by_cases e : i = h
    · subst e; simp [h1, hl]
    · simp [e]
  · have := many_drop (A := A) hg
    have := ok.most
    show (A.drop h).many ≤ A.room
    omega
theorem many_putOld {A : Ar} {k h : Nat} {v : List Value} (ok : A.Ok k) (hf : h ∈ A.free) : (A.putOld h v).many = A.many + 1 := by
  obtain ⟨h1, hl, hg⟩ := (ok.mem h).1 hf
  have := many_set A.vals h (some v) none (by rw [get_eq hl, hg])
  simp at this
  exact this
theorem Ok.putOld {A : Ar} {k h : Nat} {fs : List Nat} {v : List Value} (ok : A.Ok k) (hf : A.free = h :: fs) (hm : A.many < A.room) (hv : v.length = k) : (A.putOld h v).Ok k := by
  obtain ⟨h1, hl, hg⟩ := (ok.mem h).1 (by rw [hf]; exact .head _)
  have hgs : ∀ i, (A.putOld h v).get i = if i = h then some v else A.get i := fun i => get_set hl
  have hnd := ok.nodup
  rw [hf, List.nodup_cons] at hnd
  refine ⟨fun i w hw => ?_, ?_, ?_, fun i => ?_, ?_, ok.room, by simpa [Ar.putOld] using ok.size⟩
  · rw [hgs] at hw
    split at hw
    · rw [← Option.some.inj hw]; exact hv
    · exact ok.len i w hw
  · show (A.vals.set h (some v))[0]? = _
    rw [List.getElem?_set_ne (by omega)]; exact ok.zero
  · show (A.free.tail).Nodup
    rw [hf]; exact hnd.2
  · show i ∈ A.free.tail ↔ 1 ≤ i ∧ i < (A.vals.set h (some v)).length ∧ _
    have := ok.mem i
    rw [hf, List.mem_cons] at this
    rw [hf, List.tail_cons, hgs, List.length_set]
    by_cases e : i = h
    · subst e; simp [hnd.1]
    · simp [e] at this ⊢; exact this
  · rw [many_putOld ok (by rw [hf]; exact .head _)]
    exact hm
theorem many_putNew {A : Ar} {v : List Value} : (A.putNew v).many = A.many + 1 := by
  unfold many Ar.putNew
  simp only [many_append]
  rfl
theorem get_putNew {A : Ar} {v : List Value} (i : Nat) : (A.putNew v).get i = if i = A.vals.length then some v else A.get i := by
  show ((A.vals ++ [some v])[i]?).join = _
  by_cases e : i = A.vals.length
  · subst e; simp
  · rw [if_neg e]
    unfold get
    rcases Nat.lt_or_ge i A.vals.length with h | h
    · rw [List.getElem?_append_left h]
    · rw [List.getElem?_eq_none (by simp; omega), List.getElem?_eq_none h]
theorem Ok.putNew {A : Ar} {k : Nat} {v : List Value} (ok : A.Ok k) (hf : A.free = []) (hm : A.many < A.room) (hv : v.length = k) : (A.putNew v).Ok k := by
  have hpos : 0 < A.vals.length := by
    rcases Nat.eq_zero_or_pos A.vals.length with h | h
    · have := ok.zero
      rw [List.getElem?_eq_none (by omega)] at this; cases this
    · exact h
  have hcf := count_free A ok
  rw [hf, List.length_nil] at hcf
  refine ⟨fun i w hw => ?_, ?_, ok.nodup, fun i => ?_, ?_, ok.room, by show (A.vals ++ [some v]).length ≤ A.room + 1; simp; omega⟩
  · rw [get_putNew] at hw
    split at hw
    · rw [← Option.some.inj hw]; exact hv
    · exact ok.len i w hw
  · show (A.vals ++ [some v])[0]? = _
    rw [List.getElem?_append_left hpos]; exact ok.zero
  · show i ∈ A.free ↔ 1 ≤ i ∧ i < (A.vals ++ [some v]).length ∧ _
    have := ok.mem i
    rw [hf] at this ⊢
    rw [get_putNew, List.length_append, List.length_singleton]
    simp only [List.not_mem_nil, false_iff] at this ⊢
    by_cases e : i = A.vals.length
    · rw [if_pos e]; simp
    · rw [if_neg e]
      rintro ⟨a, b, c⟩
      exact this ⟨a, by omega, c⟩
  · rw [many_putNew]; exact hm
theorem rows_putNew {A : Ar} {z v : List Value} : (A.putNew v).rows z = A.rows z ++ [slotC z (some v) 0] := by
  unfold rows Ar.putNew
  simp [List.mapIdx_append, slotC]
end Ar
end Go.Hp
namespace Go.Hp
open Go
theorem rows3 {rows : List (List Value)} (hw : ∀ r ∈ rows, r.length = 3) {i : Nat} (hi : i < rows.length) (a b c : Value) (rest : List Value) :
    (((rows.flatten ++ rest).set (i * 3) a).set (i * 3 + 1) b).set (i * 3 + 2) c = (rows.set i [a, b, c]).flatten ++ rest := by
  have hr : rows[i]? = some rows[i] := List.getElem?_eq_getElem hi
  have hl := hw _ (List.getElem_mem hi)
  have s0 := row_set hw hr (show 0 < 3 by omega) a rest
  rw [Nat.add_zero] at s0
  have hw1 : ∀ r ∈ rows.set i (rows[i].set 0 a), r.length = 3 := fun r hr => by
    rcases List.mem_or_eq_of_mem_set hr with h | h
    · exact hw r h
    · rw [h, List.length_set, hl]
  have s1 := row_set hw1 (i := i) (j := 1) (r := rows[i].set 0 a) (by simp [hi]) (by omega) b rest
  have hw2 : ∀ r ∈ (rows.set i (rows[i].set 0 a)).set i ((rows[i].set 0 a).set 1 b), r.length = 3 := fun r hr => by
    rcases List.mem_or_eq_of_mem_set hr with h | h
    · exact hw1 r h
    · rw [h]; simp [hl]
  have s2 := row_set hw2 (i := i) (j := 2) (r := (rows[i].set 0 a).set 1 b) (by simp [hi]) (by omega) c rest
  rw [s0, s1, s2]
  simp only [List.set_set]
  have e : ((rows[i].set 0 a).set 1 b).set 2 c = [a, b, c] := by
    match rows[i], hl with
    | [_, _, _], _ => rfl
  rw [e]
theorem rows4 {rows : List (List Value)} (hw : ∀ r ∈ rows, r.length = 4) {i : Nat} (hi : i < rows.length) (a b c d : Value) (rest : List Value) :
    ((((rows.flatten ++ rest).set (i * 4) a).set (i * 4 + 1) b).set (i * 4 + 2) c).set (i * 4 + 3) d = (rows.set i [a, b, c, d]).flatten ++ rest := by
  have hr : rows[i]? = some rows[i] := List.getElem?_eq_getElem hi
  have hl := hw _ (List.getElem_mem hi)
  have s0 := row_set hw hr (show 0 < 4 by omega) a rest
  rw [Nat.add_zero] at s0
  have hw1 : ∀ r ∈ rows.set i (rows[i].set 0 a), r.length = 4 := fun r hr => by
    rcases List.mem_or_eq_of_mem_set hr with h | h
    · exact hw r h
    · rw [h, List.length_set, hl]
  have s1 := row_set hw1 (i := i) (j := 1) (r := rows[i].set 0 a) (by simp [hi]) (by omega) b rest
  have hw2 : ∀ r ∈ (rows.set i (rows[i].set 0 a)).set i ((rows[i].set 0 a).set 1 b), r.length = 4 := fun r hr => by
    rcases List.mem_or_eq_of_mem_set hr with h | h
    · exact hw1 r h
    · rw [h]; simp [hl]
  have s2 := row_set hw2 (i := i) (j := 2) (r := (rows[i].set 0 a).set 1 b) (by simp [hi]) (by omega) c rest
  have hw3 : ∀ r ∈ ((rows.set i (rows[i].set 0 a)).set i ((rows[i].set 0 a).set 1 b)).set i (((rows[i].set 0 a).set 1 b).set 2 c), r.length = 4 := fun r hr => by
    rcases List.mem_or_eq_of_mem_set hr with h | h
    · exact hw2 r h
    · rw [h]; simp [hl]
  have s3 := row_set hw3 (i := i) (j := 3) (r := ((rows[i].set 0 a).set 1 b).set 2 c) (by simp [hi]) (by omega) d rest
  rw [s0, s1, s2, s3]
  simp only [List.set_set]
  have e : (((rows[i].set 0 a).set 1 b).set 2 c).set 3 d = [a, b, c, d] := by
    match rows[i], hl with
    | [_, _, _, _], _ => rfl
  rw [e]
theorem rows_set {A : Ar} {z : List Value} {h : Nat} (v : List Value) (hh : h < A.vals.length) : (A.set h v).rows z = (A.rows z).set h (v ++ [.bool true, .int .i64 0]) :=
  Ar.rows_ext (A' := A.set h v) (s' := some v) hh rfl fun _ _ _ _ => rfl
theorem rows_drop {A : Ar} {z : List Value} {h : Nat} (hh : h < A.vals.length) : (A.drop h).rows z = (A.rows z).set h (z ++ [.bool false, .int .i64 (A.free.headD 0 : Nat)]) := by
  rw [Ar.rows_ext (A' := A.drop h) (s' := none) hh rfl fun i hi _ _ => by simp [Ar.drop, nextOf, Ne.symm hi]]
  simp [slotC, Ar.drop, nextOf]
theorem rows_putOld {A : Ar} {k : Nat} {z : List Value} {h : Nat} {fs : List Nat} (v : List Value) (ok : A.Ok k) (hf : A.free = h :: fs) : (A.putOld h v).rows z = (A.rows z).set h (v ++ [.bool true, .int .i64 0]) :=
  Ar.rows_ext (A' := A.putOld h v) (s' := some v) ((ok.mem h).1 (by rw [hf]; exact .head _)).2.1 rfl fun i hi _ _ => by simp [Ar.putOld, hf, nextOf, Ne.symm hi]
theorem off_lt {A : Ar} {z : List Value} {k h j : Nat} (hz : z.length = k) (ok : A.Ok k) (hh : h < A.vals.length) (hj : j < k + 2) (rest : List Value) : h * (k + 2) + j < ((A.rows z).flatten ++ rest).length := by
  have hfl := flat_length (Ar.rows_w hz ok)
  rw [Ar.rows_length] at hfl
  have : (h + 1) * (k + 2) ≤ A.vals.length * (k + 2) := Nat.mul_le_mul_right _ hh
  rw [Nat.succ_mul] at this
  rw [List.length_append, hfl]
  omega
end Go.Hp
