/-
  Arenas as plain data: what is kept by handles, which are free and in what order; their rows of cells.
  What ArenaKeeps keeps: handles hs they were given, what was laid there; plain.
  Splay forests as plain data: nodes, and what each inner function of the package does to them.
  Trees of a splay forest, plain: what is kept at each node, and what turns do to it.
  What a turn does, handle by handle.
  A turn in a tree.
  Steps of a splay in a tree: the node comes up, what stands in order stays.
  Splay forests, plain: two trees hung together; the last of a tree.
  Flags as numbers: what &^ and & come to.
-/
import Derived.Test.YtndkbhlfbeiniaaM1
namespace Go.Hp
open Go
set_option linter.unusedVariables false

/-! ### rows of equal length, laid end to end -/
theorem flat_length {w : Nat} : ∀ {rows : List (List Value)}, (∀ r ∈ rows, r.length = w) → rows.flatten.length = rows.length * w
  | [], _ => by simp
  | r :: rows, h => by
    rw [List.flatten_cons, List.length_append, h r (.head _), flat_length fun r hr => h r (.tail _ hr), List.length_cons, Nat.succ_mul, Nat.add_comm]
theorem flat_get {w : Nat} : ∀ {rows : List (List Value)} (_ : ∀ r ∈ rows, r.length = w) {i j : Nat} {r : List Value}, rows[i]? = some r → j < w → rows.flatten[i * w + j]? = r[j]?
  | [], _, i, j, r, h, _ => by cases h
  | x :: rows, hw, 0, j, r, h, hj => by
    obtain rfl := Option.some.inj h
    rw [List.flatten_cons, Nat.zero_mul, Nat.zero_add, List.getElem?_append_left (by rw [hw x (.head _)]; exact hj)]
  | x :: rows, hw, i + 1, j, r, h, hj => by
    rw [List.flatten_cons, List.getElem?_append_right (by rw [hw x (.head _), Nat.succ_mul]; omega), hw x (.head _),
      show (i + 1) * w + j - w = i * w + j by rw [Nat.succ_mul]; omega]
    exact flat_get (fun r hr => hw r (.tail _ hr)) (by simpa using h) hj
theorem flat_set {w : Nat} : ∀ {rows : List (List Value)} (_ : ∀ r ∈ rows, r.length = w) {i : Nat} (r : List Value), i < rows.length → ∀ rest : List Value,
    (rows.flatten ++ rest).take (i * w) ++ r ++ (rows.flatten ++ rest).drop (i * w + w) = (rows.set i r).flatten ++ rest
  | [], _, i, r, h, _ => absurd h (by simp)
  | x :: rows, hw, 0, r, h, rest => by
    have hx := hw x (.head _)
    simp only [List.flatten_cons, Nat.zero_mul, List.take_zero, List.nil_append, Nat.zero_add, List.set_cons_zero, List.append_assoc]
    rw [List.drop_append, ← hx]
    simp
  | x :: rows, hw, i + 1, r, h, rest => by
    have hx := hw x (.head _)
    have ih := flat_set (fun r hr => hw r (.tail _ hr)) (rows := rows) (i := i) r (by simpa using h) rest
    simp only [List.flatten_cons, List.set_cons_succ, List.append_assoc]
    rw [show (i + 1) * w = x.length + i * w by rw [hx, Nat.succ_mul]; omega]
    rw [show x.length + i * w + w = x.length + (i * w + w) by omega]
    rw [List.take_length_add_append, List.drop_length_add_append]
    simp only [List.append_assoc] at ih ⊢
    rw [ih]

/-! ### arenas -/
structure Ar where
  room : Nat
  vals : List (Option (List Value))
  free : List Nat
def nextOf : List Nat → Nat → Nat
  | [], _ => 0
  | x :: xs, h => if x = h then xs.headD 0 else nextOf xs h
def slotC (z : List Value) (s : Option (List Value)) (nx : Nat) : List Value :=
  match s with
  | some v => v ++ [.bool true, .int .i64 0]
  | none => z ++ [.bool false, .int .i64 nx]
namespace Ar
def many (A : Ar) : Nat := (A.vals.filter (·.isSome)).length
def get (A : Ar) (h : Nat) : Option (List Value) := (A.vals[h]?).join
def rows (A : Ar) (z : List Value) : List (List Value) := A.vals.mapIdx fun i s => slotC z s (nextOf A.free i)
def handles (A : Ar) : List Nat := (List.range A.vals.length).filter fun h => (A.get h).isSome
structure Ok (A : Ar) (k : Nat) : Prop where
  len : ∀ h v, A.get h = some v → v.length = k
  zero : A.vals[0]? = some none
  nodup : A.free.Nodup
  mem : ∀ h, h ∈ A.free ↔ 1 ≤ h ∧ h < A.vals.length ∧ A.get h = none
  most : A.many ≤ A.room
  room : A.room ≤ 4096
  size : A.vals.length ≤ A.room + 1
def new (room : Nat) : Ar := ⟨room, [none], []⟩
def putNew (A : Ar) (v : List Value) : Ar := { A with vals := A.vals ++ [some v] }
def putOld (A : Ar) (h : Nat) (v : List Value) : Ar := { A with vals := A.vals.set h (some v), free := A.free.tail }
def drop (A : Ar) (h : Nat) : Ar := { A with vals := A.vals.set h none, free := h :: A.free }
def set (A : Ar) (h : Nat) (v : List Value) : Ar := { A with vals := A.vals.set h (some v) }
theorem get_some_lt {A : Ar} {h : Nat} {v : List Value} (hg : A.get h = some v) : h < A.vals.length := by
  unfold get at hg
  rcases Nat.lt_or_ge h A.vals.length with h' | h'
  · exact h'
  · rw [List.getElem?_eq_none h'] at hg; cases hg
theorem get_eq {A : Ar} {h : Nat} (hl : h < A.vals.length) : A.vals[h]? = some (A.get h) := by
  unfold get
  rw [List.getElem?_eq_getElem hl]
  rfl
theorem rows_length (A : Ar) (z : List Value) : (A.rows z).length = A.vals.length := by simp [rows]
theorem rows_get {A : Ar} {z : List Value} {h : Nat} (hl : h < A.vals.length) : (A.rows z)[h]? = some (slotC z (A.get h) (nextOf A.free h)) := by
  unfold rows
  rw [List.getElem?_mapIdx, get_eq hl]
  rfl
theorem rows_w {A : Ar} {z : List Value} {k : Nat} (hz : z.length = k) (ok : A.Ok k) : ∀ r ∈ A.rows z, r.length = k + 2 := by
  intro r hr
  obtain ⟨i, hi⟩ := List.getElem?_of_mem hr
  have hl : i < A.vals.length := by
    rcases Nat.lt_or_ge i A.vals.length with h' | h'
    · exact h'
    · rw [List.getElem?_eq_none (by rw [rows_length]; exact h')] at hi; cases hi
  rw [rows_get hl] at hi
  obtain rfl := Option.some.inj hi
  unfold slotC
  split
  · rename_i v hv
    simp [ok.len i v hv]
  · simp [hz]
/-! counting -/
theorem many_append (l : List (Option (List Value))) (s : Option (List Value)) : ((l ++ [s]).filter (·.isSome)).length = (l.filter (·.isSome)).length + if s.isSome then 1 else 0 := by
  cases s <;> simp [List.filter_append]
theorem many_set : ∀ (l : List (Option (List Value))) (h : Nat) (s t : Option (List Value)), l[h]? = some t →
    ((l.set h s).filter (·.isSome)).length + (if t.isSome then 1 else 0) = (l.filter (·.isSome)).length + if s.isSome then 1 else 0
  | [], h, s, t, ht => by cases ht
  | x :: l, 0, s, t, ht => by
    obtain rfl := Option.some.inj ht
    cases x <;> cases s <;> simp
  | x :: l, h + 1, s, t, ht => by
    have := many_set l h s t (by simpa using ht)
    cases x <;> cases s <;> cases t <;> simp at this ⊢ <;> omega
theorem many_le (l : List (Option (List Value))) : (l.filter (·.isSome)).length ≤ l.length := List.length_filter_le _ _
theorem filter_two : ∀ l : List (Option (List Value)), l.length = (l.filter (·.isSome)).length + (l.filter (fun s => !s.isSome)).length
  | [] => rfl
  | x :: l => by
    have := filter_two l
    cases x <;> simp at this ⊢ <;> omega
theorem count_free (A : Ar) {k : Nat} (ok : A.Ok k) : A.many + A.free.length + 1 = A.vals.length := by
  -- the places that hold nothing are 0 and the free ones
  have h1 : A.vals.length = A.many + (A.vals.filter (fun s => !s.isSome)).length := by
    unfold many
    exact filter_two A.vals
  have h2 : (A.vals.filter (fun s => !s.isSome)).length = ((List.range A.vals.length).filter fun h => !(A.get h).isSome).length := by
    have e : A.vals = (List.range A.vals.length).map A.get := by
      apply List.ext_getElem?
      intro i
      rcases Nat.lt_or_ge i A.vals.length with h' | h'
      · rw [get_eq h']; simp [h']
      · rw [List.getElem?_eq_none h', List.getElem?_eq_none (by simpa using h')]
    conv => lhs; rw [e]
    rw [List.filter_map, List.length_map]
    rfl
  have h3 : ((List.range A.vals.length).filter fun h => !(A.get h).isSome).Perm (0 :: A.free) := by
    rw [List.perm_ext_iff_of_nodup (List.nodup_range.filter _)]
    · intro h
      simp only [List.mem_filter, List.mem_range, Bool.not_eq_true', Option.isSome_eq_false_iff, Option.isNone_iff_eq_none, List.mem_cons, ok.mem]
      constructor
      · rintro ⟨h1, h2⟩
        by_cases h0 : h = 0
        · exact .inl h0
        · exact .inr ⟨by omega, h1, h2⟩
      · rintro (rfl | ⟨_, h1, h2⟩)
        · have := ok.zero
          refine ⟨?_, ?_⟩
          · rcases Nat.lt_or_ge 0 A.vals.length with h' | h'
            · exact h'
            · rw [List.getElem?_eq_none h'] at this; cases this
          · unfold get; rw [this]; rfl
        · exact ⟨h1, h2⟩
    · rw [List.nodup_cons]
      exact ⟨fun h => by have := (ok.mem 0).1 h; omega, ok.nodup⟩
  have h4 := h3.length_eq
  rw [List.length_cons] at h4
  omega
theorem Ok.len_le {A : Ar} {k : Nat} (ok : A.Ok k) : A.vals.length ≤ 4097 := by
  have := ok.size
  have := ok.room
  omega
end Ar
end Go.Hp
namespace Go.Hp
open Go
/-- An arena lies in memory: its header at block p, its slots in block g. -/
structure ArAt (H : Heap) (p g k : Nat) (z : List Value) (A : Ar) : Prop where
  ok : A.Ok k
  zl : z.length = k
  ne : p ≠ g
  at_ : ∃ c rest, Blk H p [.int .i64 A.room, .int .i64 A.many, .slice (some ⟨g, 0, none⟩) A.vals.length c, .int .i64 (A.free.headD 0 : Nat)] ∧
    Blk H g ((A.rows z).flatten ++ rest) ∧ A.vals.length * (k + 2) + rest.length = c * (k + 2) ∧ A.vals.length ≤ c
theorem ArAt.frame {S : Nat → Prop} {H H' : Heap} {p g k : Nat} {z : List Value} {A : Ar} (h : ArAt H p g k z A) (hf : Fr S H H') (h1 : ¬ S p) (h2 : ¬ S g) : ArAt H' p g k z A :=
  ⟨h.ok, h.zl, h.ne, let ⟨c, rest, a, b, d, e⟩ := h.at_; ⟨c, rest, a.frame hf h1, b.frame hf h2, d, e⟩⟩
theorem slot_cell {A : Ar} {z : List Value} {k : Nat} (ok : A.Ok k) (hz : z.length = k) {rest : List Value} {h j : Nat} (hh : h < A.vals.length) (hj : j < k + 2) :
    ((A.rows z).flatten ++ rest)[h * (k + 2) + j]? = (slotC z (A.get h) (nextOf A.free h))[j]? := by
  have hw := Ar.rows_w hz ok
  have hl := flat_length hw
  rw [Ar.rows_length] at hl
  rw [List.getElem?_append_left, flat_get hw (Ar.rows_get hh) hj]
  rw [hl]
  have : (h + 1) * (k + 2) ≤ A.vals.length * (k + 2) := Nat.mul_le_mul_right _ hh
  rw [Nat.succ_mul] at this
  omega
theorem slot_used {A : Ar} {z : List Value} {k : Nat} (ok : A.Ok k) (hz : z.length = k) {rest : List Value} {h : Nat} (hh : h < A.vals.length) :
    ((A.rows z).flatten ++ rest)[h * (k + 2) + k]? = some (.bool (A.get h).isSome) := by
  rw [slot_cell ok hz hh (by omega)]
  unfold slotC
  split
  · rename_i v hv
    rw [List.getElem?_append_right (by rw [ok.len h v hv]; omega), ok.len h v hv, Nat.sub_self]; simp [hv]
  · rename_i hv
    rw [List.getElem?_append_right (by omega), hz, Nat.sub_self]; simp [hv]
theorem slot_next {A : Ar} {z : List Value} {k : Nat} (ok : A.Ok k) (hz : z.length = k) {rest : List Value} {h : Nat} (hh : h < A.vals.length) (hn : A.get h = none) :
    ((A.rows z).flatten ++ rest)[h * (k + 2) + (k + 1)]? = some (.int .i64 (nextOf A.free h)) := by
  rw [slot_cell ok hz hh (by omega)]
  unfold slotC
  rw [hn]
  simp only []
  rw [List.getElem?_append_right (by omega), hz, Nat.add_sub_cancel_left]
  rfl
theorem slot_val {A : Ar} {z : List Value} {k : Nat} (ok : A.Ok k) (hz : z.length = k) {rest : List Value} {h j : Nat} {v : List Value} (hv : A.get h = some v) (hj : j < k) :
    ((A.rows z).flatten ++ rest)[h * (k + 2) + j]? = v[j]? := by
  rw [slot_cell ok hz (Ar.get_some_lt hv) (by omega)]
  unfold slotC
  rw [hv]
  simp only []
  rw [List.getElem?_append_left (by rw [ok.len h v hv]; exact hj)]
end Go.Hp
namespace Go.Hp
open Go
theorem row_set {w : Nat} {rows : List (List Value)} (hw : ∀ r ∈ rows, r.length = w) {i j : Nat} {r : List Value} (hr : rows[i]? = some r) (hj : j < w) (v : Value) (rest : List Value) :
    (rows.flatten ++ rest).set (i * w + j) v = (rows.set i (r.set j v)).flatten ++ rest := by
  have hi : i < rows.length := by
    rcases Nat.lt_or_ge i rows.length with h | h
    · exact h
    · rw [List.getElem?_eq_none h] at hr; cases hr
  have hrl : r.length = w := hw r (List.mem_of_getElem? hr)
  rw [← flat_set hw (r.set j v) hi rest]
  have hfl := flat_length hw
  have hle : i * w + w ≤ rows.length * w := by rw [← Nat.succ_mul]; exact Nat.mul_le_mul_right _ hi
  have hfd : ∀ d, d < w → (rows.flatten ++ rest)[i * w + d]? = r[d]? := fun d hd => by
    rw [List.getElem?_append_left (by rw [hfl]; omega), flat_get hw hr hd]
  have hL : i * w + w ≤ (rows.flatten ++ rest).length := by rw [List.length_append, hfl]; omega
  generalize rows.flatten ++ rest = L at hfd hL ⊢
  apply List.ext_getElem?
  intro x
  have htl : (L.take (i * w)).length = i * w := by rw [List.length_take]; omega
  by_cases h1 : x < i * w
  · rw [List.getElem?_set_ne (by omega), List.append_assoc, List.getElem?_append_left (by rw [htl]; exact h1), List.getElem?_take_of_lt h1]
  · by_cases h2 : x < i * w + w
    · rw [List.append_assoc, List.getElem?_append_right (by rw [htl]; omega), htl, List.getElem?_append_left (by rw [List.length_set, hrl]; omega)]
      by_cases h3 : x = i * w + j
      · subst h3
        rw [List.getElem?_set_self (by omega), Nat.add_sub_cancel_left, List.getElem?_set_self (by omega)]
      · rw [List.getElem?_set_ne (by omega), List.getElem?_set_ne (by omega)]
        obtain ⟨d, rfl⟩ : ∃ d, x = i * w + d := ⟨x - i * w, by omega⟩
        rw [Nat.add_sub_cancel_left, hfd d (by omega)]
    · have hl2 : (L.take (i * w) ++ r.set j v).length = i * w + w := by rw [List.length_append, htl, List.length_set, hrl]
      rw [List.getElem?_set_ne (by omega), List.getElem?_append_right (by rw [hl2]; omega), hl2, List.getElem?_drop]
      congr 1
      omega
namespace Ar
theorem rows_ext {A A' : Ar} {z : List Value} {h : Nat} {s' : Option (List Value)} (hh : h < A.vals.length) (hv : A'.vals = A.vals.set h s')
    (hn : ∀ i, i ≠ h → i < A.vals.length → A.get i = none → nextOf A'.free i = nextOf A.free i) : A'.rows z = (A.rows z).set h (slotC z s' (nextOf A'.free h)) := by
  apply List.ext_getElem?
  intro i
  by_cases hi : i < A.vals.length
  · rw [rows_get (by rw [hv]; simpa using hi)]
    by_cases e : i = h
    · subst e
      rw [List.getElem?_set_self (by rw [rows_length]; exact hh)]
      have : A'.get i = s' := by unfold get; rw [hv, List.getElem?_set_self hh]; rfl
      rw [this]
    · rw [List.getElem?_set_ne (Ne.symm e), rows_get hi]
      have : A'.get i = A.get i := by unfold get; rw [hv, List.getElem?_set_ne (Ne.symm e)]
      rw [this]
      cases hg : A.get i with
      | some v => rfl
      | none => rw [hn i e hi hg]
  · rw [List.getElem?_eq_none (by rw [rows_length, hv]; simpa using hi), List.getElem?_eq_none (by rw [List.length_set, rows_length]; omega)]
theorem get_set {A : Ar} {h i : Nat} {s : Option (List Value)} (hh : h < A.vals.length) : ((A.vals.set h s)[i]?).join = if i = h then s else A.get i := by
  unfold get
  by_cases e : i = h
  · subst e
    rw [List.getElem?_set_self hh, if_pos rfl]; rfl
  · rw [List.getElem?_set_ne (Ne.symm e), if_neg e]
theorem get_mk {r : Nat} {vs : List (Option (List Value))} {f : List Nat} (i : Nat) : (Ar.mk r vs f).get i = (vs[i]?).join := rfl
theorem pos_of_get {A : Ar} {k h : Nat} {v : List Value} (ok : A.Ok k) (hg : A.get h = some v) : 1 ≤ h := by
  rcases Nat.eq_zero_or_pos h with h0 | h0
  · subst h0
    unfold Ar.get at hg
    rw [ok.zero] at hg
    cases hg
  · exact h0
theorem Ok.new {k n : Nat} (hn : n ≤ 4096) : (Ar.new n).Ok k where
  len := fun h v hv => by
    unfold Ar.new get at hv
    cases h <;> simp at hv
  zero := rfl
  nodup := List.nodup_nil
  mem := fun h => by
    simp only [Ar.new, List.not_mem_nil, List.length_cons, List.length_nil, false_iff]
    omega
  most := by simp [Ar.new, many]
  room := hn
  size := by simp [Ar.new]
theorem Ok.set {A : Ar} {k h : Nat} {u v : List Value} (ok : A.Ok k) (hg : A.get h = some u) (hv : v.length = k) : (A.set h v).Ok k := by
  have hl := get_some_lt hg
  have h1 := pos_of_get ok hg
  have hgs : ∀ i, (A.set h v).get i = if i = h then some v else A.get i := fun i => get_set hl
  refine ⟨fun i w hw => ?_, ?_, ok.nodup, fun i => ?_, ?_, ok.room, by simpa [Ar.set] using ok.size⟩
  · rw [hgs] at hw
    split at hw
    · rw [← Option.some.inj hw]; exact hv
    · exact ok.len i w hw
  · show (A.vals.set h (some v))[0]? = _
    rw [List.getElem?_set_ne (by omega)]; exact ok.zero
  · show i ∈ A.free ↔ _
    rw [ok.mem, hgs]
    show _ ↔ 1 ≤ i ∧ i < (A.vals.set h (some v)).length ∧ _
    rw [List.length_set]
    by_cases e : i = h
    · subst e; rw [if_pos rfl, hg]; simp
    · rw [if_neg e]
  · have := many_set A.vals h (some v) (some u) (by rw [get_eq hl, hg])
    have h2 := ok.most
    unfold many at h2
    show ((A.vals.set h (some v)).filter (·.isSome)).length ≤ A.room
    simp at this
    omega
theorem many_set' {A : Ar} {h : Nat} {u v : List Value} (hg : A.get h = some u) : (A.set h v).many = A.many := by
  have := many_set A.vals h (some v) (some u) (by rw [get_eq (get_some_lt hg), hg])
  simp at this
  exact this
theorem many_drop {A : Ar} {h : Nat} {u : List Value} (hg : A.get h = some u) : (A.drop h).many + 1 = A.many := by
  have := many_set A.vals h none (some u) (by rw [get_eq (get_some_lt hg), hg])
  simp at this
  exact this
theorem Ok.drop {A : Ar} {k h : Nat} {u : List Value} (ok : A.Ok k) (hg : A.get h = some u) : (A.drop h).Ok k := by
  have hl := get_some_lt hg
  have h1 := pos_of_get ok hg
  have hgs : ∀ i, (A.drop h).get i = if i = h then none else A.get i := fun i => get_set hl
  refine ⟨fun i w hw => ?_, ?_, ?_, fun i => ?_, ?_, ok.room, by simpa [Ar.drop] using ok.size⟩
  · rw [hgs] at hw
    split at hw
    · cases hw
    · exact ok.len i w hw
  · show (A.vals.set h none)[0]? = _
    rw [List.getElem?_set_ne (by omega)]; exact ok.zero
  · show (h :: A.free).Nodup
    rw [List.nodup_cons, ok.mem, hg]
    exact ⟨by simp, ok.nodup⟩
  · show i ∈ h :: A.free ↔ 1 ≤ i ∧ i < (A.vals.set h none).length ∧ _
    rw [List.mem_cons, ok.mem, hgs, List.length_set]
    by_cases e : i = h
    · subst e; simp [h1, hl]
    · simp [e]
  · have := many_drop (A := A) hg
    have := ok.most
    show (A.drop h).many ≤ A.room
    omega
theorem many_putOld {A : Ar} {k h : Nat} {v : List Value} (ok : A.Ok k) (hf : h ∈ A.free) : (A.putOld h v).many = A.many + 1 := by
  obtain ⟨h1, hl, hg⟩ := (ok.mem h).1 hf
  have := many_set A.vals h (some v) none (by rw [get_eq hl, hg])
  simp at this
  exact this
theorem Ok.putOld {A : Ar} {k h : Nat} {fs : List Nat} {v : List Value} (ok : A.Ok k) (hf : A.free = h :: fs) (hm : A.many < A.room) (hv : v.length = k) : (A.putOld h v).Ok k := by
  obtain ⟨h1, hl, hg⟩ := (ok.mem h).1 (by rw [hf]; exact .head _)
  have hgs : ∀ i, (A.putOld h v).get i = if i = h then some v else A.get i := fun i => get_set hl
  have hnd := ok.nodup
  rw [hf, List.nodup_cons] at hnd
  refine ⟨fun i w hw => ?_, ?_, ?_, fun i => ?_, ?_, ok.room, by simpa [Ar.putOld] using ok.size⟩
  · rw [hgs] at hw
    split at hw
    · rw [← Option.some.inj hw]; exact hv
    · exact ok.len i w hw
  · show (A.vals.set h (some v))[0]? = _
    rw [List.getElem?_set_ne (by omega)]; exact ok.zero
  · show (A.free.tail).Nodup
    rw [hf]; exact hnd.2
  · show i ∈ A.free.tail ↔ 1 ≤ i ∧ i < (A.vals.set h (some v)).length ∧ _
    have := ok.mem i
    rw [hf, List.mem_cons] at this
    rw [hf, List.tail_cons, hgs, List.length_set]
    by_cases e : i = h
    · subst e; simp [hnd.1]
    · simp [e] at this ⊢; exact this
  · rw [many_putOld ok (by rw [hf]; exact .head _)]
    exact hm
theorem many_putNew {A : Ar} {v : List Value} : (A.putNew v).many = A.many + 1 := by
  unfold many Ar.putNew
  simp only [many_append]
  rfl
theorem get_putNew {A : Ar} {v : List Value} (i : Nat) : (A.putNew v).get i = if i = A.vals.length then some v else A.get i := by
  show ((A.vals ++ [some v])[i]?).join = _
  by_cases e : i = A.vals.length
  · subst e; simp
  · rw [if_neg e]
    unfold get
    rcases Nat.lt_or_ge i A.vals.length with h | h
    · rw [List.getElem?_append_left h]
    · rw [List.getElem?_eq_none (by simp; omega), List.getElem?_eq_none h]
theorem Ok.putNew {A : Ar} {k : Nat} {v : List Value} (ok : A.Ok k) (hf : A.free = []) (hm : A.many < A.room) (hv : v.length = k) : (A.putNew v).Ok k := by
  have hpos : 0 < A.vals.length := by
    rcases Nat.eq_zero_or_pos A.vals.length with h | h
    · have := ok.zero
      rw [List.getElem?_eq_none (by omega)] at this; cases this
    · exact h
  have hcf := count_free A ok
  rw [hf, List.length_nil] at hcf
  refine ⟨fun i w hw => ?_, ?_, ok.nodup, fun i => ?_, ?_, ok.room, by show (A.vals ++ [some v]).length ≤ A.room + 1; simp; omega⟩
  · rw [get_putNew] at hw
    split at hw
    · rw [← Option.some.inj hw]; exact hv
    · exact ok.len i w hw
  · show (A.vals ++ [some v])[0]? = _
    rw [List.getElem?_append_left hpos]; exact ok.zero
  · show i ∈ A.free ↔ 1 ≤ i ∧ i < (A.vals ++ [some v]).length ∧ _
    have := ok.mem i
    rw [hf] at this ⊢
    rw [get_putNew, List.length_append, List.length_singleton]
    simp only [List.not_mem_nil, false_iff] at this ⊢
    by_cases e : i = A.vals.length
    · rw [if_pos e]; simp
    · rw [if_neg e]
      rintro ⟨a, b, c⟩
      exact this ⟨a, by omega, c⟩
  · rw [many_putNew]; exact hm
theorem rows_putNew {A : Ar} {z v : List Value} : (A.putNew v).rows z = A.rows z ++ [slotC z (some v) 0] := by
  unfold rows Ar.putNew
  simp [List.mapIdx_append, slotC]
end Ar
end Go.Hp
namespace Go.Hp
open Go
theorem rows3 {rows : List (List Value)} (hw : ∀ r ∈ rows, r.length = 3) {i : Nat} (hi : i < rows.length) (a b c : Value) (rest : List Value) :
    (((rows.flatten ++ rest).set (i * 3) a).set (i * 3 + 1) b).set (i * 3 + 2) c = (rows.set i [a, b, c]).flatten ++ rest := by
  have hr : rows[i]? = some rows[i] := List.getElem?_eq_getElem hi
  have hl := hw _ (List.getElem_mem hi)
  have s0 := row_set hw hr (show 0 < 3 by omega) a rest
  rw [Nat.add_zero] at s0
  have hw1 : ∀ r ∈ rows.set i (rows[i].set 0 a), r.length = 3 := fun r hr => by
    rcases List.mem_or_eq_of_mem_set hr with h | h
    · exact hw r h
    · rw [h, List.length_set, hl]
  have s1 := row_set hw1 (i := i) (j := 1) (r := rows[i].set 0 a) (by simp [hi]) (by omega) b rest
  have hw2 : ∀ r ∈ (rows.set i (rows[i].set 0 a)).set i ((rows[i].set 0 a).set 1 b), r.length = 3 := fun r hr => by
    rcases List.mem_or_eq_of_mem_set hr with h | h
    · exact hw1 r h
    · rw [h]; simp [hl]
  have s2 := row_set hw2 (i := i) (j := 2) (r := (rows[i].set 0 a).set 1 b) (by simp [hi]) (by omega) c rest
  rw [s0, s1, s2]
  simp only [List.set_set]
  have e : ((rows[i].set 0 a).set 1 b).set 2 c = [a, b, c] := by
    match rows[i], hl with
    | [_, _, _], _ => rfl
  rw [e]
theorem rows4 {rows : List (List Value)} (hw : ∀ r ∈ rows, r.length = 4) {i : Nat} (hi : i < rows.length) (a b c d : Value) (rest : List Value) :
    ((((rows.flatten ++ rest).set (i * 4) a).set (i * 4 + 1) b).set (i * 4 + 2) c).set (i * 4 + 3) d = (rows.set i [a, b, c, d]).flatten ++ rest := by
  have hr : rows[i]? = some rows[i] := List.getElem?_eq_getElem hi
  have hl := hw _ (List.getElem_mem hi)
  have s0 := row_set hw hr (show 0 < 4 by omega) a rest
  rw [Nat.add_zero] at s0
  have hw1 : ∀ r ∈ rows.set i (rows[i].set 0 a), r.length = 4 := fun r hr => by
    rcases List.mem_or_eq_of_mem_set hr with h | h
    · exact hw r h
    · rw [h, List.length_set, hl]
  have s1 := row_set hw1 (i := i) (j := 1) (r := rows[i].set 0 a) (by simp [hi]) (by omega) b rest
  have hw2 : ∀ r ∈ (rows.set i (rows[i].set 0 a)).set i ((rows[i].set 0 a).set 1 b), r.length = 4 := fun r hr => by
    rcases List.mem_or_eq_of_mem_set hr with h | h
    · exact hw1 r h
    · rw [h]; simp [hl]
  have s2 := row_set hw2 (i := i) (j := 2) (r := (rows[i].set 0 a).set 1 b) (by simp [hi]) (by omega) c rest
  have hw3 : ∀ r ∈ ((rows.set i (rows[i].set 0 a)).set i ((rows[i].set 0 a).set 1 b)).set i (((rows[i].set 0 a).set 1 b).set 2 c), r.length = 4 := fun r hr => by
    rcases List.mem_or_eq_of_mem_set hr with h | h
    · exact hw2 r h
    · rw [h]; simp [hl]
  have s3 := row_set hw3 (i := i) (j := 3) (r := ((rows[i].set 0 a).set 1 b).set 2 c) (by simp [hi]) (by omega) d rest
  rw [s0, s1, s2, s3]
  simp only [List.set_set]
  have e : (((rows[i].set 0 a).set 1 b).set 2 c).set 3 d = [a, b, c, d] := by
    match rows[i], hl with
    | [_, _, _, _], _ => rfl
  rw [e]
theorem rows_set {A : Ar} {z : List Value} {h : Nat} (v : List Value) (hh : h < A.vals.length) : (A.set h v).rows z = (A.rows z).set h (v ++ [.bool true, .int .i64 0]) :=
  Ar.rows_ext (A' := A.set h v) (s' := some v) hh rfl fun _ _ _ _ => rfl
theorem rows_drop {A : Ar} {z : List Value} {h : Nat} (hh : h < A.vals.length) : (A.drop h).rows z = (A.rows z).set h (z ++ [.bool false, .int .i64 (A.free.headD 0 : Nat)]) := by
  rw [Ar.rows_ext (A' := A.drop h) (s' := none) hh rfl fun i hi _ _ => by simp [Ar.drop, nextOf, Ne.symm hi]]
  simp [slotC, Ar.drop, nextOf]
theorem rows_putOld {A : Ar} {k : Nat} {z : List Value} {h : Nat} {fs : List Nat} (v : List Value) (ok : A.Ok k) (hf : A.free = h :: fs) : (A.putOld h v).rows z = (A.rows z).set h (v ++ [.bool true, .int .i64 0]) :=
  Ar.rows_ext (A' := A.putOld h v) (s' := some v) ((ok.mem h).1 (by rw [hf]; exact .head _)).2.1 rfl fun i hi _ _ => by simp [Ar.putOld, hf, nextOf, Ne.symm hi]
theorem off_lt {A : Ar} {z : List Value} {k h j : Nat} (hz : z.length = k) (ok : A.Ok k) (hh : h < A.vals.length) (hj : j < k + 2) (rest : List Value) : h * (k + 2) + j < ((A.rows z).flatten ++ rest).length := by
  have hfl := flat_length (Ar.rows_w hz ok)
  rw [Ar.rows_length] at hfl
  have : (h + 1) * (k + 2) ≤ A.vals.length * (k + 2) := Nat.mul_le_mul_right _ hh
  rw [Nat.succ_mul] at this
  rw [List.length_append, hfl]
  omega
end Go.Hp

namespace Go.Hp
open Go
set_option linter.unusedVariables false

/-- hs: the handles, as they were given; ws: what was laid there (below 0: it was dropped); of the first n numbers l. -/
structure Keep (G : Nat → Option (List Value)) (l : Nat → Int) (hs ws : List Int) (n : Nat) : Prop where
  len : hs.length = ws.length
  le : hs.length ≤ n
  live : ∀ (k : Nat) (a w : Int), hs[k]? = some a → ws[k]? = some w → 0 ≤ w → w.toNat < n ∧ G a.toNat = some [.int .i64 w, .int .i64 (l w.toNat)]
  last : ∀ (j k : Nat) (a w : Int), hs[j]? = some a → ws[j]? = some w → 0 ≤ w → hs[k]? = some a → k ≤ j
  all : ∀ (h : Nat) v, G h = some v → ∃ (k : Nat) (w : Int), hs[k]? = some (h : Int) ∧ ws[k]? = some w ∧ 0 ≤ w
  hand : ∀ (k : Nat) (a : Int), hs[k]? = some a → 1 ≤ a
theorem Keep.nil (l : Nat → Int) (n : Nat) : Keep (fun _ => none) l [] [] n :=
  ⟨rfl, Nat.zero_le _, fun k a w h => (by simp at h), fun j k a w h => (by simp at h), fun h v e => (by cases e), fun k a h => (by simp at h)⟩
theorem Keep.mono {G : Nat → Option (List Value)} {l : Nat → Int} {hs ws : List Int} {n m : Nat} (h : Keep G l hs ws n) (hm : n ≤ m) : Keep G l hs ws m :=
  ⟨h.len, Nat.le_trans h.le hm, fun k a w h1 h2 h3 => ⟨by have := (h.live k a w h1 h2 h3).1; omega, (h.live k a w h1 h2 h3).2⟩, h.last, h.all, h.hand⟩
theorem get_snoc {α : Type} {xs : List α} {x y : α} {k : Nat} (h : (xs ++ [x])[k]? = some y) : (xs[k]? = some y ∧ k < xs.length) ∨ (k = xs.length ∧ y = x) := by
  rcases Nat.lt_trichotomy k xs.length with hk | hk | hk
  · rw [List.getElem?_append_left hk] at h; exact .inl ⟨h, hk⟩
  · subst hk; simp at h; exact .inr ⟨rfl, h.symm⟩
  · rw [List.getElem?_eq_none (by simp; omega)] at h; cases h
theorem Keep.put {G G' : Nat → Option (List Value)} {l : Nat → Int} {hs ws : List Int} {n h : Nat} (hK : Keep G l hs ws n) (h1 : 1 ≤ h) (h0 : G h = none)
    (hG : ∀ i, G' i = if i = h then some [.int .i64 (n : Int), .int .i64 (l n)] else G i) : Keep G' l (hs ++ [(h : Int)]) (ws ++ [(n : Int)]) (n + 1) where
  len := by simp [hK.len]
  le := by have := hK.le; simp; omega
  live := fun k a w ha hw h0w => by
    rcases get_snoc ha with ⟨ha, hk⟩ | ⟨rfl, rfl⟩
    · rcases get_snoc hw with ⟨hw, _⟩ | ⟨hk', rfl⟩
      · obtain ⟨h2, h3⟩ := hK.live k a w ha hw h0w
        refine ⟨by omega, ?_⟩
        rw [hG, if_neg (fun e => by rw [e, h0] at h3; cases h3)]
        exact h3
      · have := hK.len; omega
    · rcases get_snoc hw with ⟨hw, hk⟩ | ⟨_, rfl⟩
      · have := hK.len; omega
      · refine ⟨by simp, ?_⟩
        rw [hG]
        simp
  last := fun j k a w ha hw h0w hk => by
    rcases get_snoc ha with ⟨ha, hj⟩ | ⟨rfl, rfl⟩
    · rcases get_snoc hw with ⟨hw, _⟩ | ⟨hk', rfl⟩
      · rcases get_snoc hk with ⟨hk, _⟩ | ⟨_, rfl⟩
        · exact hK.last j k a w ha hw h0w hk
        · have := (hK.live j _ w ha hw h0w).2
          rw [Int.toNat_natCast, h0] at this
          cases this
      · have := hK.len; omega
    · rcases get_snoc hk with ⟨_, hk⟩ | ⟨rfl, _⟩ <;> omega
  all := fun i v hi => by
    rw [hG] at hi
    by_cases e : i = h
    · subst e
      exact ⟨hs.length, n, by simp, by rw [hK.len]; simp, by omega⟩
    · rw [if_neg e] at hi
      obtain ⟨k, w, h1, h2, h3⟩ := hK.all i v hi
      have hk := (List.getElem?_eq_some_iff.1 h1).1
      exact ⟨k, w, by rw [List.getElem?_append_left hk]; exact h1, by rw [List.getElem?_append_left (by rw [← hK.len]; exact hk)]; exact h2, h3⟩
  hand := fun k a ha => by
    rcases get_snoc ha with ⟨ha, hk⟩ | ⟨rfl, rfl⟩
    · exact hK.hand k a ha
    · omega
theorem Keep.drop {G G' : Nat → Option (List Value)} {l : Nat → Int} {hs ws ws' : List Int} {n h : Nat} (hK : Keep G l hs ws n) (hl : ws'.length = ws.length)
    (hw : ∀ (k : Nat) (a w : Int), hs[k]? = some a → ws[k]? = some w → ws'[k]? = some (if a = (h : Int) then -1 else w))
    (hG : ∀ i, G' i = if i = h then none else G i) : Keep G' l hs ws' n := by
  have back : ∀ (k : Nat) (a w : Int), hs[k]? = some a → ws'[k]? = some w → 0 ≤ w → ws[k]? = some w ∧ a ≠ (h : Int) := fun k a w h1 h2 h3 => by
    have hk := (List.getElem?_eq_some_iff.1 h1).1
    have hk2 : k < ws.length := by rw [← hK.len]; exact hk
    have h4 := hw k a ws[k] h1 (List.getElem?_eq_getElem hk2)
    rw [h4] at h2
    have h5 := Option.some.inj h2
    by_cases e : a = (h : Int)
    · rw [if_pos e] at h5; omega
    · rw [if_neg e] at h5
      exact ⟨by rw [List.getElem?_eq_getElem hk2, h5], e⟩
  exact {
    len := by rw [hl]; exact hK.len
    le := hK.le
    live := fun k a w h1 h2 h3 => by
      obtain ⟨h4, h5⟩ := back k a w h1 h2 h3
      obtain ⟨h6, h7⟩ := hK.live k a w h1 h4 h3
      have := hK.hand k a h1
      refine ⟨h6, ?_⟩
      rw [hG, if_neg (by omega)]
      exact h7
    last := fun j k a w h1 h2 h3 h4 => hK.last j k a w h1 (back j a w h1 h2 h3).1 h3 h4
    all := fun i v hi => by
      rw [hG] at hi
      by_cases e : i = h
      · rw [if_pos e] at hi; cases hi
      · rw [if_neg e] at hi
        obtain ⟨k, w, h1, h2, h3⟩ := hK.all i v hi
        refine ⟨k, w, h1, ?_, h3⟩
        rw [hw k i w h1 h2, if_neg (by omega)]
    hand := hK.hand }
theorem Ar.many_handles (A : Ar) : A.many = A.handles.length := by
  have e : A.vals = (List.range A.vals.length).map A.get := by
    apply List.ext_getElem?
    intro i
    rcases Nat.lt_or_ge i A.vals.length with h' | h'
    · rw [Ar.get_eq h']; simp [h']
    · rw [List.getElem?_eq_none h', List.getElem?_eq_none (by simpa using h')]
  unfold Ar.many Ar.handles
  conv => lhs; rw [e]
  rw [List.filter_map, List.length_map]
  rfl
def liveN (ws : List Int) (i : Nat) : Nat := ((List.range i).filter fun k => decide (0 ≤ ws.getD k (-1))).length
theorem liveN_succ (ws : List Int) (i : Nat) : liveN ws (i + 1) = liveN ws i + if 0 ≤ ws.getD i (-1) then 1 else 0 := by
  unfold liveN
  rw [List.range_succ, List.filter_append, List.length_append]
  congr 1
  by_cases h : 0 ≤ ws.getD i (-1)
  · rw [if_pos h]; simp only [List.filter_cons, h, decide_true, if_true, List.filter_nil, List.length_singleton]
  · rw [if_neg h]; simp only [List.filter_cons, h, decide_false, Bool.false_eq_true, if_false, List.filter_nil, List.length_nil]
theorem liveN_le (ws : List Int) (i : Nat) : liveN ws i ≤ i := by
  unfold liveN
  exact Nat.le_trans (List.length_filter_le _ _) (by simp)
theorem Keep.count {A : Ar} {l : Nat → Int} {hs ws : List Int} {n : Nat} (hK : Keep A.get l hs ws n) : liveN ws hs.length = A.many := by
  rw [Ar.many_handles]
  unfold liveN
  have hp : (((List.range hs.length).filter fun k => decide (0 ≤ ws.getD k (-1))).map fun k => (hs.getD k 0).toNat).Perm A.handles := by
    rw [List.perm_ext_iff_of_nodup]
    · intro h
      simp only [List.mem_map, List.mem_filter, List.mem_range, decide_eq_true_eq, Ar.handles]
      constructor
      · rintro ⟨k, ⟨hk, hw⟩, rfl⟩
        have hk2 : k < ws.length := by rw [← hK.len]; exact hk
        have ha : hs[k]? = some (hs.getD k 0) := by rw [List.getD_eq_getElem?_getD, List.getElem?_eq_getElem hk]; rfl
        have hw' : ws[k]? = some (ws.getD k (-1)) := by rw [List.getD_eq_getElem?_getD, List.getElem?_eq_getElem hk2]; rfl
        have := (hK.live k _ _ ha hw' hw).2
        exact ⟨Ar.get_some_lt this, by rw [this]; rfl⟩
      · rintro ⟨h1, h2⟩
        obtain ⟨v, hv⟩ := Option.isSome_iff_exists.1 h2
        obtain ⟨k, w, h3, h4, h5⟩ := hK.all h v hv
        refine ⟨k, ⟨(List.getElem?_eq_some_iff.1 h3).1, ?_⟩, ?_⟩
        · rw [List.getD_eq_getElem?_getD, h4]; exact h5
        · rw [List.getD_eq_getElem?_getD, h3]; simp
    · rw [List.nodup_iff_pairwise_ne, List.pairwise_map]
      refine ((List.nodup_iff_pairwise_ne.1 (List.nodup_range.filter _)).imp_of_mem ?_)
      intro j k hj hk hne he
      simp only [List.mem_filter, List.mem_range, decide_eq_true_eq] at hj hk
      have f : ∀ k, k < hs.length → hs[k]? = some (hs.getD k 0) ∧ ws[k]? = some (ws.getD k (-1)) := fun k hk => by
        have hk2 : k < ws.length := by rw [← hK.len]; exact hk
        exact ⟨by rw [List.getD_eq_getElem?_getD, List.getElem?_eq_getElem hk]; rfl, by rw [List.getD_eq_getElem?_getD, List.getElem?_eq_getElem hk2]; rfl⟩
      have e : hs.getD j 0 = hs.getD k 0 := by
        have := hK.hand j _ (f j hj.1).1
        have := hK.hand k _ (f k hk.1).1
        omega
      have a1 := hK.last j k _ _ (f j hj.1).1 (f j hj.1).2 hj.2 (by rw [e]; exact (f k hk.1).1)
      have a2 := hK.last k j _ _ (f k hk.1).1 (f k hk.1).2 hk.2 (by rw [← e]; exact (f j hj.1).1)
      omega
    · exact List.nodup_range.filter _
  rw [← hp.length_eq, List.length_map]
theorem Ar.get_putOld {A : Ar} {k h : Nat} {fs : List Nat} {v : List Value} (ok : A.Ok k) (hf : A.free = h :: fs) (i : Nat) : (A.putOld h v).get i = if i = h then some v else A.get i :=
  Ar.get_set ((ok.mem h).1 (by rw [hf]; exact .head _)).2.1
theorem Ar.get_drop {A : Ar} {h : Nat} {u : List Value} (hg : A.get h = some u) (i : Nat) : (A.drop h).get i = if i = h then none else A.get i :=
  Ar.get_set (Ar.get_some_lt hg)
end Go.Hp

namespace Go.Sp
open Go Go.Hp
set_option linter.unusedVariables false

def w64 (x : Int) : Int := IntKind.i64.wrap x
def or64 (a b : Int) : Int := bitOr .i64 a b
structure Item where
  value : Int
  counts : Bool
  flags : Int
  deriving DecidableEq
structure Agg where
  count : Int
  sum : Int
  least : Int
  most : Int
  flags : Int
  deriving DecidableEq
def Item.cells (x : Item) : List Value := [.int .i64 x.value, .bool x.counts, .int .i64 x.flags]
def Item.val (x : Item) : Value := .agg #[.int .i64 x.value, .bool x.counts, .int .i64 x.flags]
def Agg.val (a : Agg) : Value := .agg #[.int .i64 a.count, .int .i64 a.sum, .int .i64 a.least, .int .i64 a.most, .int .i64 a.flags]
def Agg.zero : Agg := ⟨0, 0, 0, 0, 0⟩
def Item.zero : Item := ⟨0, false, 0⟩
def minI (a b : Int) : Int := if b < a then b else a
def maxI (a b : Int) : Int := if b > a then b else a
def plusA (a b : Agg) : Agg where
  count := w64 (a.count + b.count)
  sum := w64 (a.sum + b.sum)
  least := if a.count = 0 then b.least else if b.count = 0 then a.least else minI a.least b.least
  most := if a.count = 0 then b.most else if b.count = 0 then a.most else maxI a.most b.most
  flags := or64 a.flags b.flags
def ownA (x : Item) : Agg := if x.counts then ⟨1, x.value, x.value, x.value, x.flags⟩ else ⟨0, 0, 0, 0, x.flags⟩
structure Rec where
  item : Item
  up : Nat
  l : Nat
  r : Nat
  many : Int
  total : Agg
def Rec.cells (r : Rec) : List Value :=
  [.int .i64 r.item.value, .bool r.item.counts, .int .i64 r.item.flags, .int .i64 r.up, .int .i64 r.l, .int .i64 r.r, .int .i64 r.many,
    .int .i64 r.total.count, .int .i64 r.total.sum, .int .i64 r.total.least, .int .i64 r.total.most, .int .i64 r.total.flags]
def Rec.kid (r : Rec) (s : Nat) : Nat := if s = 0 then r.l else r.r
def Rec.setKid (r : Rec) (s x : Nat) : Rec := if s = 0 then { r with l := x } else { r with r := x }
abbrev Nodes := Nat → Rec
def upd (N : Nodes) (h : Nat) (r : Rec) : Nodes := fun i => if i = h then r else N i
theorem upd_same (N : Nodes) (h : Nat) (r : Rec) : upd N h r h = r := if_pos rfl
theorem upd_ne (N : Nodes) {h i : Nat} (r : Rec) (hi : i ≠ h) : upd N h r i = N i := if_neg hi
def belowN (N : Nodes) (k : Nat) : Int × Agg := if k = 0 then (0, Agg.zero) else ((N k).many, (N k).total)
def pullR (N : Nodes) (h : Nat) : Rec :=
  { N h with many := w64 (w64 ((belowN N (N h).l).1 + 1) + (belowN N (N h).r).1), total := plusA (plusA (belowN N (N h).l).2 (ownA (N h).item)) (belowN N (N h).r).2 }
def pullN (N : Nodes) (h : Nat) : Nodes := upd N h (pullR N h)
def hangN (N : Nodes) (up s h : Nat) : Nodes :=
  if h = 0 then upd N up ((N up).setKid s h) else upd (upd N up ((N up).setKid s h)) h { upd N up ((N up).setKid s h) h with up := up }
def sideN (N : Nodes) (up h : Nat) : Nat := if (N up).r = h then 1 else 0
def turn2 (N1 : Nodes) (top up h : Nat) : Nodes := if top = 0 then N1 else upd N1 top ((N1 top).setKid (sideN N1 top up) h)
def setUp (N : Nodes) (h top : Nat) : Nodes := upd N h { N h with up := top }
def turnN (N : Nodes) (h : Nat) : Nodes :=
  pullN (pullN (hangN (setUp (turn2 (hangN N (N h).up (sideN N (N h).up h) ((N h).kid (1 - sideN N (N h).up h))) (N (N h).up).up (N h).up h) h (N (N h).up).up) h (1 - sideN N (N h).up h) (N h).up) (N h).up) h
def stepN (N : Nodes) (h : Nat) : Nodes :=
  if (N (N h).up).up = 0 then turnN N h
  else if sideN N (N (N h).up).up (N h).up = sideN N (N h).up h then turnN (turnN N (N h).up) h
  else turnN (turnN N h) h
/-- The first turn of a step, and what there must be for the second. -/
def first (N : Nodes) (k : Nat) : Nodes := if sideN N (N (N k).up).up (N k).up = sideN N (N k).up k then turnN N (N k).up else turnN N k
def stepOk (N : Nodes) (k : Nat) : Prop := (N k).up ≠ 0 ∧ ((N (N k).up).up ≠ 0 → (first N k k).up ≠ 0)
/-- Whatever hangs anywhere is a node in use. -/
structure Cl (U : Nat → Prop) (N : Nodes) : Prop where
  up : ∀ h, U h → (N h).up = 0 ∨ U (N h).up
  l : ∀ h, U h → (N h).l = 0 ∨ U (N h).l
  r : ∀ h, U h → (N h).r = 0 ∨ U (N h).r
theorem Cl.upd {U : Nat → Prop} {N : Nodes} (h : Cl U N) {i : Nat} {r : Rec} (h1 : r.up = 0 ∨ U r.up) (h2 : r.l = 0 ∨ U r.l) (h3 : r.r = 0 ∨ U r.r) : Cl U (upd N i r) where
  up := fun k hk => by unfold Sp.upd; by_cases e : k = i <;> simp only [e, if_true, if_false]; · exact h1
                       exact h.up k hk
  l := fun k hk => by unfold Sp.upd; by_cases e : k = i <;> simp only [e, if_true, if_false]; · exact h2
                      exact h.l k hk
  r := fun k hk => by unfold Sp.upd; by_cases e : k = i <;> simp only [e, if_true, if_false]; · exact h3
                      exact h.r k hk
theorem Cl.kid {U : Nat → Prop} {N : Nodes} (h : Cl U N) {k s : Nat} (hk : U k) : (N k).kid s = 0 ∨ U ((N k).kid s) := by
  unfold Rec.kid
  split
  · exact h.l k hk
  · exact h.r k hk
theorem Cl.pull {U : Nat → Prop} {N : Nodes} (h : Cl U N) {k : Nat} (hk : U k) : Cl U (pullN N k) := h.upd (h.up k hk) (h.l k hk) (h.r k hk)
theorem Cl.setKid {U : Nat → Prop} {N : Nodes} (h : Cl U N) {k s x : Nat} (hk : U k) (hx : x = 0 ∨ U x) : Cl U (Sp.upd N k ((N k).setKid s x)) := by
  unfold Rec.setKid
  split
  · exact h.upd (h.up k hk) hx (h.r k hk)
  · exact h.upd (h.up k hk) (h.l k hk) hx
theorem Cl.setUp {U : Nat → Prop} {N : Nodes} (h : Cl U N) {k x : Nat} (hk : U k) (hx : x = 0 ∨ U x) : Cl U (setUp N k x) := h.upd hx (h.l k hk) (h.r k hk)
theorem Cl.hang {U : Nat → Prop} {N : Nodes} (h : Cl U N) {k s x : Nat} (hk : U k) (hx : x = 0 ∨ U x) : Cl U (hangN N k s x) := by
  unfold hangN
  split
  · exact h.setKid hk hx
  · rename_i h0
    have hU := hx.resolve_left h0
    have h' := h.setKid (s := s) hk hx
    exact h'.upd (.inr hk) (h'.l x hU) (h'.r x hU)
theorem Cl.turn2 {U : Nat → Prop} {N : Nodes} (h : Cl U N) {top up k : Nat} (ht : top = 0 ∨ U top) (hk : U k) : Cl U (turn2 N top up k) := by
  unfold Sp.turn2
  split
  · exact h
  · rename_i h0
    exact h.setKid (ht.resolve_left h0) (.inr hk)
theorem Cl.turn {U : Nat → Prop} {N : Nodes} (h : Cl U N) {k : Nat} (hk : U k) (hu : U (N k).up) : Cl U (turnN N k) := by
  unfold turnN
  refine Cl.pull (Cl.pull (Cl.hang (Cl.setUp (Cl.turn2 (h.hang hu (h.kid hk)) (h.up _ hu) hk) hk (h.up _ hu)) hk (.inr hu)) hu) hk
end Go.Sp

namespace Go.Sp
open Go Go.Hp
set_option linter.unusedVariables false

/-- An item that may be. -/
structure May (x : Item) : Prop where
  lo : -1099511627776 ≤ x.value
  hi : x.value ≤ 1099511627776
  f0 : 0 ≤ x.flags
  f1 : x.flags < 256
def valsL (xs : List Item) : List Int := (xs.filter (·.counts)).map (·.value)
def minL : List Int → Int
  | [] => 0
  | [v] => v
  | v :: w :: vs => minI v (minL (w :: vs))
def maxL : List Int → Int
  | [] => 0
  | [v] => v
  | v :: w :: vs => maxI v (maxL (w :: vs))
def flagsL : List Item → Nat
  | [] => 0
  | x :: xs => x.flags.toNat ||| flagsL xs
def aggL (xs : List Item) : Agg := ⟨((valsL xs).length : Nat), (valsL xs).sum, minL (valsL xs), maxL (valsL xs), (flagsL xs : Nat)⟩
theorem minI_assoc (a b c : Int) : minI (minI a b) c = minI a (minI b c) := by unfold minI; split <;> split <;> (try split) <;> (try split) <;> omega
theorem maxI_assoc (a b c : Int) : maxI (maxI a b) c = maxI a (maxI b c) := by unfold maxI; split <;> split <;> (try split) <;> (try split) <;> omega
theorem minL_append : ∀ (xs ys : List Int), minL (xs ++ ys) = if xs = [] then minL ys else if ys = [] then minL xs else minI (minL xs) (minL ys)
  | [], ys => by simp
  | [v], [] => by simp
  | [v], w :: ys => by simp [minL]
  | v :: w :: xs, ys => by
    have ih := minL_append (w :: xs) ys
    simp only [List.cons_append, reduceCtorEq, if_false] at ih ⊢
    cases ys with
    | nil => simp
    | cons y ys =>
      simp only [reduceCtorEq, if_false] at ih ⊢
      simp only [minL]
      rw [ih, minI_assoc]
theorem maxL_append : ∀ (xs ys : List Int), maxL (xs ++ ys) = if xs = [] then maxL ys else if ys = [] then maxL xs else maxI (maxL xs) (maxL ys)
  | [], ys => by simp
  | [v], [] => by simp
  | [v], w :: ys => by simp [maxL]
  | v :: w :: xs, ys => by
    have ih := maxL_append (w :: xs) ys
    simp only [List.cons_append, reduceCtorEq, if_false] at ih ⊢
    cases ys with
    | nil => simp
    | cons y ys =>
      simp only [reduceCtorEq, if_false] at ih ⊢
      simp only [maxL]
      rw [ih, maxI_assoc]
theorem flagsL_append : ∀ (xs ys : List Item), flagsL (xs ++ ys) = flagsL xs ||| flagsL ys
  | [], ys => by simp [flagsL]
  | x :: xs, ys => by simp [flagsL, flagsL_append xs ys, Nat.or_assoc]
theorem flagsL_lt : ∀ {xs : List Item}, (∀ x ∈ xs, May x) → flagsL xs < 256
  | [], _ => by simp [flagsL]
  | x :: xs, h => by
    have h1 := h x (.head _)
    have h2 := flagsL_lt fun y hy => h y (.tail _ hy)
    unfold flagsL
    exact Nat.or_lt_two_pow (n := 8) (by have := h1.f0; have := h1.f1; omega) h2
theorem or64_nat {a b : Nat} (ha : a < 256) (hb : b < 256) : or64 (a : Int) (b : Int) = ((a ||| b : Nat) : Int) := by
  have h : a ||| b < 2 ^ 8 := Nat.or_lt_two_pow (n := 8) ha hb
  have e : (BitVec.ofInt IntKind.i64.bits (a : Int) ||| BitVec.ofInt IntKind.i64.bits (b : Int)).toNat = a ||| b := by
    have e1 : ∀ n : Nat, n < 256 → (BitVec.ofInt IntKind.i64.bits (n : Int)).toNat = n := fun n hn => by
      show (BitVec.ofInt 64 (n : Int)).toNat = n
      rw [BitVec.toNat_ofInt]
      omega
    rw [BitVec.toNat_or, e1 a ha, e1 b hb]
  unfold or64 bitOr
  rw [e, wrap_i64] <;> omega
theorem sum_bound : ∀ {xs : List Item}, (∀ x ∈ xs, May x) → -(1099511627776 * (xs.length : Int)) ≤ (valsL xs).sum ∧ (valsL xs).sum ≤ 1099511627776 * (xs.length : Int)
  | [], _ => by simp [valsL]
  | x :: xs, h => by
    have h1 := h x (.head _)
    have h2 := sum_bound fun y hy => h y (.tail _ hy)
    have := h1.lo
    have := h1.hi
    unfold valsL at h2 ⊢
    cases hc : x.counts <;> simp only [List.filter_cons, hc, if_true, if_false, Bool.false_eq_true, List.map_cons, List.sum_cons, List.length_cons] <;> omega
theorem valsL_append (xs ys : List Item) : valsL (xs ++ ys) = valsL xs ++ valsL ys := by simp [valsL]
theorem valsL_length (xs : List Item) : (valsL xs).length ≤ xs.length := by unfold valsL; rw [List.length_map]; exact List.length_filter_le _ _
theorem plusA_aggL {xs ys : List Item} (hx : ∀ x ∈ xs, May x) (hy : ∀ y ∈ ys, May y) (hl : xs.length + ys.length ≤ 1048576) : plusA (aggL xs) (aggL ys) = aggL (xs ++ ys) := by
  have lx := valsL_length xs
  have ly := valsL_length ys
  have sx := sum_bound hx
  have sy := sum_bound hy
  unfold plusA aggL
  simp only [valsL_append, minL_append, maxL_append, flagsL_append, List.length_append, List.sum_append, Agg.mk.injEq]
  have zx : (((valsL xs).length : Nat) : Int) = 0 ↔ valsL xs = [] := by rw [← List.length_eq_zero_iff]; omega
  have zy : (((valsL ys).length : Nat) : Int) = 0 ↔ valsL ys = [] := by rw [← List.length_eq_zero_iff]; omega
  refine ⟨?_, ?_, ?_, ?_, or64_nat (flagsL_lt hx) (flagsL_lt hy)⟩
  · unfold w64; rw [wrap_i64] <;> omega
  · unfold w64; rw [wrap_i64] <;> omega
  · simp only [zx, zy]
  · simp only [zx, zy]
theorem ownA_aggL {x : Item} (h : May x) : ownA x = aggL [x] := by
  have := h.f0
  unfold ownA aggL valsL flagsL flagsL
  cases hc : x.counts <;> simp [hc, minL, maxL] <;> omega
/-! ### trees -/
inductive Tr where
  | nil
  | node (l : Tr) (h : Nat) (r : Tr)
namespace Tr
def root : Tr → Nat
  | nil => 0
  | node _ h _ => h
def list : Tr → List Nat
  | nil => []
  | node l h r => l.list ++ h :: r.list
end Tr
def aggOf (it : Nat → Item) (l : List Nat) : Agg := aggL (l.map it)
/-- What node h keeps. -/
def recOf (it : Nat → Item) (up l h r : Nat) (xs : List Nat) : Rec := ⟨it h, up, l, r, (xs.length : Nat), aggOf it xs⟩
def TrAt (N : Nodes) (it : Nat → Item) : Nat → Tr → Prop
  | _, .nil => True
  | up, .node l h r => h ≠ 0 ∧ N h = recOf it up l.root h r.root (l.list ++ h :: r.list) ∧ TrAt N it h l ∧ TrAt N it h r
structure Fm where
  side : Bool
  h : Nat
  sib : Tr
def plug : Tr → List Fm → Tr
  | t, [] => t
  | t, ⟨false, h, s⟩ :: ps => plug (.node t h s) ps
  | t, ⟨true, h, s⟩ :: ps => plug (.node s h t) ps
def upOf : List Fm → Nat
  | [] => 0
  | f :: _ => f.h
def PathAt (N : Nodes) (it : Nat → Item) : Nat → List Nat → List Fm → Prop
  | _, _, [] => True
  | x, xs, ⟨false, h, s⟩ :: ps => h ≠ 0 ∧ N h = recOf it (upOf ps) x h s.root (xs ++ h :: s.list) ∧ TrAt N it h s ∧ PathAt N it h (xs ++ h :: s.list) ps
  | x, xs, ⟨true, h, s⟩ :: ps => h ≠ 0 ∧ N h = recOf it (upOf ps) s.root h x (s.list ++ h :: xs) ∧ TrAt N it h s ∧ PathAt N it h (s.list ++ h :: xs) ps
theorem trAt_plug {N : Nodes} {it : Nat → Item} : ∀ (ps : List Fm) (t : Tr), TrAt N it 0 (plug t ps) ↔ TrAt N it (upOf ps) t ∧ PathAt N it t.root t.list ps
  | [], t => by simp [plug, upOf, PathAt]
  | ⟨false, h, s⟩ :: ps, t => by
    have := trAt_plug (N := N) (it := it) ps (.node t h s)
    simp only [plug, upOf, PathAt] at this ⊢
    rw [this]
    simp only [TrAt, Tr.root, Tr.list]
    constructor
    · rintro ⟨⟨a, b, c, d⟩, e⟩; exact ⟨c, a, b, d, e⟩
    · rintro ⟨c, a, b, d, e⟩; exact ⟨⟨a, b, c, d⟩, e⟩
  | ⟨true, h, s⟩ :: ps, t => by
    have := trAt_plug (N := N) (it := it) ps (.node s h t)
    simp only [plug, upOf, PathAt] at this ⊢
    rw [this]
    simp only [TrAt, Tr.root, Tr.list]
    constructor
    · rintro ⟨⟨a, b, c, d⟩, e⟩; exact ⟨d, a, b, c, e⟩
    · rintro ⟨d, a, b, c, e⟩; exact ⟨⟨a, b, c, d⟩, e⟩
theorem TrAt.congr {N N' : Nodes} {it : Nat → Item} : ∀ {t : Tr} {up : Nat}, TrAt N it up t → (∀ h ∈ t.list, N' h = N h) → TrAt N' it up t
  | .nil, _, _, _ => trivial
  | .node l h r, up, ⟨a, b, c, d⟩, hN => by
    simp only [Tr.list, List.mem_append, List.mem_cons] at hN
    exact ⟨a, by rw [hN h (.inr (.inl rfl))]; exact b, c.congr fun k hk => hN k (.inl hk), d.congr fun k hk => hN k (.inr (.inr hk))⟩
/-- Its root hung elsewhere. -/
theorem TrAt.hung {N N' : Nodes} {it : Nat → Item} {t : Tr} {up up' : Nat} (h : TrAt N it up t) (hd : t.list.Nodup) (h1 : t.root ≠ 0 → N' t.root = { N t.root with up := up' }) (h2 : ∀ k ∈ t.list, k ≠ t.root → N' k = N k) : TrAt N' it up' t := by
  cases t with
  | nil => trivial
  | node l k r =>
    obtain ⟨a, b, c, d⟩ := h
    simp only [Tr.list, Tr.root, List.mem_append, List.mem_cons] at hd h1 h2
    rw [List.nodup_append] at hd
    obtain ⟨n1, n2, n3⟩ := hd
    rw [List.nodup_cons] at n2
    refine ⟨a, ?_, c.congr fun i hi => h2 i (.inl hi) (fun e => n3 i hi k (.head _) e), d.congr fun i hi => h2 i (.inr (.inr hi)) (fun e => n2.1 (e ▸ hi))⟩
    rw [h1 a, b]
    rfl
theorem TrAt.ne_zero {N : Nodes} {it : Nat → Item} : ∀ {t : Tr} {up : Nat}, TrAt N it up t → 0 ∉ t.list
  | .nil, _, _ => by simp [Tr.list]
  | .node l h r, up, ⟨a, b, c, d⟩ => by
    simp only [Tr.list, List.mem_append, List.mem_cons, not_or]
    exact ⟨c.ne_zero, Ne.symm a, d.ne_zero⟩
theorem Tr.root_mem {t : Tr} (h : t.root ≠ 0) : t.root ∈ t.list := by
  cases t with
  | nil => exact absurd rfl h
  | node l k r => simp [Tr.root, Tr.list]
end Go.Sp

namespace Go.Sp
open Go Go.Hp
set_option linter.unusedVariables false
set_option linter.unusedSimpArgs false

/-- The nodes behind the hanging, ahead of the reckoning. -/
def hung (N : Nodes) (k u top x s : Nat) : Nodes := hangN (setUp (turn2 (hangN N u s x) top u k) k top) k (1 - s) u
theorem turnN_eq (N : Nodes) {k u top x s : Nat} (hu : (N k).up = u) (ht : (N u).up = top) (hs : sideN N u k = s) (hx : (N k).kid (1 - s) = x) : turnN N k = pullN (pullN (hung N k u top x s) u) k := by
  unfold turnN hung
  rw [hu, ht, hs, hx]
theorem hung_k {N : Nodes} {k u top x s : Nat} (h1 : k ≠ u) (h2 : k ≠ top) (h3 : k ≠ x) (hu : u ≠ 0) : hung N k u top x s k = { (N k).setKid (1 - s) u with up := top } := by
  unfold hung hangN turn2 setUp
  by_cases hx : x = 0 <;> by_cases ht : top = 0 <;> simp only [hx, ht, hu, if_true, if_false, upd, h1, h2, h3, Ne.symm h1, h1.symm, ne_eq, not_false_eq_true] <;> (unfold Rec.setKid; split <;> rfl)
theorem hung_u {N : Nodes} {k u top x s : Nat} (h1 : k ≠ u) (h2 : u ≠ top) (h3 : u ≠ x) (hu : u ≠ 0) : hung N k u top x s u = { (N u).setKid s x with up := k } := by
  unfold hung hangN turn2 setUp
  by_cases hx : x = 0 <;> by_cases ht : top = 0 <;> simp only [hx, ht, hu, if_true, if_false, upd, h1, h2, h3, Ne.symm h1] <;> rfl
theorem hung_x {N : Nodes} {k u top x s : Nat} (h1 : k ≠ x) (h2 : u ≠ x) (h3 : top ≠ x) (hu : u ≠ 0) (hx : x ≠ 0) : hung N k u top x s x = { N x with up := u } := by
  unfold hung hangN turn2 setUp
  by_cases ht : top = 0 <;> simp only [hx, ht, hu, if_true, if_false, upd, h1.symm, h2.symm, Ne.symm h3, h1, h2, h3]
theorem hung_top {N : Nodes} {k u top x s : Nat} (h1 : k ≠ top) (h2 : u ≠ top) (h3 : top ≠ x) (hu : u ≠ 0) (ht : top ≠ 0) : hung N k u top x s top = (N top).setKid (sideN N top u) k := by
  unfold hung hangN turn2 setUp sideN
  by_cases hx : x = 0 <;> simp only [hx, ht, hu, if_true, if_false, upd, h1.symm, h2.symm, h3, h1, h2]
theorem hung_ne {N : Nodes} {k u top x s i : Nat} (h1 : i ≠ k) (h2 : i ≠ u) (h3 : i ≠ x ∨ x = 0) (h4 : i ≠ top ∨ top = 0) (hu : u ≠ 0) : hung N k u top x s i = N i := by
  unfold hung hangN turn2 setUp
  by_cases hx : x = 0 <;> by_cases ht : top = 0 <;> simp only [hx, ht, hu, if_true, if_false, upd, h1, h2, or_false, or_true] at h3 h4 ⊢ <;> simp only [h3, h4, if_false]
theorem belowN_congr {N N' : Nodes} {y : Nat} (h : y ≠ 0 → (N' y).many = (N y).many ∧ (N' y).total = (N y).total) : belowN N' y = belowN N y := by
  unfold belowN
  by_cases hy : y = 0
  · rw [if_pos hy, if_pos hy]
  · rw [if_neg hy, if_neg hy, (h hy).1, (h hy).2]
theorem TrAt.below {N : Nodes} {it : Nat → Item} {t : Tr} {up : Nat} (h : TrAt N it up t) : belowN N t.root = ((t.list.length : Int), aggOf it t.list) := by
  cases t with
  | nil => rfl
  | node l k r =>
    obtain ⟨a, b, _, _⟩ := h
    have e : belowN N k = ((N k).many, (N k).total) := if_neg a
    show belowN N k = _
    rw [e, b]
    rfl
theorem pullR_of {N : Nodes} {it : Nat → Item} {h up l r : Nat} {xs ys : List Nat} (hl : belowN N l = ((xs.length : Int), aggOf it xs)) (hr : belowN N r = ((ys.length : Int), aggOf it ys))
    (e1 : (N h).item = it h) (e2 : (N h).up = up) (e3 : (N h).l = l) (e4 : (N h).r = r) (hm : ∀ i ∈ xs ++ h :: ys, May (it i)) (hlen : (xs ++ h :: ys).length ≤ 4096) : pullR N h = recOf it up l h r (xs ++ h :: ys) := by
  simp only [List.length_append, List.length_cons] at hlen
  have mx : ∀ x ∈ xs.map it, May x := fun x hx => by
    obtain ⟨i, hi, rfl⟩ := List.mem_map.1 hx
    exact hm i (List.mem_append_left _ hi)
  have my : ∀ x ∈ ys.map it, May x := fun x hx => by
    obtain ⟨i, hi, rfl⟩ := List.mem_map.1 hx
    exact hm i (List.mem_append_right _ (.tail _ hi))
  have mh : May (it h) := hm h (List.mem_append_right _ (.head _))
  have t1 : plusA (aggOf it xs) (ownA (it h)) = aggL (xs.map it ++ [it h]) := by
    rw [ownA_aggL mh]
    exact plusA_aggL mx (fun y hy => by rw [List.mem_singleton.1 hy]; exact mh) (by simp; omega)
  have t2 : plusA (aggL (xs.map it ++ [it h])) (aggOf it ys) = aggL ((xs.map it ++ [it h]) ++ ys.map it) := by
    refine plusA_aggL (fun x hx => ?_) my (by simp; omega)
    rcases List.mem_append.1 hx with hx | hx
    · exact mx x hx
    · rw [List.mem_singleton.1 hx]; exact mh
  unfold pullR recOf
  rw [e1, e3, e4, hl, hr, t1, t2]
  have w1 : w64 (w64 ((xs.length : Int) + 1) + (ys.length : Int)) = (((xs ++ h :: ys).length : Nat) : Int) := by
    have : w64 ((xs.length : Int) + 1) = (xs.length : Int) + 1 := by unfold w64; rw [wrap_i64] <;> omega
    rw [this]
    unfold w64
    rw [wrap_i64]
    · simp only [List.length_append, List.length_cons]; omega
    · omega
    · omega
  simp only [w1]
  have e5 : aggL ((xs.map it ++ [it h]) ++ ys.map it) = aggOf it (xs ++ h :: ys) := by unfold aggOf; simp
  rw [e5]
  cases hN : N h with
  | mk a b c d f g =>
    rw [hN] at e1 e2 e3 e4
    simp only [] at e1 e2 e3 e4
    subst e1 e2 e3 e4
    rfl
end Go.Sp

namespace Go.Sp
open Go Go.Hp
set_option linter.unusedVariables false
set_option linter.unusedSimpArgs false

def ctx : List Fm → List Nat
  | [] => []
  | ⟨_, h, s⟩ :: ps => h :: (s.list ++ ctx ps)
theorem plug_perm : ∀ (ps : List Fm) (t : Tr), (plug t ps).list.Perm (t.list ++ ctx ps)
  | [], t => by simp [plug, ctx]
  | ⟨false, h, s⟩ :: ps, t => by
    have := plug_perm ps (.node t h s)
    simpa [plug, ctx, Tr.list] using this
  | ⟨true, h, s⟩ :: ps, t => by
    have h1 := plug_perm ps (.node s h t)
    simp only [plug, ctx, Tr.list] at h1 ⊢
    refine h1.trans ?_
    rw [List.append_assoc, List.cons_append]
    have e1 : (s.list ++ h :: (t.list ++ ctx ps)).Perm (h :: s.list ++ (t.list ++ ctx ps)) := List.perm_middle
    refine e1.trans ?_
    rw [← List.append_assoc]
    have e2 : (h :: s.list ++ t.list).Perm (t.list ++ (h :: s.list)) := List.perm_append_comm
    have := e2.append_right (ctx ps)
    simpa using this
theorem PathAt.congr {N N' : Nodes} {it : Nat → Item} : ∀ {ps : List Fm} {x : Nat} {xs : List Nat}, PathAt N it x xs ps → (∀ i ∈ ctx ps, N' i = N i) → PathAt N' it x xs ps
  | [], _, _, _, _ => trivial
  | ⟨false, h, s⟩ :: ps, x, xs, ⟨a, b, c, d⟩, hN => by
    simp only [ctx, List.mem_cons, List.mem_append] at hN
    exact ⟨a, by rw [hN h (.inl rfl)]; exact b, c.congr fun i hi => hN i (.inr (.inl hi)), d.congr fun i hi => hN i (.inr (.inr hi))⟩
  | ⟨true, h, s⟩ :: ps, x, xs, ⟨a, b, c, d⟩, hN => by
    simp only [ctx, List.mem_cons, List.mem_append] at hN
    exact ⟨a, by rw [hN h (.inl rfl)]; exact b, c.congr fun i hi => hN i (.inr (.inl hi)), d.congr fun i hi => hN i (.inr (.inr hi))⟩
theorem PathAt.ne_zero {N : Nodes} {it : Nat → Item} : ∀ {ps : List Fm} {x : Nat} {xs : List Nat}, PathAt N it x xs ps → 0 ∉ ctx ps
  | [], _, _, _ => by simp [ctx]
  | ⟨false, h, s⟩ :: ps, x, xs, ⟨a, b, c, d⟩ => by
    simp only [ctx, List.mem_cons, List.mem_append, not_or]
    exact ⟨Ne.symm a, c.ne_zero, d.ne_zero⟩
  | ⟨true, h, s⟩ :: ps, x, xs, ⟨a, b, c, d⟩ => by
    simp only [ctx, List.mem_cons, List.mem_append, not_or]
    exact ⟨Ne.symm a, c.ne_zero, d.ne_zero⟩
theorem PathAt.swap {N N' : Nodes} {it : Nat → Item} {ps : List Fm} {u k : Nat} {xs : List Nat} (h : PathAt N it u xs ps) (hu : u ≠ 0) (hn : u ∉ ctx ps) (hd : (ctx ps).Nodup)
    (ht : upOf ps ≠ 0 → N' (upOf ps) = (N (upOf ps)).setKid (sideN N (upOf ps) u) k) (ho : ∀ i ∈ ctx ps, i ≠ upOf ps → N' i = N i) : PathAt N' it k xs ps := by
  cases ps with
  | nil => trivial
  | cons f ps =>
    obtain ⟨side, h', s⟩ := f
    simp only [ctx, List.nodup_cons, List.mem_append, not_or, upOf, List.mem_cons] at hn hd ht ho
    have hsr : s.root ≠ u := fun e => by
      have h0 : s.root ≠ 0 := by rw [e]; exact hu
      exact hn.2.1 (e ▸ Tr.root_mem h0)
    cases side with
    | false =>
      obtain ⟨a, b, c, d⟩ := h
      refine ⟨a, ?_, c.congr fun i hi => ho i (.inr (.inl hi)) (fun e => hd.1.1 (e ▸ hi)), d.congr fun i hi => ho i (.inr (.inr hi)) (fun e => hd.1.2 (e ▸ hi))⟩
      rw [ht a]
      have e1 : sideN N h' u = 0 := by unfold sideN; rw [b]; exact if_neg hsr
      rw [e1, b]
      rfl
    | true =>
      obtain ⟨a, b, c, d⟩ := h
      refine ⟨a, ?_, c.congr fun i hi => ho i (.inr (.inl hi)) (fun e => hd.1.1 (e ▸ hi)), d.congr fun i hi => ho i (.inr (.inr hi)) (fun e => hd.1.2 (e ▸ hi))⟩
      rw [ht a]
      have e1 : sideN N h' u = 1 := by unfold sideN; rw [b]; exact if_pos rfl
      rw [e1, b]
      rfl
theorem upOf_mem {ps : List Fm} (h : upOf ps ≠ 0) : upOf ps ∈ ctx ps := by
  cases ps with
  | nil => exact absurd rfl h
  | cons f ps => simp [upOf, ctx]
theorem rot_left {N : Nodes} {it : Nat → Item} {a b c : Tr} {k u : Nat} {ps : List Fm} (h : TrAt N it 0 (plug (.node a k b) (⟨false, u, c⟩ :: ps))) (hd : ((a.list ++ k :: b.list) ++ (u :: (c.list ++ ctx ps))).Nodup)
    (hm : ∀ i ∈ (a.list ++ k :: b.list) ++ u :: c.list, May (it i)) (hl : ((a.list ++ k :: b.list) ++ u :: c.list).length ≤ 4096) : TrAt (turnN N k) it 0 (plug (.node a k (.node b u c)) ps) := by
  obtain ⟨⟨k0, ek, ha, hb⟩, u0, eu, hc, hp⟩ := (trAt_plug _ _).1 h
  simp only [upOf, Tr.root, Tr.list] at ek eu hp
  have za := ha.ne_zero
  have zb := hb.ne_zero
  have zc := hc.ne_zero
  have zp := hp.ne_zero
  have hd0 := hd
  simp only [List.nodup_append, List.nodup_cons, List.mem_append, List.mem_cons, not_or] at hd
  obtain ⟨⟨na, ⟨kb, nb⟩, dab⟩, ⟨⟨uc, up⟩, nc, np, dcp⟩, dX⟩ := hd
  have hku : k ≠ u := dX k (.inr (.inl rfl)) u (.inl rfl)
  have hkc : k ∉ c.list := fun e => dX k (.inr (.inl rfl)) k (.inr (.inl e)) rfl
  have hkp : k ∉ ctx ps := fun e => dX k (.inr (.inl rfl)) k (.inr (.inr e)) rfl
  have hua : u ∉ a.list := fun e => dX u (.inl e) u (.inl rfl) rfl
  have hub : u ∉ b.list := fun e => dX u (.inr (.inr e)) u (.inl rfl) rfl
  have hka : k ∉ a.list := fun e => dab k e k (.inl rfl) rfl
  have hbr : b.root ≠ 0 → b.root ∈ b.list := Tr.root_mem
  have hup : upOf ps ≠ 0 → upOf ps ∈ ctx ps := upOf_mem
  have hkt : k ≠ upOf ps := fun e => hkp (e ▸ hup (e ▸ k0))
  have hut : u ≠ upOf ps := fun e => up (e ▸ hup (e ▸ u0))
  have hkx : k ≠ b.root := fun e => kb (e ▸ hbr (e ▸ k0))
  have hux : u ≠ b.root := fun e => hub (e ▸ hbr (e ▸ u0))
  have htx : upOf ps ≠ b.root ∨ b.root = 0 := by
    by_cases h0 : b.root = 0
    · exact .inr h0
    · refine .inl fun e => ?_
      have h1 := hbr h0
      exact dX b.root (.inr (.inr h1)) b.root (.inr (.inr (e ▸ hup (by rw [e]; exact h0)))) rfl
  have hcr : c.root ≠ k := fun e => hkc (e ▸ Tr.root_mem (by rw [e]; exact k0))
  have es : sideN N u k = 0 := by unfold sideN; rw [eu]; exact if_neg hcr
  have et : turnN N k = pullN (pullN (hung N k u (upOf ps) b.root 0) u) k := turnN_eq N (by rw [ek]; rfl) (by rw [eu]; rfl) es (by rw [ek]; rfl)
  generalize hM : hung N k u (upOf ps) b.root 0 = M at et
  have Mk : M k = { (N k).setKid 1 u with up := upOf ps } := by rw [← hM]; exact hung_k hku hkt hkx u0
  have Mu : M u = { (N u).setKid 0 b.root with up := k } := by rw [← hM]; exact hung_u hku hut hux u0
  have Mx : b.root ≠ 0 → M b.root = { N b.root with up := u } := fun h0 => by rw [← hM]; exact hung_x hkx hux (htx.resolve_right h0) u0 h0
  have Mt : upOf ps ≠ 0 → M (upOf ps) = (N (upOf ps)).setKid (sideN N (upOf ps) u) k := fun h0 => by
    rw [← hM]
    by_cases hb0 : b.root = 0
    · rw [hb0]; exact hung_top hkt hut h0 u0 h0
    · exact hung_top hkt hut (htx.resolve_right hb0) u0 h0
  have Mo : ∀ i, i ≠ k → i ≠ u → (i ≠ b.root ∨ b.root = 0) → (i ≠ upOf ps ∨ upOf ps = 0) → M i = N i := fun i h1 h2 h3 h4 => by rw [← hM]; exact hung_ne h1 h2 h3 h4 u0
  have inX : ∀ i, i ∈ a.list ∨ i ∈ b.list ∨ i ∈ c.list → i ≠ upOf ps ∨ upOf ps = 0 := fun i hi => by
    by_cases h0 : upOf ps = 0
    · exact .inr h0
    · refine .inl fun e => ?_
      have h1 := hup h0
      rw [← e] at h1
      rcases hi with hi | hi | hi
      · exact dX i (.inl hi) i (.inr (.inr h1)) rfl
      · exact dX i (.inr (.inr hi)) i (.inr (.inr h1)) rfl
      · exact dcp i hi i h1 rfl
  have offb : ∀ i, (i ∈ a.list ∨ i ∈ c.list ∨ i ∈ ctx ps) → i ≠ b.root ∨ b.root = 0 := fun i hi => by
    by_cases h0 : b.root = 0
    · exact .inr h0
    · refine .inl fun e => ?_
      have h1 := hbr h0
      rw [← e] at h1
      rcases hi with hi | hi | hi
      · exact dab i hi i (.inr h1) rfl
      · exact dX i (.inr (.inr h1)) i (.inr (.inl hi)) rfl
      · exact dX i (.inr (.inr h1)) i (.inr (.inr hi)) rfl
  have Ma : ∀ i ∈ a.list, M i = N i := fun i hi => Mo i (fun e => hka (e ▸ hi)) (fun e => hua (e ▸ hi)) (offb i (.inl hi)) (inX i (.inl hi))
  have Mc : ∀ i ∈ c.list, M i = N i := fun i hi => Mo i (fun e => hkc (e ▸ hi)) (fun e => uc (e ▸ hi)) (offb i (.inr (.inl hi))) (inX i (.inr (.inr hi)))
  have Mb : ∀ i ∈ b.list, i ≠ b.root → M i = N i := fun i hi hne => Mo i (fun e => kb (e ▸ hi)) (fun e => hub (e ▸ hi)) (.inl hne) (inX i (.inr (.inl hi)))
  have hbM : TrAt M it u b := hb.hung nb Mx Mb
  have hcM : TrAt M it u c := hc.congr Mc
  have p1 : pullR M u = recOf it k b.root u c.root (b.list ++ u :: c.list) := by
    refine pullR_of hbM.below hcM.below (by rw [Mu, eu]; rfl) (by rw [Mu]) (by rw [Mu]; rfl) (by rw [Mu, eu]; rfl) (fun i hi => hm i ?_) ?_
    · simp only [List.mem_append, List.mem_cons] at hi ⊢
      rcases hi with hi | hi | hi
      · exact .inl (.inr (.inr hi))
      · exact .inr (.inl hi)
      · exact .inr (.inr hi)
    · simp only [List.length_append, List.length_cons] at hl ⊢; omega
  have N5 : pullN M u = upd M u (recOf it k b.root u c.root (b.list ++ u :: c.list)) := by unfold pullN; rw [p1]
  rw [N5] at et
  have haM : TrAt (upd M u (recOf it k b.root u c.root (b.list ++ u :: c.list))) it k a := ha.congr fun i hi => by
    rw [upd_ne (i := i) _ _ (show i ≠ u from fun e => hua (e ▸ hi))]; exact Ma i hi
  have p2 : pullR (upd M u (recOf it k b.root u c.root (b.list ++ u :: c.list))) k = recOf it (upOf ps) a.root k u (a.list ++ k :: (b.list ++ u :: c.list)) := by
    have e5 : upd M u (recOf it k b.root u c.root (b.list ++ u :: c.list)) k = M k := upd_ne _ _ hku
    refine pullR_of haM.below ?_ (by rw [e5, Mk, ek]; rfl) (by rw [e5, Mk]) (by rw [e5, Mk, ek]; rfl) (by rw [e5, Mk]; rfl) (fun i hi => hm i ?_) ?_
    · unfold belowN
      rw [if_neg u0, upd_same]
      rfl
    · simp only [List.mem_append, List.mem_cons] at hi ⊢
      rcases hi with hi | hi | hi | hi | hi
      · exact .inl (.inl hi)
      · exact .inl (.inr (.inl hi))
      · exact .inl (.inr (.inr hi))
      · exact .inr (.inl hi)
      · exact .inr (.inr hi)
    · simp only [List.length_append, List.length_cons] at hl ⊢; omega
  have N6 : turnN N k = upd (upd M u (recOf it k b.root u c.root (b.list ++ u :: c.list))) k (recOf it (upOf ps) a.root k u (a.list ++ k :: (b.list ++ u :: c.list))) := by
    rw [et]; unfold pullN; rw [p2]
  have old : ∀ i, i ≠ k → i ≠ u → turnN N k i = M i := fun i h1 h2 => by rw [N6, upd_ne _ _ h1, upd_ne _ _ h2]
  refine (trAt_plug _ _).2 ⟨⟨k0, by rw [N6, upd_same]; rfl, ha.congr fun i hi => ?_, u0, ?_, ?_, ?_⟩, ?_⟩
  · rw [old i (fun e => hka (e ▸ hi)) (fun e => hua (e ▸ hi))]; exact Ma i hi
  · rw [N6, upd_ne _ _ (Ne.symm hku), upd_same]
  · exact hbM.congr fun i hi => old i (fun e => kb (e ▸ hi)) (fun e => hub (e ▸ hi))
  · exact hcM.congr fun i hi => old i (fun e => hkc (e ▸ hi)) (fun e => uc (e ▸ hi))
  · simp only [Tr.root, Tr.list]
    have e : a.list ++ k :: (b.list ++ u :: c.list) = (a.list ++ k :: b.list) ++ u :: c.list := by simp
    rw [e]
    refine hp.swap u0 up np (fun h0 => ?_) (fun i hi hne => ?_)
    · rw [old _ (Ne.symm hkt) (Ne.symm hut)]; exact Mt h0
    · rw [old i (fun e => hkp (e ▸ hi)) (fun e => up (e ▸ hi))]
      exact Mo i (fun e => hkp (e ▸ hi)) (fun e => up (e ▸ hi)) (offb i (.inr (.inr hi))) (.inl hne)
theorem rot_right {N : Nodes} {it : Nat → Item} {a b c : Tr} {k u : Nat} {ps : List Fm} (h : TrAt N it 0 (plug (.node a k b) (⟨true, u, c⟩ :: ps))) (hd : ((a.list ++ k :: b.list) ++ (u :: (c.list ++ ctx ps))).Nodup)
    (hm : ∀ i ∈ (a.list ++ k :: b.list) ++ u :: c.list, May (it i)) (hl : ((a.list ++ k :: b.list) ++ u :: c.list).length ≤ 4096) : TrAt (turnN N k) it 0 (plug (.node (.node c u a) k b) ps) := by
  obtain ⟨⟨k0, ek, ha, hb⟩, u0, eu, hc, hp⟩ := (trAt_plug _ _).1 h
  simp only [upOf, Tr.root, Tr.list] at ek eu hp
  have za := ha.ne_zero
  have zb := hb.ne_zero
  have zc := hc.ne_zero
  have zp := hp.ne_zero
  have hd0 := hd
  simp only [List.nodup_append, List.nodup_cons, List.mem_append, List.mem_cons, not_or] at hd
  obtain ⟨⟨na, ⟨kb, nb⟩, dab⟩, ⟨⟨uc, up⟩, nc, np, dcp⟩, dX⟩ := hd
  have hku : k ≠ u := dX k (.inr (.inl rfl)) u (.inl rfl)
  have hkc : k ∉ c.list := fun e => dX k (.inr (.inl rfl)) k (.inr (.inl e)) rfl
  have hkp : k ∉ ctx ps := fun e => dX k (.inr (.inl rfl)) k (.inr (.inr e)) rfl
  have hua : u ∉ a.list := fun e => dX u (.inl e) u (.inl rfl) rfl
  have hub : u ∉ b.list := fun e => dX u (.inr (.inr e)) u (.inl rfl) rfl
  have hka : k ∉ a.list := fun e => dab k e k (.inl rfl) rfl
  have hbr : a.root ≠ 0 → a.root ∈ a.list := Tr.root_mem
  have hup : upOf ps ≠ 0 → upOf ps ∈ ctx ps := upOf_mem
  have hkt : k ≠ upOf ps := fun e => hkp (e ▸ hup (e ▸ k0))
  have hut : u ≠ upOf ps := fun e => up (e ▸ hup (e ▸ u0))
  have hkx : k ≠ a.root := fun e => hka (e ▸ hbr (e ▸ k0))
  have hux : u ≠ a.root := fun e => hua (e ▸ hbr (e ▸ u0))
  have htx : upOf ps ≠ a.root ∨ a.root = 0 := by
    by_cases h0 : a.root = 0
    · exact .inr h0
    · refine .inl fun e => ?_
      have h1 := hbr h0
      exact dX a.root (.inl h1) a.root (.inr (.inr (e ▸ hup (by rw [e]; exact h0)))) rfl
  have es : sideN N u k = 1 := by unfold sideN; rw [eu]; exact if_pos rfl
  have et : turnN N k = pullN (pullN (hung N k u (upOf ps) a.root 1) u) k := turnN_eq N (by rw [ek]; rfl) (by rw [eu]; rfl) es (by rw [ek]; rfl)
  generalize hM : hung N k u (upOf ps) a.root 1 = M at et
  have Mk : M k = { (N k).setKid 0 u with up := upOf ps } := by rw [← hM]; exact hung_k hku hkt hkx u0
  have Mu : M u = { (N u).setKid 1 a.root with up := k } := by rw [← hM]; exact hung_u hku hut hux u0
  have Mx : a.root ≠ 0 → M a.root = { N a.root with up := u } := fun h0 => by rw [← hM]; exact hung_x hkx hux (htx.resolve_right h0) u0 h0
  have Mt : upOf ps ≠ 0 → M (upOf ps) = (N (upOf ps)).setKid (sideN N (upOf ps) u) k := fun h0 => by
    rw [← hM]
    by_cases hb0 : a.root = 0
    · rw [hb0]; exact hung_top hkt hut h0 u0 h0
    · exact hung_top hkt hut (htx.resolve_right hb0) u0 h0
  have Mo : ∀ i, i ≠ k → i ≠ u → (i ≠ a.root ∨ a.root = 0) → (i ≠ upOf ps ∨ upOf ps = 0) → M i = N i := fun i h1 h2 h3 h4 => by rw [← hM]; exact hung_ne h1 h2 h3 h4 u0
  have inX : ∀ i, i ∈ a.list ∨ i ∈ b.list ∨ i ∈ c.list → i ≠ upOf ps ∨ upOf ps = 0 := fun i hi => by
    by_cases h0 : upOf ps = 0
    · exact .inr h0
    · refine .inl fun e => ?_
      have h1 := hup h0
      rw [← e] at h1
      rcases hi with hi | hi | hi
      · exact dX i (.inl hi) i (.inr (.inr h1)) rfl
      · exact dX i (.inr (.inr hi)) i (.inr (.inr h1)) rfl
      · exact dcp i hi i h1 rfl
  have offb : ∀ i, (i ∈ b.list ∨ i ∈ c.list ∨ i ∈ ctx ps) → i ≠ a.root ∨ a.root = 0 := fun i hi => by
    by_cases h0 : a.root = 0
    · exact .inr h0
    · refine .inl fun e => ?_
      have h1 := hbr h0
      rw [← e] at h1
      rcases hi with hi | hi | hi
      · exact dab i h1 i (.inr hi) rfl
      · exact dX i (.inl h1) i (.inr (.inl hi)) rfl
      · exact dX i (.inl h1) i (.inr (.inr hi)) rfl
  have Mb : ∀ i ∈ b.list, M i = N i := fun i hi => Mo i (fun e => kb (e ▸ hi)) (fun e => hub (e ▸ hi)) (offb i (.inl hi)) (inX i (.inr (.inl hi)))
  have Mc : ∀ i ∈ c.list, M i = N i := fun i hi => Mo i (fun e => hkc (e ▸ hi)) (fun e => uc (e ▸ hi)) (offb i (.inr (.inl hi))) (inX i (.inr (.inr hi)))
  have Ma : ∀ i ∈ a.list, i ≠ a.root → M i = N i := fun i hi hne => Mo i (fun e => hka (e ▸ hi)) (fun e => hua (e ▸ hi)) (.inl hne) (inX i (.inl hi))
  have haM : TrAt M it u a := ha.hung na Mx Ma
  have hcM : TrAt M it u c := hc.congr Mc
  have p1 : pullR M u = recOf it k c.root u a.root (c.list ++ u :: a.list) := by
    refine pullR_of hcM.below haM.below (by rw [Mu, eu]; rfl) (by rw [Mu]) (by rw [Mu, eu]; rfl) (by rw [Mu]; rfl) (fun i hi => hm i ?_) ?_
    · simp only [List.mem_append, List.mem_cons] at hi ⊢
      rcases hi with hi | hi | hi
      · exact .inr (.inr hi)
      · exact .inr (.inl hi)
      · exact .inl (.inl hi)
    · simp only [List.length_append, List.length_cons] at hl ⊢; omega
  have N5 : pullN M u = upd M u (recOf it k c.root u a.root (c.list ++ u :: a.list)) := by unfold pullN; rw [p1]
  rw [N5] at et
  have hbM : TrAt (upd M u (recOf it k c.root u a.root (c.list ++ u :: a.list))) it k b := hb.congr fun i hi => by
    rw [upd_ne (i := i) _ _ (show i ≠ u from fun e => hub (e ▸ hi))]; exact Mb i hi
  have p2 : pullR (upd M u (recOf it k c.root u a.root (c.list ++ u :: a.list))) k = recOf it (upOf ps) u k b.root ((c.list ++ u :: a.list) ++ k :: b.list) := by
    have e5 : upd M u (recOf it k c.root u a.root (c.list ++ u :: a.list)) k = M k := upd_ne _ _ hku
    refine pullR_of (xs := c.list ++ u :: a.list) ?_ hbM.below (by rw [e5, Mk, ek]; rfl) (by rw [e5, Mk]) (by rw [e5, Mk]; rfl) (by rw [e5, Mk, ek]; rfl) (fun i hi => hm i ?_) ?_
    · unfold belowN
      rw [if_neg u0, upd_same]
      rfl
    · simp only [List.mem_append, List.mem_cons] at hi ⊢
      rcases hi with (hi | hi | hi) | hi | hi
      · exact .inr (.inr hi)
      · exact .inr (.inl hi)
      · exact .inl (.inl hi)
      · exact .inl (.inr (.inl hi))
      · exact .inl (.inr (.inr hi))
    · simp only [List.length_append, List.length_cons] at hl ⊢; omega
  have N6 : turnN N k = upd (upd M u (recOf it k c.root u a.root (c.list ++ u :: a.list))) k (recOf it (upOf ps) u k b.root ((c.list ++ u :: a.list) ++ k :: b.list)) := by
    rw [et]; unfold pullN; rw [p2]
  have old : ∀ i, i ≠ k → i ≠ u → turnN N k i = M i := fun i h1 h2 => by rw [N6, upd_ne _ _ h1, upd_ne _ _ h2]
  refine (trAt_plug _ _).2 ⟨⟨k0, by rw [N6, upd_same]; rfl, ⟨u0, ?_, ?_, ?_⟩, hb.congr fun i hi => ?_⟩, ?_⟩
  · rw [N6, upd_ne _ _ (Ne.symm hku), upd_same]
  · exact hcM.congr fun i hi => old i (fun e => hkc (e ▸ hi)) (fun e => uc (e ▸ hi))
  · exact haM.congr fun i hi => old i (fun e => hka (e ▸ hi)) (fun e => hua (e ▸ hi))
  · rw [old i (fun e => kb (e ▸ hi)) (fun e => hub (e ▸ hi))]; exact Mb i hi
  · simp only [Tr.root, Tr.list]
    have e : (c.list ++ u :: a.list) ++ k :: b.list = c.list ++ u :: (a.list ++ k :: b.list) := by simp
    rw [e]
    refine hp.swap u0 up np (fun h0 => ?_) (fun i hi hne => ?_)
    · rw [old _ (Ne.symm hkt) (Ne.symm hut)]; exact Mt h0
    · rw [old i (fun e => hkp (e ▸ hi)) (fun e => up (e ▸ hi))]
      exact Mo i (fun e => hkp (e ▸ hi)) (fun e => up (e ▸ hi)) (offb i (.inr (.inr hi))) (.inl hne)
end Go.Sp

namespace Go.Sp
open Go Go.Hp
set_option linter.unusedVariables false
set_option linter.unusedSimpArgs false

/-- A tree whose handles in order are xs, each once, with items that may be. -/
structure Row (it : Nat → Item) (xs : List Nat) : Prop where
  nd : xs.Nodup
  may : ∀ i ∈ xs, May (it i)
  len : xs.length ≤ 4096
theorem plug_list : ∀ (ps : List Fm) {t t' : Tr}, t.list = t'.list → (plug t ps).list = (plug t' ps).list
  | [], _, _, h => h
  | ⟨false, h, s⟩ :: ps, t, t', e => plug_list ps (t := .node t h s) (t' := .node t' h s) (by simp [Tr.list, e])
  | ⟨true, h, s⟩ :: ps, t, t', e => plug_list ps (t := .node s h t) (t' := .node s h t') (by simp [Tr.list, e])
section
variable {N : Nodes} {it : Nat → Item} {a b c : Tr} {k u : Nat} {ps : List Fm} {xs : List Nat}
theorem turn_left (h : TrAt N it 0 (plug (.node a k b) (⟨false, u, c⟩ :: ps))) (e : (plug (.node a k b) (⟨false, u, c⟩ :: ps)).list = xs) (r : Row it xs) :
    TrAt (turnN N k) it 0 (plug (.node a k (.node b u c)) ps) ∧ (plug (.node a k (.node b u c)) ps).list = xs := by
  have hp := plug_perm (⟨false, u, c⟩ :: ps) (.node a k b)
  rw [e] at hp
  simp only [Tr.list, ctx] at hp
  refine ⟨rot_left h ((hp.nodup_iff).1 r.nd) (fun i hi => r.may i (hp.mem_iff.2 ?_)) ?_, ?_⟩
  · simp only [List.mem_append, List.mem_cons] at hi ⊢
    rcases hi with hi | hi | hi
    · exact .inl hi
    · exact .inr (.inl hi)
    · exact .inr (.inr (.inl hi))
  · have := hp.length_eq
    have := r.len
    simp only [List.length_append, List.length_cons] at this ⊢
    simp only [List.length_append, List.length_cons] at *
    omega
  · rw [← e]
    exact plug_list ps (by simp [Tr.list])
theorem turn_right (h : TrAt N it 0 (plug (.node a k b) (⟨true, u, c⟩ :: ps))) (e : (plug (.node a k b) (⟨true, u, c⟩ :: ps)).list = xs) (r : Row it xs) :
    TrAt (turnN N k) it 0 (plug (.node (.node c u a) k b) ps) ∧ (plug (.node (.node c u a) k b) ps).list = xs := by
  have hp := plug_perm (⟨true, u, c⟩ :: ps) (.node a k b)
  rw [e] at hp
  simp only [Tr.list, ctx] at hp
  refine ⟨rot_right h ((hp.nodup_iff).1 r.nd) (fun i hi => r.may i (hp.mem_iff.2 ?_)) ?_, ?_⟩
  · simp only [List.mem_append, List.mem_cons] at hi ⊢
    rcases hi with hi | hi | hi
    · exact .inl hi
    · exact .inr (.inl hi)
    · exact .inr (.inr (.inl hi))
  · have := hp.length_eq
    have := r.len
    simp only [List.length_append, List.length_cons] at *
    omega
  · rw [← e]
    exact plug_list ps (by simp [Tr.list])
theorem up_of (h : TrAt N it 0 (plug (.node a k b) ps)) : (N k).up = upOf ps ∧ k ≠ 0 := by
  obtain ⟨⟨k0, ek, _⟩, _⟩ := (trAt_plug _ _).1 h
  exact ⟨by rw [ek]; rfl, k0⟩
theorem side_left (h : TrAt N it 0 (plug (.node a k b) (⟨false, u, c⟩ :: ps))) (e : (plug (.node a k b) (⟨false, u, c⟩ :: ps)).list = xs) (r : Row it xs) : sideN N u k = 0 := by
  obtain ⟨⟨k0, ek, _⟩, u0, eu, hc, hp⟩ := (trAt_plug _ _).1 h
  have hp := plug_perm (⟨false, u, c⟩ :: ps) (.node a k b)
  rw [e] at hp
  have hd := (hp.nodup_iff).1 r.nd
  simp only [Tr.list, ctx, List.nodup_append, List.nodup_cons, List.mem_append, List.mem_cons, not_or] at hd
  obtain ⟨_, _, dX⟩ := hd
  unfold sideN
  rw [eu]
  refine if_neg fun e => ?_
  have e' : c.root = k := e
  exact dX k (.inr (.inl rfl)) k (.inr (.inl (by have := Tr.root_mem (t := c) (by rw [e']; exact k0); rwa [e'] at this))) rfl
theorem side_right (h : TrAt N it 0 (plug (.node a k b) (⟨true, u, c⟩ :: ps))) : sideN N u k = 1 := by
  obtain ⟨⟨k0, ek, _⟩, u0, eu, hc, hp⟩ := (trAt_plug _ _).1 h
  unfold sideN
  rw [eu]
  exact if_pos rfl
end
theorem turnN_ne {N : Nodes} {k i : Nat} (h1 : i ≠ k) (h2 : i ≠ (N k).up) (h3 : ∀ s, i ≠ (N k).kid s ∨ (N k).kid s = 0) (h4 : i ≠ (N (N k).up).up ∨ (N (N k).up).up = 0) (hu : (N k).up ≠ 0) : turnN N k i = N i := by
  rw [turnN_eq N rfl rfl rfl rfl]
  unfold pullN
  rw [upd_ne _ _ h1, upd_ne _ _ h2]
  exact hung_ne h1 h2 (h3 _) h4 hu
theorem turn_off {N : Nodes} {it : Nat → Item} {a b : Tr} {k : Nat} {f : Fm} {ps : List Fm} {xs : List Nat} (h : TrAt N it 0 (plug (.node a k b) (f :: ps))) (e : (plug (.node a k b) (f :: ps)).list = xs) {i : Nat} (hi : i ∉ xs) : turnN N k i = N i := by
  have hp := plug_perm (f :: ps) (.node a k b)
  rw [e] at hp
  have hm : ∀ j, j ∈ a.list ∨ j = k ∨ j ∈ b.list ∨ j ∈ ctx (f :: ps) → j ∈ xs := fun j hj => hp.mem_iff.2 (by
    simp only [Tr.list, List.mem_append, List.mem_cons]
    rcases hj with hj | hj | hj | hj
    · exact .inl (.inl hj)
    · exact .inl (.inr (.inl hj))
    · exact .inl (.inr (.inr hj))
    · exact .inr hj)
  obtain ⟨hu, k0⟩ := up_of h
  obtain ⟨⟨_, ek, _⟩, hpath⟩ := (trAt_plug _ _).1 h
  have hf : f.h ∈ ctx (f :: ps) := by cases f; simp [ctx]
  have hu' : (N k).up = f.h := hu
  have u0 : f.h ≠ 0 := fun e0 => hpath.ne_zero (e0 ▸ hf)
  have eu : (N f.h).up = upOf ps := by
    obtain ⟨side, u, c⟩ := f
    cases side
    · obtain ⟨_, eu, _⟩ := hpath; exact congrArg Rec.up eu
    · obtain ⟨_, eu, _⟩ := hpath; exact congrArg Rec.up eu
  refine turnN_ne (fun e => hi (hm i (.inr (.inl e)))) (fun e => hi (hm i (.inr (.inr (.inr (by rw [e, hu']; exact hf)))))) (fun s => ?_) ?_ (by rw [hu']; exact u0)
  · by_cases h0 : (N k).kid s = 0
    · exact .inr h0
    · refine .inl fun e => hi (hm i ?_)
      rw [ek] at h0 e
      unfold Rec.kid at h0 e
      by_cases hs : s = 0
      · rw [if_pos hs] at h0 e
        exact .inl (by rw [e]; exact Tr.root_mem h0)
      · rw [if_neg hs] at h0 e
        exact .inr (.inr (.inl (by rw [e]; exact Tr.root_mem h0)))
  · rw [hu', eu]
    by_cases h0 : upOf ps = 0
    · exact .inr h0
    · refine .inl fun e => hi (hm i (.inr (.inr (.inr ?_))))
      have := upOf_mem h0
      rw [← e] at this
      obtain ⟨side, u, c⟩ := f
      simp only [ctx, List.mem_cons, List.mem_append]
      exact .inr (.inr this)
/-- The node k stands m below the root of a tree of xs; whatever is not of xs is as in N0. -/
structure Below (it : Nat → Item) (k : Nat) (xs : List Nat) (N0 : Nodes) (m : Nat) (N : Nodes) : Prop where
  tree : ∃ (a b : Tr) (ps : List Fm), ps.length = m ∧ TrAt N it 0 (plug (.node a k b) ps) ∧ (plug (.node a k b) ps).list = xs
  off : ∀ i, i ∉ xs → N i = N0 i
theorem below_step {it : Nat → Item} {k : Nat} {xs : List Nat} {N0 : Nodes} (r : Row it xs) (m : Nat) (N : Nodes) (h : Below it k xs N0 m N) : (N k).up = 0 ∨ (stepOk N k ∧ ∃ m', m' < m ∧ Below it k xs N0 m' (stepN N k)) := by
  obtain ⟨⟨a, b, ps, rfl, ht, e⟩, hoff⟩ := h
  obtain ⟨hu, k0⟩ := up_of ht
  cases ps with
  | nil => exact .inl hu
  | cons f1 ps =>
    right
    have hup : (N k).up = f1.h := hu
    obtain ⟨⟨_, ek, _⟩, hpath⟩ := (trAt_plug _ _).1 ht
    have hf : f1.h ∈ ctx (f1 :: ps) := by cases f1; simp [ctx]
    have u0 : f1.h ≠ 0 := fun e0 => hpath.ne_zero (e0 ▸ hf)
    have eu : (N f1.h).up = upOf ps := by
      obtain ⟨side, u, c⟩ := f1
      cases side
      · obtain ⟨_, eu, _⟩ := hpath; exact congrArg Rec.up eu
      · obtain ⟨_, eu, _⟩ := hpath; exact congrArg Rec.up eu
    have off1 : ∀ i, i ∉ xs → turnN N k i = N0 i := fun i hi => by rw [turn_off ht e hi]; exact hoff i hi
    cases ps with
    | nil =>
      have ht0 : (N (N k).up).up = 0 := by rw [hup, eu]; rfl
      refine ⟨⟨by rw [hup]; exact u0, fun h => absurd ht0 h⟩, 0, by simp, ?_⟩
      have es : stepN N k = turnN N k := if_pos ht0
      rw [es]
      obtain ⟨side, u, c⟩ := f1
      cases side
      · obtain ⟨h1, h2⟩ := turn_left ht e r
        exact ⟨⟨_, _, [], rfl, h1, h2⟩, off1⟩
      · obtain ⟨h1, h2⟩ := turn_right ht e r
        exact ⟨⟨_, _, [], rfl, h1, h2⟩, off1⟩
    | cons f2 ps =>
      have ht0 : (N (N k).up).up = f2.h := by rw [hup, eu]; rfl
      have hf2 : f2.h ∈ ctx (f1 :: f2 :: ps) := by cases f1; cases f2; simp [ctx]
      have t0 : f2.h ≠ 0 := fun e0 => hpath.ne_zero (e0 ▸ hf2)
      have es : stepN N k = turnN (first N k) k := by
        unfold stepN first
        rw [if_neg (by rw [ht0]; exact t0)]
        split <;> rfl
      rw [es]
      have sides : sideN N (N (N k).up).up (N k).up = sideN N f2.h f1.h ∧ sideN N (N k).up k = sideN N f1.h k := by rw [ht0, hup]; exact ⟨rfl, rfl⟩
      -- it's enough to know the tree behind the first turn
      have fin : ∀ (a' b' : Tr) (f : Fm), TrAt (first N k) it 0 (plug (.node a' k b') (f :: ps)) → (plug (.node a' k b') (f :: ps)).list = xs → (∀ i, i ∉ xs → first N k i = N0 i) →
          stepOk N k ∧ ∃ m', m' < (f1 :: f2 :: ps).length ∧ Below it k xs N0 m' (turnN (first N k) k) := by
        intro a' b' f h1 h2 h3
        obtain ⟨hu1, _⟩ := up_of h1
        obtain ⟨_, hpath1⟩ := (trAt_plug _ _).1 h1
        have hf1 : f.h ∈ ctx (f :: ps) := by cases f; simp [ctx]
        have f0 : f.h ≠ 0 := fun e0 => hpath1.ne_zero (e0 ▸ hf1)
        refine ⟨⟨by rw [hup]; exact u0, fun _ => by rw [hu1]; exact f0⟩, ps.length, by simp; omega, ?_⟩
        have off2 : ∀ i, i ∉ xs → turnN (first N k) k i = N0 i := fun i hi => by rw [turn_off h1 h2 hi]; exact h3 i hi
        obtain ⟨side, u, c⟩ := f
        cases side
        · obtain ⟨h4, h5⟩ := turn_left h1 h2 r
          exact ⟨⟨_, _, ps, rfl, h4, h5⟩, off2⟩
        · obtain ⟨h4, h5⟩ := turn_right h1 h2 r
          exact ⟨⟨_, _, ps, rfl, h4, h5⟩, off2⟩
      obtain ⟨sd1, u, c⟩ := f1
      obtain ⟨sd2, t, d⟩ := f2
      simp only [] at sides ht0 hup
      cases sd1 <;> cases sd2
      · -- left, left
        have ht' : TrAt N it 0 (plug (.node (.node a k b) u c) (⟨false, t, d⟩ :: ps)) := ht
        have s1 := side_left ht e r
        have s2 := side_left ht' e r
        have ef : first N k = turnN N u := by unfold first; rw [sides.1, sides.2, s1, s2, if_pos rfl, hup]
        obtain ⟨h1, h2⟩ := turn_left ht' e r
        rw [← ef] at h1
        exact fin a b ⟨false, u, .node c t d⟩ h1 h2 (fun i hi => by rw [ef, turn_off ht' e hi]; exact hoff i hi)
      · -- k left, u right
        have ht' : TrAt N it 0 (plug (.node (.node a k b) u c) (⟨true, t, d⟩ :: ps)) := ht
        have s1 := side_left ht e r
        have s2 := side_right ht'
        have ef : first N k = turnN N k := by unfold first; rw [sides.1, sides.2, s1, s2, if_neg (by omega)]
        obtain ⟨h1, h2⟩ := turn_left ht e r
        rw [← ef] at h1
        exact fin _ _ _ h1 h2 (fun i hi => by rw [ef]; exact off1 i hi)
      · -- k right, u left
        have ht' : TrAt N it 0 (plug (.node c u (.node a k b)) (⟨false, t, d⟩ :: ps)) := ht
        have s1 := side_right ht
        have s2 := side_left ht' e r
        have ef : first N k = turnN N k := by unfold first; rw [sides.1, sides.2, s1, s2, if_neg (by omega)]
        obtain ⟨h1, h2⟩ := turn_right ht e r
        rw [← ef] at h1
        exact fin _ _ _ h1 h2 (fun i hi => by rw [ef]; exact off1 i hi)
      · -- right, right
        have ht' : TrAt N it 0 (plug (.node c u (.node a k b)) (⟨true, t, d⟩ :: ps)) := ht
        have s1 := side_right ht
        have s2 := side_right ht'
        have ef : first N k = turnN N u := by unfold first; rw [sides.1, sides.2, s1, s2, if_pos rfl, hup]
        obtain ⟨h1, h2⟩ := turn_right ht' e r
        rw [← ef] at h1
        exact fin a b ⟨true, u, .node d t c⟩ h1 h2 (fun i hi => by rw [ef, turn_off ht' e hi]; exact hoff i hi)
end Go.Sp

namespace Go.Sp
open Go Go.Hp
set_option linter.unusedVariables false

theorem join_tree {N : Nodes} {it : Nat → Item} {a t : Tr} {k : Nat} (ht : TrAt N it 0 (.node a k .nil)) (hs : TrAt N it 0 t) (h0 : t.root ≠ 0) (hd : (a.list ++ k :: t.list).Nodup) (hm : ∀ i ∈ a.list ++ k :: t.list, May (it i)) (hl : (a.list ++ k :: t.list).length ≤ 4096) :
    TrAt (pullN (hangN N k 1 t.root) k) it 0 (.node a k t) ∧ ∀ i, i ∉ a.list ++ k :: t.list → pullN (hangN N k 1 t.root) k i = N i := by
  generalize hM : hangN N k 1 t.root = M
  obtain ⟨k0, ek, hta, _⟩ := ht
  simp only [List.nodup_append, List.nodup_cons, List.mem_cons] at hd
  obtain ⟨na, ⟨kb, nb'⟩, dab⟩ := hd
  have hka : k ∉ a.list := fun e => dab k e k (.inl rfl) rfl
  have hrt := Tr.root_mem h0
  have hkr : t.root ≠ k := fun e => kb (by rw [← e]; exact hrt)
  have eM : M = upd (upd N k ((N k).setKid 1 t.root)) t.root { upd N k ((N k).setKid 1 t.root) t.root with up := k } := by
    rw [← hM]; unfold hangN; rw [if_neg h0]
  have Mk : M k = (N k).setKid 1 t.root := by
    rw [eM, upd_ne _ _ (Ne.symm hkr), upd_same]
  have Mo : ∀ i, i ≠ k → i ≠ t.root → M i = N i := fun i h1 h2 => by
    rw [eM, upd_ne _ _ h2, upd_ne _ _ h1]
  have Mt : M t.root = { N t.root with up := k } := by
    rw [eM, upd_same, upd_ne _ _ hkr]
  have htaM : TrAt M it k a := hta.congr fun i hi => Mo i (fun e => hka (e ▸ hi)) (fun e => dab i hi i (.inr (by rw [e]; exact hrt)) rfl)
  have htM : TrAt M it k t := hs.hung nb' (fun _ => Mt) (fun i hi hne => Mo i (fun e => kb (e ▸ hi)) hne)
  have pk : pullR M k = recOf it 0 a.root k t.root (a.list ++ k :: t.list) := by
    refine pullR_of htaM.below htM.below (by rw [Mk, ek]; rfl) (by rw [Mk, ek]; rfl) (by rw [Mk, ek]; rfl) (by rw [Mk]; rfl) hm hl
  have eP : pullN M k = upd M k (recOf it 0 a.root k t.root (a.list ++ k :: t.list)) := by unfold pullN; rw [pk]
  rw [eP]
  refine ⟨⟨k0, by rw [upd_same], htaM.congr fun i hi => upd_ne _ _ (fun e => hka (e ▸ hi)), htM.congr fun i hi => upd_ne _ _ (fun e => kb (e ▸ hi))⟩, fun i hi => ?_⟩
  simp only [List.mem_append, List.mem_cons, not_or] at hi
  rw [upd_ne _ _ hi.2.1]
  exact Mo i hi.2.1 (fun e => hi.2.2 (e ▸ hrt))
/-- A node reckoned anew that stands as its tree's root, with another item. -/
theorem set_tree {N : Nodes} {it : Nat → Item} {a b : Tr} {k : Nat} {x : Item} (ht : TrAt N it 0 (.node a k b)) (hd : (a.list ++ k :: b.list).Nodup) (hx : May x) (hm : ∀ i ∈ a.list ++ k :: b.list, May (it i)) (hl : (a.list ++ k :: b.list).length ≤ 4096) :
    TrAt (pullN (upd N k { N k with item := x }) k) (fun i => if i = k then x else it i) 0 (.node a k b) ∧ ∀ i, i ≠ k → pullN (upd N k { N k with item := x }) k i = N i := by
  obtain ⟨k0, ek, hta, htb⟩ := ht
  simp only [List.nodup_append, List.nodup_cons, List.mem_cons] at hd
  obtain ⟨na, ⟨kb, nb'⟩, dab⟩ := hd
  have hka : k ∉ a.list := fun e => dab k e k (.inl rfl) rfl
  have re : ∀ {t : Tr} {up : Nat}, TrAt N it up t → k ∉ t.list → TrAt (upd N k { N k with item := x }) (fun i => if i = k then x else it i) up t := by
    intro t
    induction t with
    | nil => intros; trivial
    | node l h r ihl ihr =>
      rintro up ⟨p1, p2, p3, p4⟩ hk
      simp only [Tr.list, List.mem_append, List.mem_cons, not_or] at hk
      refine ⟨p1, ?_, ihl p3 hk.1, ihr p4 hk.2.2⟩
      rw [upd_ne _ _ (Ne.symm hk.2.1), p2]
      unfold recOf
      have e2 : aggOf (fun i => if i = k then x else it i) (l.list ++ h :: r.list) = aggOf it (l.list ++ h :: r.list) := by
        unfold aggOf
        congr 1
        apply List.map_congr_left
        intro i hi
        have : i ≠ k := fun e => by
          subst e
          simp only [List.mem_append, List.mem_cons] at hi
          rcases hi with hi | hi | hi
          · exact hk.1 hi
          · exact hk.2.1 hi
          · exact hk.2.2 hi
        exact if_neg this
      rw [e2]
      simp only [if_neg (Ne.symm hk.2.1)]
  have hta' := re hta hka
  have htb' := re htb kb
  have pk : pullR (upd N k { N k with item := x }) k = recOf (fun i => if i = k then x else it i) 0 a.root k b.root (a.list ++ k :: b.list) := by
    refine pullR_of hta'.below htb'.below (by rw [upd_same]; simp) (by rw [upd_same, ek]; rfl) (by rw [upd_same, ek]; rfl) (by rw [upd_same, ek]; rfl) (fun i hi => ?_) hl
    by_cases e : i = k
    · simp only [e, if_true]; exact hx
    · simp only [e, if_false]; exact hm i hi
  have eP : pullN (upd N k { N k with item := x }) k = upd (upd N k { N k with item := x }) k (recOf (fun i => if i = k then x else it i) 0 a.root k b.root (a.list ++ k :: b.list)) := by unfold pullN; rw [pk]
  rw [eP]
  refine ⟨⟨k0, by rw [upd_same], hta'.congr fun i hi => upd_ne _ _ (fun e => hka (e ▸ hi)), htb'.congr fun i hi => upd_ne _ _ (fun e => kb (e ▸ hi))⟩, fun i hi => ?_⟩
  rw [upd_ne _ _ hi, upd_ne _ _ hi]
/-- Items of others do not bear upon a tree. -/
theorem TrAt.items {N : Nodes} {it it' : Nat → Item} : ∀ {t : Tr} {up : Nat}, TrAt N it up t → (∀ h ∈ t.list, it' h = it h) → TrAt N it' up t
  | .nil, _, _, _ => trivial
  | .node l h r, up, ⟨a, b, c, d⟩, hN => by
    have e2 : aggOf it' (l.list ++ h :: r.list) = aggOf it (l.list ++ h :: r.list) := by
      unfold aggOf; congr 1
      exact List.map_congr_left fun i hi => hN i hi
    have e1 : it' h = it h := hN h (by simp [Tr.list])
    refine ⟨a, ?_, c.items fun k hk => hN k (by simp [Tr.list, hk]), d.items fun k hk => hN k (by simp [Tr.list, hk])⟩
    unfold recOf at b ⊢
    rw [b, e1, e2]
theorem flagsL_and : ∀ {xs : List Item} {fl : Nat}, flagsL xs &&& fl = 0 ↔ ∀ x ∈ xs, x.flags.toNat &&& fl = 0
  | [], fl => by simp [flagsL]
  | x :: xs, fl => by
    have ih := flagsL_and (xs := xs) (fl := fl)
    simp only [flagsL, Nat.and_or_distrib_right, Nat.or_eq_zero_iff, ih, List.mem_cons, forall_eq_or_imp]
theorem list_ne_nil {t : Tr} (h : t.root ≠ 0) : t.list ≠ [] := by
  cases t with
  | nil => exact absurd rfl h
  | node l k r => simp [Tr.list]
theorem root_of_list {N : Nodes} {it : Nat → Item} {t : Tr} {up : Nat} (h : TrAt N it up t) (hl : t.list ≠ []) : t.root ≠ 0 := by
  cases t with
  | nil => exact absurd rfl hl
  | node l k r => exact h.1
theorem nil_of_root {N : Nodes} {it : Nat → Item} {t : Tr} {up : Nat} (h : TrAt N it up t) (h0 : t.root = 0) : t = .nil := by
  cases t with
  | nil => rfl
  | node l k r => exact absurd h0 h.1
end Go.Sp

namespace Go.Sp
open Go Go.Hp
set_option linter.unusedVariables false

def andNot64 (a b : Int) : Int := bitAndNot .i64 a b
def and64 (a b : Int) : Int := bitAnd .i64 a b
theorem wrap_zero {n : Nat} (h : n < 18446744073709551616) : IntKind.i64.wrap (n : Int) = 0 ↔ n = 0 := by
  constructor
  · intro e
    by_cases h2 : n < 9223372036854775808
    · rw [wrap_i64] at e <;> omega
    · have : IntKind.i64.wrap ((n : Int)) = (n : Int) - 18446744073709551616 := by
        unfold IntKind.wrap
        simp only [IntKind.signed, IntKind.bits]
        simp
        omega
      omega
  · rintro rfl; rfl
theorem andNot_zero {x : Int} (h1 : -9223372036854775808 ≤ x) (h2 : x ≤ 9223372036854775807) : andNot64 x 255 = 0 ↔ 0 ≤ x ∧ x < 256 := by
  unfold andNot64 bitAndNot
  show IntKind.i64.wrap ((BitVec.ofInt 64 x &&& ~~~ BitVec.ofInt 64 255).toNat : Int) = 0 ↔ _
  rw [wrap_zero (BitVec.isLt _)]
  have ht : (BitVec.ofInt 64 x).toNat = (x % 18446744073709551616).toNat := by
    rw [BitVec.toNat_ofInt]; rfl
  have key : (BitVec.ofInt 64 x &&& ~~~ BitVec.ofInt 64 255).toNat = 0 ↔ (BitVec.ofInt 64 x).toNat < 2 ^ 8 := by
    constructor
    · intro h
      have hz : BitVec.ofInt 64 x &&& ~~~ BitVec.ofInt 64 255 = 0#64 := BitVec.eq_of_toNat_eq h
      apply Nat.lt_pow_two_of_testBit
      intro i hi
      by_cases h64 : i < 64
      · have := congrArg (fun y => BitVec.getLsbD y i) hz
        simp only [BitVec.getLsbD_and, BitVec.getLsbD_not, BitVec.getLsbD_zero] at this
        have h255 : (BitVec.ofInt 64 255).getLsbD i = false := by
          show Nat.testBit (BitVec.ofInt 64 255).toNat i = false
          exact Nat.testBit_lt_two_pow (Nat.lt_of_lt_of_le (show (BitVec.ofInt 64 255).toNat < 2 ^ 8 by decide) (Nat.pow_le_pow_right (by decide) hi))
        rw [h255] at this
        simp only [h64, decide_true, Bool.not_false, Bool.and_true] at this
        exact this
      · exact Nat.testBit_lt_two_pow (Nat.lt_of_lt_of_le (BitVec.isLt _) (Nat.pow_le_pow_right (by decide) (by omega)))
    · intro h
      have : BitVec.ofInt 64 x &&& ~~~ BitVec.ofInt 64 255 = 0#64 := by
        apply BitVec.eq_of_getLsbD_eq
        intro i hi
        simp only [BitVec.getLsbD_and, BitVec.getLsbD_not, BitVec.getLsbD_zero]
        by_cases h8 : i < 8
        · have h255 : (BitVec.ofInt 64 255).getLsbD i = true := by
            show Nat.testBit (BitVec.ofInt 64 255).toNat i = true
            have e : (BitVec.ofInt 64 255).toNat = 2 ^ 8 - 1 := by decide
            rw [e, Nat.testBit_two_pow_sub_one]; simp [h8]
          rw [h255]; simp
        · have : (BitVec.ofInt 64 x).getLsbD i = false := Nat.testBit_lt_two_pow (Nat.lt_of_lt_of_le h (Nat.pow_le_pow_right (by decide) (by omega)))
          rw [this]; simp
      rw [this]; rfl
  rw [key, ht]
  constructor
  · intro h
    have : x % 18446744073709551616 < 256 := by omega
    omega
  · rintro ⟨h3, h4⟩
    rw [Int.emod_eq_of_lt h3 (by omega)]
    omega
theorem and64_nat {a b : Nat} (ha : a < 256) (hb : b < 256) : and64 (a : Int) (b : Int) = ((a &&& b : Nat) : Int) := by
  have h : a &&& b < 2 ^ 8 := Nat.and_lt_two_pow (n := 8) a hb
  have e1 : ∀ n : Nat, n < 256 → (BitVec.ofInt IntKind.i64.bits (n : Int)).toNat = n := fun n hn => by
    show (BitVec.ofInt 64 (n : Int)).toNat = n
    rw [BitVec.toNat_ofInt]
    omega
  unfold and64 bitAnd
  rw [BitVec.toNat_and, e1 a ha, e1 b hb, wrap_i64] <;> omega
end Go.Sp
