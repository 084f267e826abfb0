/-
  Tours in plain Lean: closed walks around a tree, turned, linked, cut.
  Arenas as plain data: what is kept by handles, which are free and in what order; their rows of cells.
  Splay forests as plain data: nodes, and what each inner function of the package does to them.
  Sums of the splay forest: plus, own.
  Splay forests in memory; node, own, below, pull, hang, side, turn.
-/
import Derived.Test.YtnlafhnbakipmaaHpA
import Derived.Test.YtnlafhnbakipmaaHpM
import Derived.Test.YtnlafhnbakipmaaHpT
import Derived.Test.YtnlafhnbakipmaaTabM
namespace Go.To
set_option linter.unusedVariables false
abbrev St := Nat × Nat
inductive Ex : Nat → List St → Bool → Prop
 | nil {r : Nat} : Ex r [] false
 | stop {r : Nat} {l : List St} : Ex r l false → Ex r ((r, r) :: l) true
 | edge {r c : Nat} {m l : List St} {b : Bool} : c ≠ r → Ex c m true → Ex r l b → Ex r ((r, c) :: (m ++ (c, r) :: l)) b
def Tour (l : List St) : Prop := ∃ r, Ex r l true
theorem Ex.append {r : Nat} {l m : List St} {a b : Bool} (h : Ex r l a) (k : Ex r m b) (hab : a = false ∨ b = false) : Ex r (l ++ m) (a || b) := by
 induction h with
 | nil => simpa using k
 | @stop r l h ih =>
  have hb : b = false := by rcases hab with h | h; cases h; exact h
  subst hb
  simpa using Ex.stop (ih k (.inl rfl))
 | @edge r c n l b' hc hm hl ih1 ih =>
  have := Ex.edge hc hm (ih k hab)
  simpa using this
theorem Tour.rot1 {x : St} {l : List St} (h : Tour (x :: l)) : Tour (l ++ [x]) := by
 obtain ⟨r, h⟩ := h
 generalize hy : x :: l = y at h
 generalize hb : true = b at h
 cases h with
 | nil => cases hy
 | stop h =>
  obtain ⟨rfl, rfl⟩ := List.cons.inj hy
  exact ⟨r, by simpa using h.append (Ex.stop .nil) (.inl rfl)⟩
 | @edge _ c m l' b' hc hm hl =>
  obtain ⟨rfl, rfl⟩ := List.cons.inj hy
  subst hb
  have := hm.append (Ex.edge hc.symm hl (Ex.nil (r := c))) (.inr rfl)
  exact ⟨c, by simpa using this⟩
theorem Tour.rot {a b : List St} (h : Tour (a ++ b)) : Tour (b ++ a) := by
 induction a generalizing b with
 | nil => simpa using h
 | cons x a ih =>
  have := ih (b := b ++ [x]) (by simpa using Tour.rot1 (x := x) (l := a ++ b) (by simpa using h))
  simpa using this
theorem Tour.at_stop {v : Nat} {l : List St} (h : Tour ((v, v) :: l)) : Ex v l false := by
 obtain ⟨r, h⟩ := h
 generalize hy : (v, v) :: l = y at h
 generalize hb : true = b at h
 cases h with
 | nil => cases hy
 | stop h =>
  obtain ⟨h1, rfl⟩ := List.cons.inj hy
  cases h1; exact h
 | edge hc hm hl =>
  obtain ⟨h1, rfl⟩ := List.cons.inj hy
  cases h1; exact absurd rfl hc
theorem Tour.of_stop {v : Nat} {l : List St} (h : Ex v l false) : Tour ((v, v) :: l) := ⟨v, .stop h⟩
theorem Tour.link {u v : Nat} {a1 a2 b : List St} (huv : v ≠ u) (ha : Tour (a1 ++ (u, u) :: a2)) (hb : Tour ((v, v) :: b)) :
  Tour (a1 ++ (u, u) :: (u, v) :: ((v, v) :: b ++ (v, u) :: a2)) := by
 have h1 := ha.rot.at_stop (l := a2 ++ a1)
 have h2 := Ex.edge huv (Ex.stop hb.at_stop) h1
 have h3 := Tour.of_stop h2
 have h4 : Tour (((u, u) :: (u, v) :: ((v, v) :: b ++ (v, u) :: a2)) ++ a1) := by simpa using h3
 exact h4.rot
theorem Ex.pair {r : Nat} {l : List St} {b : Bool} (h : Ex r l b) {u v : Nat} (hm : (u, v) ∈ l) : (v, u) ∈ l := by
 induction h with
 | nil => cases hm
 | stop h ih =>
  simp only [List.mem_cons, Prod.mk.injEq] at hm ⊢
  rcases hm with ⟨rfl, rfl⟩ | hm
  ·exact .inl ⟨rfl, rfl⟩
  ·exact .inr (ih hm)
 | edge hc h1 h2 ih1 ih2 =>
  simp only [List.mem_cons, List.mem_append, Prod.mk.injEq] at hm ⊢
  rcases hm with ⟨rfl, rfl⟩ | hm | ⟨rfl, rfl⟩ | hm
  ·exact .inr (.inr (.inl ⟨rfl, rfl⟩))
  ·exact .inr (.inl (ih1 hm))
  ·exact .inl ⟨rfl, rfl⟩
  ·exact .inr (.inr (.inr (ih2 hm)))
theorem Ex.root {r : Nat} {l : List St} {b : Bool} (h : Ex r l b) (hb : b = true) : (r, r) ∈ l := by
 induction h with
 | nil => cases hb
 | stop h ih => exact .head _
 | edge hc h1 h2 ih1 ih2 =>
  have := ih2 hb
  simp [this]
theorem Ex.ends {r : Nat} {l : List St} {b : Bool} (h : Ex r l b) {u v : Nat} (hm : (u, v) ∈ l) : (u = r ∨ (u, u) ∈ l) ∧ (v = r ∨ (v, v) ∈ l) := by
 induction h with
 | nil => cases hm
 | stop h ih =>
  simp only [List.mem_cons, Prod.mk.injEq] at hm ⊢
  rcases hm with ⟨rfl, rfl⟩ | hm
  ·exact ⟨.inl rfl, .inl rfl⟩
  ·obtain ⟨h1, h2⟩ := ih hm
   exact ⟨h1.imp id .inr, h2.imp id .inr⟩
 | @edge r c m l b hc h1 h2 ih1 ih2 =>
  have hcm : (c, c) ∈ (r, c) :: (m ++ (c, r) :: l) := by have := h1.root rfl; simp [this]
  have up1 : ∀ x : St, x ∈ m → x ∈ (r, c) :: (m ++ (c, r) :: l) := fun x hx => by simp [hx]
  have up2 : ∀ x : St, x ∈ l → x ∈ (r, c) :: (m ++ (c, r) :: l) := fun x hx => by simp [hx]
  simp only [List.mem_cons, List.mem_append, Prod.mk.injEq] at hm
  rcases hm with ⟨rfl, rfl⟩ | hm | ⟨rfl, rfl⟩ | hm
  ·exact ⟨.inl rfl, .inr hcm⟩
  ·obtain ⟨h3, h4⟩ := ih1 hm
   refine ⟨.inr ?_, .inr ?_⟩
   ·rcases h3 with rfl | h3
    ·exact hcm
    ·exact up1 _ h3
   ·rcases h4 with rfl | h4
    ·exact hcm
    ·exact up1 _ h4
  ·exact ⟨.inr hcm, .inl rfl⟩
  ·obtain ⟨h3, h4⟩ := ih2 hm
   exact ⟨h3.imp id (up2 _), h4.imp id (up2 _)⟩
theorem Tour.pair {l : List St} (h : Tour l) {u v : Nat} (hm : (u, v) ∈ l) : (v, u) ∈ l := by
 obtain ⟨r, h⟩ := h; exact h.pair hm
theorem Tour.ends {l : List St} (h : Tour l) {u v : Nat} (hm : (u, v) ∈ l) : (u, u) ∈ l ∧ (v, v) ∈ l := by
 obtain ⟨r, h⟩ := h
 have hr := h.root rfl
 obtain ⟨h1, h2⟩ := h.ends hm
 exact ⟨by rcases h1 with rfl | h1; exact hr; exact h1, by rcases h2 with rfl | h2; exact hr; exact h2⟩
theorem Tour.some_stop {l : List St} (h : Tour l) : ∃ r, (r, r) ∈ l := by
 obtain ⟨r, h⟩ := h; exact ⟨r, h.root rfl⟩
theorem Tour.cut {u v : Nat} {a m b : List St} (huv : u ≠ v) (hn : (a ++ (u, v) :: m ++ (v, u) :: b).Nodup) (h : Tour (a ++ (u, v) :: m ++ (v, u) :: b)) : Tour m ∧ Tour (a ++ b) := by
 have h1 : Tour (((u, v) :: (m ++ (v, u) :: b)) ++ a) := Tour.rot (a := a) (by simpa using h)
 obtain ⟨r, h1⟩ := h1
 generalize hy : (u, v) :: (m ++ (v, u) :: b) ++ a = y at h1
 generalize hb : true = t at h1
 cases h1 with
 | nil => cases hy
 | stop h2 =>
  obtain ⟨h3, _⟩ := List.cons.inj hy
  cases h3; exact absurd rfl huv
 | @edge _ c m' l' _ hc hm hl =>
  subst hb
  obtain ⟨h3, h4⟩ := List.cons.inj hy
  cases h3
  have key : m = m' ∧ b ++ a = l' := by
   have h5 : m ++ (v, u) :: (b ++ a) = m' ++ (v, u) :: l' := by simpa using h4
   have n1 : (v, u) ∉ m := fun hh => by
    rw [List.append_assoc, List.nodup_append] at hn
    have h6 := hn.2.1
    simp only [List.cons_append, List.nodup_cons, List.nodup_append] at h6
    exact h6.2.2.2 _ hh _ (.head _) rfl
   have n2 : (v, u) ∉ m' := fun hh => by
    have hp : (m' ++ (v, u) :: l').Nodup := by
     rw [← h5]
     have : (a ++ ((u, v) :: (m ++ (v, u) :: b))).Nodup := by simpa using hn
     have h8 := (List.perm_append_comm (l₁ := a) (l₂ := (u, v) :: (m ++ (v, u) :: b))).nodup_iff.1 this
     simp only [List.cons_append, List.nodup_cons] at h8
     simpa using h8.2
    rw [List.nodup_append] at hp
    exact hp.2.2 _ hh _ (.head _) rfl
   have aux : ∀ (p q s t : List St) (x : St), x ∉ p → x ∉ q → p ++ x :: s = q ++ x :: t → p = q ∧ s = t := by
    intro p
    induction p with
    | nil =>
     intro q s t x hp hq e
     cases q with
     | nil => exact ⟨rfl, (List.cons.inj e).2⟩
     | cons y q => exact absurd (by rw [(List.cons.inj e).1]; exact .head _) hq
    | cons z p ih =>
     intro q s t x hp hq e
     cases q with
     | nil => exact absurd (by rw [← (List.cons.inj e).1]; exact .head _) hp
     | cons y q =>
      obtain ⟨e1, e2⟩ := List.cons.inj e
      obtain ⟨e3, e4⟩ := ih q s t x (fun h => hp (.tail _ h)) (fun h => hq (.tail _ h)) e2
      exact ⟨by rw [e1, e3], e4⟩
   exact aux _ _ _ _ _ n1 n2 h5
  obtain ⟨rfl, rfl⟩ := key
  exact ⟨⟨_, hm⟩, Tour.rot (a := b) ⟨_, hl⟩⟩
def stops (l : List St) : Nat := (l.filter fun x => x.1 == x.2).length
theorem Ex.count {r : Nat} {l : List St} {b : Bool} (h : Ex r l b) : l.length + (if b then 2 else 0) = 3 * stops l := by
 induction h with
 | nil => rfl
 | stop h ih => simp [stops] at ih ⊢; omega
 | @edge r c m l b hc h1 h2 ih1 ih2 =>
  have e1 : (r == c) = false := by simp; omega
  have e2 : (c == r) = false := by simp [hc]
  simp [stops, e1, e2] at ih1 ih2 ⊢
  omega
theorem Tour.count {l : List St} (h : Tour l) : l.length + 2 = 3 * stops l := by
 obtain ⟨r, h⟩ := h; simpa using h.count
inductive Way (E : Nat → Nat → Prop) : Nat → Nat → Prop
 | refl (u : Nat) : Way E u u
 | step {u v w : Nat} : Way E u v → E v w → Way E u w
theorem Way.trans {E : Nat → Nat → Prop} {u v w : Nat} (h : Way E u v) (k : Way E v w) : Way E u w := by
 induction k with
 | refl => exact h
 | step _ e ih => exact .step ih e
theorem Way.mono {E E' : Nat → Nat → Prop} (hE : ∀ a b, E a b → E' a b) {u v : Nat} (h : Way E u v) : Way E' u v := by
 induction h with
 | refl => exact .refl _
 | step _ e ih => exact .step ih (hE _ _ e)
theorem Way.symm {E : Nat → Nat → Prop} (hE : ∀ a b, E a b → E b a) {u v : Nat} (h : Way E u v) : Way E v u := by
 induction h with
 | refl => exact .refl _
 | step _ e ih => exact (Way.step (.refl _) (hE _ _ e)).trans ih
theorem Ex.way {r : Nat} {l : List St} {b : Bool} (h : Ex r l b) {v : Nat} (hv : (v, v) ∈ l) : Way (fun a b => a ≠ b ∧ (a, b) ∈ l) r v := by
 induction h with
 | nil => cases hv
 | @stop r l h ih =>
  simp only [List.mem_cons, Prod.mk.injEq] at hv
  rcases hv with ⟨rfl, _⟩ | hv
  ·exact .refl _
  ·exact (ih hv).mono fun a b h => ⟨h.1, .tail _ h.2⟩
 | @edge r c m l b hc h1 h2 ih1 ih2 =>
  simp only [List.mem_cons, List.mem_append, Prod.mk.injEq] at hv
  rcases hv with ⟨rfl, rfl⟩ | hv | ⟨rfl, rfl⟩ | hv
  ·exact absurd rfl hc
  ·exact (Way.step (.refl _) ⟨hc.symm, .head _⟩).trans ((ih1 hv).mono fun a b h => ⟨h.1, by simp [h.2]⟩)
  ·exact absurd rfl hc
  ·exact (ih2 hv).mono fun a b h => ⟨h.1, by simp [h.2]⟩
theorem Tour.way {l : List St} (h : Tour l) {u v : Nat} (hu : (u, u) ∈ l) (hv : (v, v) ∈ l) : Way (fun a b => a ≠ b ∧ (a, b) ∈ l) u v := by
 have h' := h
 obtain ⟨r, h⟩ := h
 exact ((h.way hu).symm fun a b e => ⟨e.1.symm, h'.pair e.2⟩).trans (h.way hv)
end Go.To
namespace Go.Hp
open Go
set_option linter.unusedVariables false

theorem flat_length {w : Nat} : ∀ {rows : List (List Value)}, (∀ r ∈ rows, r.length = w) → rows.flatten.length = rows.length * w
 | [], _ => by simp
 | r :: rows, h => by
  rw [List.flatten_cons, List.length_append, h r (.head _), flat_length fun r hr => h r (.tail _ hr), List.length_cons, Nat.succ_mul, Nat.add_comm]
theorem flat_get {w : Nat} : ∀ {rows : List (List Value)} (_ : ∀ r ∈ rows, r.length = w) {i j : Nat} {r : List Value}, rows[i]? = some r → j < w → rows.flatten[i * w + j]? = r[j]?
 | [], _, i, j, r, h, _ => by cases h
 | x :: rows, hw, 0, j, r, h, hj => by
  obtain rfl := Option.some.inj h
  rw [List.flatten_cons, Nat.zero_mul, Nat.zero_add, List.getElem?_append_left (by rw [hw x (.head _)]; exact hj)]
 | x :: rows, hw, i + 1, j, r, h, hj => by
  rw [List.flatten_cons, List.getElem?_append_right (by rw [hw x (.head _), Nat.succ_mul]; omega), hw x (.head _),
   show (i + 1) * w + j - w = i * w + j by rw [Nat.succ_mul]; omega]
  exact flat_get (fun r hr => hw r (.tail _ hr)) (by simpa using h) hj
theorem flat_set {w : Nat} : ∀ {rows : List (List Value)} (_ : ∀ r ∈ rows, r.length = w) {i : Nat} (r : List Value), i < rows.length → ∀ rest : List Value,
  (rows.flatten ++ rest).take (i * w) ++ r ++ (rows.flatten ++ rest).drop (i * w + w) = (rows.set i r).flatten ++ rest
 | [], _, i, r, h, _ => absurd h (by simp)
 | x :: rows, hw, 0, r, h, rest => by
  have hx := hw x (.head _)
  simp only [List.flatten_cons, Nat.zero_mul, List.take_zero, List.nil_append, Nat.zero_add, List.set_cons_zero, List.append_assoc]
  rw [List.drop_append, ← hx]
  simp
 | x :: rows, hw, i + 1, r, h, rest => by
  have hx := hw x (.head _)
  have ih := flat_set (fun r hr => hw r (.tail _ hr)) (rows := rows) (i := i) r (by simpa using h) rest
  simp only [List.flatten_cons, List.set_cons_succ, List.append_assoc]
  rw [show (i + 1) * w = x.length + i * w by rw [hx, Nat.succ_mul]; omega]
  rw [show x.length + i * w + w = x.length + (i * w + w) by omega]
  rw [List.take_length_add_append, List.drop_length_add_append]
  simp only [List.append_assoc] at ih ⊢
  rw [ih]

structure Ar where
 room : Nat
 vals : List (Option (List Value))
 free : List Nat
def nextOf : List Nat → Nat → Nat
 | [], _ => 0
 | x :: xs, h => if x = h then xs.headD 0 else nextOf xs h
def slotC (z : List Value) (s : Option (List Value)) (nx : Nat) : List Value :=
 match s with
 | some v => v ++ [.bool true, .int .i64 0]
 | none => z ++ [.bool false, .int .i64 nx]
namespace Ar
def many (A : Ar) : Nat := (A.vals.filter (·.isSome)).length
def get (A : Ar) (h : Nat) : Option (List Value) := (A.vals[h]?).join
def rows (A : Ar) (z : List Value) : List (List Value) := A.vals.mapIdx fun i s => slotC z s (nextOf A.free i)
def handles (A : Ar) : List Nat := (List.range A.vals.length).filter fun h => (A.get h).isSome
structure Ok (A : Ar) (k : Nat) : Prop where
 len : ∀ h v, A.get h = some v → v.length = k
 zero : A.vals[0]? = some none
 nodup : A.free.Nodup
 mem : ∀ h, h ∈ A.free ↔ 1 ≤ h ∧ h < A.vals.length ∧ A.get h = none
 most : A.many ≤ A.room
 room : A.room ≤ 4096
 size : A.vals.length ≤ A.room + 1
def new (room : Nat) : Ar := ⟨room, [none], []⟩
def putNew (A : Ar) (v : List Value) : Ar := { A with vals := A.vals ++ [some v] }
def putOld (A : Ar) (h : Nat) (v : List Value) : Ar := { A with vals := A.vals.set h (some v), free := A.free.tail }
def drop (A : Ar) (h : Nat) : Ar := { A with vals := A.vals.set h none, free := h :: A.free }
def set (A : Ar) (h : Nat) (v : List Value) : Ar := { A with vals := A.vals.set h (some v) }
theorem get_some_lt {A : Ar} {h : Nat} {v : List Value} (hg : A.get h = some v) : h < A.vals.length := by
 unfold get at hg
 rcases Nat.lt_or_ge h A.vals.length with h' | h'
 ·exact h'
 ·rw [List.getElem?_eq_none h'] at hg; cases hg
theorem get_eq {A : Ar} {h : Nat} (hl : h < A.vals.length) : A.vals[h]? = some (A.get h) := by
 unfold get
 rw [List.getElem?_eq_getElem hl]
 rfl
theorem rows_length (A : Ar) (z : List Value) : (A.rows z).length = A.vals.length := by simp [rows]
theorem rows_get {A : Ar} {z : List Value} {h : Nat} (hl : h < A.vals.length) : (A.rows z)[h]? = some (slotC z (A.get h) (nextOf A.free h)) := by
 unfold rows
 rw [List.getElem?_mapIdx, get_eq hl]
 rfl
theorem rows_w {A : Ar} {z : List Value} {k : Nat} (hz : z.length = k) (ok : A.Ok k) : ∀ r ∈ A.rows z, r.length = k + 2 := by
 intro r hr
 obtain ⟨i, hi⟩ := List.getElem?_of_mem hr
 have hl : i < A.vals.length := by
  rcases Nat.lt_or_ge i A.vals.length with h' | h'
  ·exact h'
  ·rw [List.getElem?_eq_none (by rw [rows_length]; exact h')] at hi; cases hi
 rw [rows_get hl] at hi
 obtain rfl := Option.some.inj hi
 unfold slotC
 split
 ·rename_i v hv
  simp [ok.len i v hv]
 ·simp [hz]
theorem many_append (l : List (Option (List Value))) (s : Option (List Value)) : ((l ++ [s]).filter (·.isSome)).length = (l.filter (·.isSome)).length + if s.isSome then 1 else 0 := by
 cases s <;> simp [List.filter_append]
theorem many_set : ∀ (l : List (Option (List Value))) (h : Nat) (s t : Option (List Value)), l[h]? = some t →
  ((l.set h s).filter (·.isSome)).length + (if t.isSome then 1 else 0) = (l.filter (·.isSome)).length + if s.isSome then 1 else 0
 | [], h, s, t, ht => by cases ht
 | x :: l, 0, s, t, ht => by
  obtain rfl := Option.some.inj ht
  cases x <;> cases s <;> simp
 | x :: l, h + 1, s, t, ht => by
  have := many_set l h s t (by simpa using ht)
  cases x <;> cases s <;> cases t <;> simp at this ⊢ <;> omega
theorem many_le (l : List (Option (List Value))) : (l.filter (·.isSome)).length ≤ l.length := List.length_filter_le _ _
theorem filter_two : ∀ l : List (Option (List Value)), l.length = (l.filter (·.isSome)).length + (l.filter (fun s => !s.isSome)).length
 | [] => rfl
 | x :: l => by
  have := filter_two l
  cases x <;> simp at this ⊢ <;> omega
theorem count_free (A : Ar) {k : Nat} (ok : A.Ok k) : A.many + A.free.length + 1 = A.vals.length := by
 have h1 : A.vals.length = A.many + (A.vals.filter (fun s => !s.isSome)).length := by
  unfold many
  exact filter_two A.vals
 have h2 : (A.vals.filter (fun s => !s.isSome)).length = ((List.range A.vals.length).filter fun h => !(A.get h).isSome).length := by
  have e : A.vals = (List.range A.vals.length).map A.get := by
   apply List.ext_getElem?
   intro i
   rcases Nat.lt_or_ge i A.vals.length with h' | h'
   ·rw [get_eq h']; simp [h']
   ·rw [List.getElem?_eq_none h', List.getElem?_eq_none (by simpa using h')]
  conv => lhs; rw [e]
  rw [List.filter_map, List.length_map]
  rfl
 have h3 : ((List.range A.vals.length).filter fun h => !(A.get h).isSome).Perm (0 :: A.free) := by
  rw [List.perm_ext_iff_of_nodup (List.nodup_range.filter _)]
  ·intro h
   simp only [List.mem_filter, List.mem_range, Bool.not_eq_true', Option.isSome_eq_false_iff, Option.isNone_iff_eq_none, List.mem_cons, ok.mem]
   constructor
   ·rintro ⟨h1, h2⟩
    by_cases h0 : h = 0
    ·exact .inl h0
    ·exact .inr ⟨by omega, h1, h2⟩
   ·rintro (rfl | ⟨_, h1, h2⟩)
    ·have := ok.zero
     refine ⟨?_, ?_⟩
     ·rcases Nat.lt_or_ge 0 A.vals.length with h' | h'
      ·exact h'
      ·rw [List.getElem?_eq_none h'] at this; cases this
     ·unfold get; rw [this]; rfl
    ·exact ⟨h1, h2⟩
  ·rw [List.nodup_cons]
   exact ⟨fun h => by have := (ok.mem 0).1 h; omega, ok.nodup⟩
 have h4 := h3.length_eq
 rw [List.length_cons] at h4
 omega
theorem Ok.len_le {A : Ar} {k : Nat} (ok : A.Ok k) : A.vals.length ≤ 4097 := by
 have := ok.size
 have := ok.room
 omega
end Ar
end Go.Hp
namespace Go.Hp
open Go
structure ArAt (H : Heap) (p g k : Nat) (z : List Value) (A : Ar) : Prop where
 ok : A.Ok k
 zl : z.length = k
 ne : p ≠ g
 at_ : ∃ c rest, Blk H p [.int .i64 A.room, .int .i64 A.many, .slice (some ⟨g, 0, none⟩) A.vals.length c, .int .i64 (A.free.headD 0 : Nat)] ∧
  Blk H g ((A.rows z).flatten ++ rest) ∧ A.vals.length * (k + 2) + rest.length = c * (k + 2) ∧ A.vals.length ≤ c
theorem ArAt.frame {S : Nat → Prop} {H H' : Heap} {p g k : Nat} {z : List Value} {A : Ar} (h : ArAt H p g k z A) (hf : Fr S H H') (h1 : ¬ S p) (h2 : ¬ S g) : ArAt H' p g k z A :=
 ⟨h.ok, h.zl, h.ne, let ⟨c, rest, a, b, d, e⟩ := h.at_; ⟨c, rest, a.frame hf h1, b.frame hf h2, d, e⟩⟩
theorem slot_cell {A : Ar} {z : List Value} {k : Nat} (ok : A.Ok k) (hz : z.length = k) {rest : List Value} {h j : Nat} (hh : h < A.vals.length) (hj : j < k + 2) :
  ((A.rows z).flatten ++ rest)[h * (k + 2) + j]? = (slotC z (A.get h) (nextOf A.free h))[j]? := by
 have hw := Ar.rows_w hz ok
 have hl := flat_length hw
 rw [Ar.rows_length] at hl
 rw [List.getElem?_append_left, flat_get hw (Ar.rows_get hh) hj]
 rw [hl]
 have : (h + 1) * (k + 2) ≤ A.vals.length * (k + 2) := Nat.mul_le_mul_right _ hh
 rw [Nat.succ_mul] at this
 omega
theorem slot_used {A : Ar} {z : List Value} {k : Nat} (ok : A.Ok k) (hz : z.length = k) {rest : List Value} {h : Nat} (hh : h < A.vals.length) :
  ((A.rows z).flatten ++ rest)[h * (k + 2) + k]? = some (.bool (A.get h).isSome) := by
 rw [slot_cell ok hz hh (by omega)]
 unfold slotC
 split
 ·rename_i v hv
  rw [List.getElem?_append_right (by rw [ok.len h v hv]; omega), ok.len h v hv, Nat.sub_self]; simp [hv]
 ·rename_i hv
  rw [List.getElem?_append_right (by omega), hz, Nat.sub_self]; simp [hv]
theorem slot_next {A : Ar} {z : List Value} {k : Nat} (ok : A.Ok k) (hz : z.length = k) {rest : List Value} {h : Nat} (hh : h < A.vals.length) (hn : A.get h = none) :
  ((A.rows z).flatten ++ rest)[h * (k + 2) + (k + 1)]? = some (.int .i64 (nextOf A.free h)) := by
 rw [slot_cell ok hz hh (by omega)]
 unfold slotC
 rw [hn]
 simp only []
 rw [List.getElem?_append_right (by omega), hz, Nat.add_sub_cancel_left]
 rfl
theorem slot_val {A : Ar} {z : List Value} {k : Nat} (ok : A.Ok k) (hz : z.length = k) {rest : List Value} {h j : Nat} {v : List Value} (hv : A.get h = some v) (hj : j < k) :
  ((A.rows z).flatten ++ rest)[h * (k + 2) + j]? = v[j]? := by
 rw [slot_cell ok hz (Ar.get_some_lt hv) (by omega)]
 unfold slotC
 rw [hv]
 simp only []
 rw [List.getElem?_append_left (by rw [ok.len h v hv]; exact hj)]
end Go.Hp
namespace Go.Hp
open Go
theorem row_set {w : Nat} {rows : List (List Value)} (hw : ∀ r ∈ rows, r.length = w) {i j : Nat} {r : List Value} (hr : rows[i]? = some r) (hj : j < w) (v : Value) (rest : List Value) :
  (rows.flatten ++ rest).set (i * w + j) v = (rows.set i (r.set j v)).flatten ++ rest := by
 have hi : i < rows.length := by
  rcases Nat.lt_or_ge i rows.length with h | h
  ·exact h
  ·rw [List.getElem?_eq_none h] at hr; cases hr
 have hrl : r.length = w := hw r (List.mem_of_getElem? hr)
 rw [← flat_set hw (r.set j v) hi rest]
 have hfl := flat_length hw
 have hle : i * w + w ≤ rows.length * w := by rw [← Nat.succ_mul]; exact Nat.mul_le_mul_right _ hi
 have hfd : ∀ d, d < w → (rows.flatten ++ rest)[i * w + d]? = r[d]? := fun d hd => by
  rw [List.getElem?_append_left (by rw [hfl]; omega), flat_get hw hr hd]
 have hL : i * w + w ≤ (rows.flatten ++ rest).length := by rw [List.length_append, hfl]; omega
 generalize rows.flatten ++ rest = L at hfd hL ⊢
 apply List.ext_getElem?
 intro x
 have htl : (L.take (i * w)).length = i * w := by rw [List.length_take]; omega
 by_cases h1 : x < i * w
 ·rw [List.getElem?_set_ne (by omega), List.append_assoc, List.getElem?_append_left (by rw [htl]; exact h1), List.getElem?_take_of_lt h1]
 ·by_cases h2 : x < i * w + w
  ·rw [List.append_assoc, List.getElem?_append_right (by rw [htl]; omega), htl, List.getElem?_append_left (by rw [List.length_set, hrl]; omega)]
   by_cases h3 : x = i * w + j
   ·subst h3
    rw [List.getElem?_set_self (by omega), Nat.add_sub_cancel_left, List.getElem?_set_self (by omega)]
   ·rw [List.getElem?_set_ne (by omega), List.getElem?_set_ne (by omega)]
    obtain ⟨d, rfl⟩ : ∃ d, x = i * w + d := ⟨x - i * w, by omega⟩
    rw [Nat.add_sub_cancel_left, hfd d (by omega)]
  ·have hl2 : (L.take (i * w) ++ r.set j v).length = i * w + w := by rw [List.length_append, htl, List.length_set, hrl]
   rw [List.getElem?_set_ne (by omega), List.getElem?_append_right (by rw [hl2]; omega), hl2, List.getElem?_drop]
   congr 1
   omega
namespace Ar
theorem rows_ext {A A' : Ar} {z : List Value} {h : Nat} {s' : Option (List Value)} (hh : h < A.vals.length) (hv : A'.vals = A.vals.set h s')
  (hn : ∀ i, i ≠ h → i < A.vals.length → A.get i = none → nextOf A'.free i = nextOf A.free i) : A'.rows z = (A.rows z).set h (slotC z s' (nextOf A'.free h)) := by
 apply List.ext_getElem?
 intro i
 by_cases hi : i < A.vals.length
 ·rw [rows_get (by rw [hv]; simpa using hi)]
  by_cases e : i = h
  ·subst e
   rw [List.getElem?_set_self (by rw [rows_length]; exact hh)]
   have : A'.get i = s' := by unfold get; rw [hv, List.getElem?_set_self hh]; rfl
   rw [this]
  ·rw [List.getElem?_set_ne (Ne.symm e), rows_get hi]
   have : A'.get i = A.get i := by unfold get; rw [hv, List.getElem?_set_ne (Ne.symm e)]
   rw [this]
   cases hg : A.get i with
   | some v => rfl
   | none => rw [hn i e hi hg]
 ·rw [List.getElem?_eq_none (by rw [rows_length, hv]; simpa using hi), List.getElem?_eq_none (by rw [List.length_set, rows_length]; omega)]
theorem get_set {A : Ar} {h i : Nat} {s : Option (List Value)} (hh : h < A.vals.length) : ((A.vals.set h s)[i]?).join = if i = h then s else A.get i := by
 unfold get
 by_cases e : i = h
 ·subst e
  rw [List.getElem?_set_self hh, if_pos rfl]; rfl
 ·rw [List.getElem?_set_ne (Ne.symm e), if_neg e]
theorem get_mk {r : Nat} {vs : List (Option (List Value))} {f : List Nat} (i : Nat) : (Ar.mk r vs f).get i = (vs[i]?).join := rfl
theorem pos_of_get {A : Ar} {k h : Nat} {v : List Value} (ok : A.Ok k) (hg : A.get h = some v) : 1 ≤ h := by
 rcases Nat.eq_zero_or_pos h with h0 | h0
 ·subst h0
  unfold Ar.get at hg
  rw [ok.zero] at hg
  cases hg
 ·exact h0
theorem Ok.new {k n : Nat} (hn : n ≤ 4096) : (Ar.new n).Ok k where
 len := fun h v hv => by
  unfold Ar.new get at hv
  cases h <;> simp at hv
 zero := rfl
 nodup := List.nodup_nil
 mem := fun h => by
  simp only [Ar.new, List.not_mem_nil, List.length_cons, List.length_nil, false_iff]
  omega
 most := by simp [Ar.new, many]
 room := hn
 size := by simp [Ar.new]
theorem Ok.set {A : Ar} {k h : Nat} {u v : List Value} (ok : A.Ok k) (hg : A.get h = some u) (hv : v.length = k) : (A.set h v).Ok k := by
 have hl := get_some_lt hg
 have h1 := pos_of_get ok hg
 have hgs : ∀ i, (A.set h v).get i = if i = h then some v else A.get i := fun i => get_set hl
 refine ⟨fun i w hw => ?_, ?_, ok.nodup, fun i => ?_, ?_, ok.room, by simpa [Ar.set] using ok.size⟩
 ·rw [hgs] at hw
  split at hw
  ·rw [← Option.some.inj hw]; exact hv
  ·exact ok.len i w hw
 ·show (A.vals.set h (some v))[0]? = _
  rw [List.getElem?_set_ne (by omega)]; exact ok.zero
 ·show i ∈ A.free ↔ _
  rw [ok.mem, hgs]
  show _ ↔ 1 ≤ i ∧ i < (A.vals.set h (some v)).length ∧ _
  rw [List.length_set]
  by_cases e : i = h
  ·subst e; rw [if_pos rfl, hg]; simp
  ·rw [if_neg e]
 ·have := many_set A.vals h (some v) (some u) (by rw [get_eq hl, hg])
  have h2 := ok.most
  unfold many at h2
  show ((A.vals.set h (some v)).filter (·.isSome)).length ≤ A.room
  simp at this
  omega
theorem many_set' {A : Ar} {h : Nat} {u v : List Value} (hg : A.get h = some u) : (A.set h v).many = A.many := by
 have := many_set A.vals h (some v) (some u) (by rw [get_eq (get_some_lt hg), hg])
 simp at this
 exact this
theorem many_drop {A : Ar} {h : Nat} {u : List Value} (hg : A.get h = some u) : (A.drop h).many + 1 = A.many := by
 have := many_set A.vals h none (some u) (by rw [get_eq (get_some_lt hg), hg])
 simp at this
 exact this
theorem Ok.drop {A : Ar} {k h : Nat} {u : List Value} (ok : A.Ok k) (hg : A.get h = some u) : (A.drop h).Ok k := by
 have hl := get_some_lt hg
 have h1 := pos_of_get ok hg
 have hgs : ∀ i, (A.drop h).get i = if i = h then none else A.get i := fun i => get_set hl
 refine ⟨fun i w hw => ?_, ?_, ?_, fun i => ?_, ?_, ok.room, by simpa [Ar.drop] using ok.size⟩
 ·rw [hgs] at hw
  split at hw
  ·cases hw
  ·exact ok.len i w hw
 ·show (A.vals.set h none)[0]? = _
  rw [List.getElem?_set_ne (by omega)]; exact ok.zero
 ·show (h :: A.free).Nodup
  rw [List.nodup_cons, ok.mem, hg]
  exact ⟨by simp, ok.nodup⟩
 ·show i ∈ h :: A.free ↔ 1 ≤ i ∧ i < (A.vals.set h none).length ∧ _
  rw [List.mem_cons, ok.mem, hgs, List.length_set]
  by_cases e : i = h
  ·subst e; simp [h1, hl]
  ·simp [e]
 ·have := many_drop (A := A) hg
  have := ok.most
  show (A.drop h).many ≤ A.room
  omega
theorem many_putOld {A : Ar} {k h : Nat} {v : List Value} (ok : A.Ok k) (hf : h ∈ A.free) : (A.putOld h v).many = A.many + 1 := by
 obtain ⟨h1, hl, hg⟩ := (ok.mem h).1 hf
 have := many_set A.vals h (some v) none (by rw [get_eq hl, hg])
 simp at this
 exact this
theorem Ok.putOld {A : Ar} {k h : Nat} {fs : List Nat} {v : List Value} (ok : A.Ok k) (hf : A.free = h :: fs) (hm : A.many < A.room) (hv : v.length = k) : (A.putOld h v).Ok k := by
 obtain ⟨h1, hl, hg⟩ := (ok.mem h).1 (by rw [hf]; exact .head _)
 have hgs : ∀ i, (A.putOld h v).get i = if i = h then some v else A.get i := fun i => get_set hl
 have hnd := ok.nodup
 rw [hf, List.nodup_cons] at hnd
 refine ⟨fun i w hw => ?_, ?_, ?_, fun i => ?_, ?_, ok.room, by simpa [Ar.putOld] using ok.size⟩
 ·rw [hgs] at hw
  split at hw
  ·rw [← Option.some.inj hw]; exact hv
  ·exact ok.len i w hw
 ·show (A.vals.set h (some v))[0]? = _
  rw [List.getElem?_set_ne (by omega)]; exact ok.zero
 ·show (A.free.tail).Nodup
  rw [hf]; exact hnd.2
 ·show i ∈ A.free.tail ↔ 1 ≤ i ∧ i < (A.vals.set h (some v)).length ∧ _
  have := ok.mem i
  rw [hf, List.mem_cons] at this
  rw [hf, List.tail_cons, hgs, List.length_set]
  by_cases e : i = h
  ·subst e; simp [hnd.1]
  ·simp [e] at this ⊢; exact this
 ·rw [many_putOld ok (by rw [hf]; exact .head _)]
  exact hm
theorem many_putNew {A : Ar} {v : List Value} : (A.putNew v).many = A.many + 1 := by
 unfold many Ar.putNew
 simp only [many_append]
 rfl
theorem get_putNew {A : Ar} {v : List Value} (i : Nat) : (A.putNew v).get i = if i = A.vals.length then some v else A.get i := by
 show ((A.vals ++ [some v])[i]?).join = _
 by_cases e : i = A.vals.length
 ·subst e; simp
 ·rw [if_neg e]
  unfold get
  rcases Nat.lt_or_ge i A.vals.length with h | h
  ·rw [List.getElem?_append_left h]
  ·rw [List.getElem?_eq_none (by simp; omega), List.getElem?_eq_none h]
theorem Ok.putNew {A : Ar} {k : Nat} {v : List Value} (ok : A.Ok k) (hf : A.free = []) (hm : A.many < A.room) (hv : v.length = k) : (A.putNew v).Ok k := by
 have hpos : 0 < A.vals.length := by
  rcases Nat.eq_zero_or_pos A.vals.length with h | h
  ·have := ok.zero
   rw [List.getElem?_eq_none (by omega)] at this; cases this
  ·exact h
 have hcf := count_free A ok
 rw [hf, List.length_nil] at hcf
 refine ⟨fun i w hw => ?_, ?_, ok.nodup, fun i => ?_, ?_, ok.room, by show (A.vals ++ [some v]).length ≤ A.room + 1; simp; omega⟩
 ·rw [get_putNew] at hw
  split at hw
  ·rw [← Option.some.inj hw]; exact hv
  ·exact ok.len i w hw
 ·show (A.vals ++ [some v])[0]? = _
  rw [List.getElem?_append_left hpos]; exact ok.zero
 ·show i ∈ A.free ↔ 1 ≤ i ∧ i < (A.vals ++ [some v]).length ∧ _
  have := ok.mem i
  rw [hf] at this ⊢
  rw [get_putNew, List.length_append, List.length_singleton]
  simp only [List.not_mem_nil, false_iff] at this ⊢
  by_cases e : i = A.vals.length
  ·rw [if_pos e]; simp
  ·rw [if_neg e]
   rintro ⟨a, b, c⟩
   exact this ⟨a, by omega, c⟩
 ·rw [many_putNew]; exact hm
theorem rows_putNew {A : Ar} {z v : List Value} : (A.putNew v).rows z = A.rows z ++ [slotC z (some v) 0] := by
 unfold rows Ar.putNew
 simp [List.mapIdx_append, slotC]
end Ar
end Go.Hp
namespace Go.Hp
open Go
theorem rows3 {rows : List (List Value)} (hw : ∀ r ∈ rows, r.length = 3) {i : Nat} (hi : i < rows.length) (a b c : Value) (rest : List Value) :
  (((rows.flatten ++ rest).set (i * 3) a).set (i * 3 + 1) b).set (i * 3 + 2) c = (rows.set i [a, b, c]).flatten ++ rest := by
 have hr : rows[i]? = some rows[i] := List.getElem?_eq_getElem hi
 have hl := hw _ (List.getElem_mem hi)
 have s0 := row_set hw hr (show 0 < 3 by omega) a rest
 rw [Nat.add_zero] at s0
 have hw1 : ∀ r ∈ rows.set i (rows[i].set 0 a), r.length = 3 := fun r hr => by
  rcases List.mem_or_eq_of_mem_set hr with h | h
  ·exact hw r h
  ·rw [h, List.length_set, hl]
 have s1 := row_set hw1 (i := i) (j := 1) (r := rows[i].set 0 a) (by simp [hi]) (by omega) b rest
 have hw2 : ∀ r ∈ (rows.set i (rows[i].set 0 a)).set i ((rows[i].set 0 a).set 1 b), r.length = 3 := fun r hr => by
  rcases List.mem_or_eq_of_mem_set hr with h | h
  ·exact hw1 r h
  ·rw [h]; simp [hl]
 have s2 := row_set hw2 (i := i) (j := 2) (r := (rows[i].set 0 a).set 1 b) (by simp [hi]) (by omega) c rest
 rw [s0, s1, s2]
 simp only [List.set_set]
 have e : ((rows[i].set 0 a).set 1 b).set 2 c = [a, b, c] := by
  match rows[i], hl with
  | [_, _, _], _ => rfl
 rw [e]
theorem rows4 {rows : List (List Value)} (hw : ∀ r ∈ rows, r.length = 4) {i : Nat} (hi : i < rows.length) (a b c d : Value) (rest : List Value) :
  ((((rows.flatten ++ rest).set (i * 4) a).set (i * 4 + 1) b).set (i * 4 + 2) c).set (i * 4 + 3) d = (rows.set i [a, b, c, d]).flatten ++ rest := by
 have hr : rows[i]? = some rows[i] := List.getElem?_eq_getElem hi
 have hl := hw _ (List.getElem_mem hi)
 have s0 := row_set hw hr (show 0 < 4 by omega) a rest
 rw [Nat.add_zero] at s0
 have hw1 : ∀ r ∈ rows.set i (rows[i].set 0 a), r.length = 4 := fun r hr => by
  rcases List.mem_or_eq_of_mem_set hr with h | h
  ·exact hw r h
  ·rw [h, List.length_set, hl]
 have s1 := row_set hw1 (i := i) (j := 1) (r := rows[i].set 0 a) (by simp [hi]) (by omega) b rest
 have hw2 : ∀ r ∈ (rows.set i (rows[i].set 0 a)).set i ((rows[i].set 0 a).set 1 b), r.length = 4 := fun r hr => by
  rcases List.mem_or_eq_of_mem_set hr with h | h
  ·exact hw1 r h
  ·rw [h]; simp [hl]
 have s2 := row_set hw2 (i := i) (j := 2) (r := (rows[i].set 0 a).set 1 b) (by simp [hi]) (by omega) c rest
 have hw3 : ∀ r ∈ ((rows.set i (rows[i].set 0 a)).set i ((rows[i].set 0 a).set 1 b)).set i (((rows[i].set 0 a).set 1 b).set 2 c), r.length = 4 := fun r hr => by
  rcases List.mem_or_eq_of_mem_set hr with h | h
  ·exact hw2 r h
  ·rw [h]; simp [hl]
 have s3 := row_set hw3 (i := i) (j := 3) (r := ((rows[i].set 0 a).set 1 b).set 2 c) (by simp [hi]) (by omega) d rest
 rw [s0, s1, s2, s3]
 simp only [List.set_set]
 have e : (((rows[i].set 0 a).set 1 b).set 2 c).set 3 d = [a, b, c, d] := by
  match rows[i], hl with
  | [_, _, _, _], _ => rfl
 rw [e]
theorem rows_set {A : Ar} {z : List Value} {h : Nat} (v : List Value) (hh : h < A.vals.length) : (A.set h v).rows z = (A.rows z).set h (v ++ [.bool true, .int .i64 0]) :=
 Ar.rows_ext (A' := A.set h v) (s' := some v) hh rfl fun _ _ _ _ => rfl
theorem rows_drop {A : Ar} {z : List Value} {h : Nat} (hh : h < A.vals.length) : (A.drop h).rows z = (A.rows z).set h (z ++ [.bool false, .int .i64 (A.free.headD 0 : Nat)]) := by
 rw [Ar.rows_ext (A' := A.drop h) (s' := none) hh rfl fun i hi _ _ => by simp [Ar.drop, nextOf, Ne.symm hi]]
 simp [slotC, Ar.drop, nextOf]
theorem rows_putOld {A : Ar} {k : Nat} {z : List Value} {h : Nat} {fs : List Nat} (v : List Value) (ok : A.Ok k) (hf : A.free = h :: fs) : (A.putOld h v).rows z = (A.rows z).set h (v ++ [.bool true, .int .i64 0]) :=
 Ar.rows_ext (A' := A.putOld h v) (s' := some v) ((ok.mem h).1 (by rw [hf]; exact .head _)).2.1 rfl fun i hi _ _ => by simp [Ar.putOld, hf, nextOf, Ne.symm hi]
theorem off_lt {A : Ar} {z : List Value} {k h j : Nat} (hz : z.length = k) (ok : A.Ok k) (hh : h < A.vals.length) (hj : j < k + 2) (rest : List Value) : h * (k + 2) + j < ((A.rows z).flatten ++ rest).length := by
 have hfl := flat_length (Ar.rows_w hz ok)
 rw [Ar.rows_length] at hfl
 have : (h + 1) * (k + 2) ≤ A.vals.length * (k + 2) := Nat.mul_le_mul_right _ hh
 rw [Nat.succ_mul] at this
 rw [List.length_append, hfl]
 omega
end Go.Hp
namespace Go.Sp
open Go Go.Hp
set_option linter.unusedVariables false

def w64 (x : Int) : Int := IntKind.i64.wrap x
def or64 (a b : Int) : Int := bitOr .i64 a b
structure Item where
  value : Int
  counts : Bool
  flags : Int
  deriving DecidableEq
structure Agg where
  count : Int
  sum : Int
  least : Int
  most : Int
  flags : Int
  deriving DecidableEq
def Item.cells (x : Item) : List Value := [.int .i64 x.value, .bool x.counts, .int .i64 x.flags]
def Item.val (x : Item) : Value := .agg #[.int .i64 x.value, .bool x.counts, .int .i64 x.flags]
def Agg.val (a : Agg) : Value := .agg #[.int .i64 a.count, .int .i64 a.sum, .int .i64 a.least, .int .i64 a.most, .int .i64 a.flags]
def Agg.zero : Agg := ⟨0, 0, 0, 0, 0⟩
def Item.zero : Item := ⟨0, false, 0⟩
def minI (a b : Int) : Int := if b < a then b else a
def maxI (a b : Int) : Int := if b > a then b else a
def plusA (a b : Agg) : Agg where
  count := w64 (a.count + b.count)
  sum := w64 (a.sum + b.sum)
  least := if a.count = 0 then b.least else if b.count = 0 then a.least else minI a.least b.least
  most := if a.count = 0 then b.most else if b.count = 0 then a.most else maxI a.most b.most
  flags := or64 a.flags b.flags
def ownA (x : Item) : Agg := if x.counts then ⟨1, x.value, x.value, x.value, x.flags⟩ else ⟨0, 0, 0, 0, x.flags⟩
structure Rec where
  item : Item
  up : Nat
  l : Nat
  r : Nat
  many : Int
  total : Agg
def Rec.cells (r : Rec) : List Value :=
  [.int .i64 r.item.value, .bool r.item.counts, .int .i64 r.item.flags, .int .i64 r.up, .int .i64 r.l, .int .i64 r.r, .int .i64 r.many,
    .int .i64 r.total.count, .int .i64 r.total.sum, .int .i64 r.total.least, .int .i64 r.total.most, .int .i64 r.total.flags]
def Rec.kid (r : Rec) (s : Nat) : Nat := if s = 0 then r.l else r.r
def Rec.setKid (r : Rec) (s x : Nat) : Rec := if s = 0 then { r with l := x } else { r with r := x }
abbrev Nodes := Nat → Rec
def upd (N : Nodes) (h : Nat) (r : Rec) : Nodes := fun i => if i = h then r else N i
theorem upd_same (N : Nodes) (h : Nat) (r : Rec) : upd N h r h = r := if_pos rfl
theorem upd_ne (N : Nodes) {h i : Nat} (r : Rec) (hi : i ≠ h) : upd N h r i = N i := if_neg hi
def belowN (N : Nodes) (k : Nat) : Int × Agg := if k = 0 then (0, Agg.zero) else ((N k).many, (N k).total)
def pullR (N : Nodes) (h : Nat) : Rec :=
  { N h with many := w64 (w64 ((belowN N (N h).l).1 + 1) + (belowN N (N h).r).1), total := plusA (plusA (belowN N (N h).l).2 (ownA (N h).item)) (belowN N (N h).r).2 }
def pullN (N : Nodes) (h : Nat) : Nodes := upd N h (pullR N h)
def hangN (N : Nodes) (up s h : Nat) : Nodes :=
  if h = 0 then upd N up ((N up).setKid s h) else upd (upd N up ((N up).setKid s h)) h { upd N up ((N up).setKid s h) h with up := up }
def sideN (N : Nodes) (up h : Nat) : Nat := if (N up).r = h then 1 else 0
def turn2 (N1 : Nodes) (top up h : Nat) : Nodes := if top = 0 then N1 else upd N1 top ((N1 top).setKid (sideN N1 top up) h)
def setUp (N : Nodes) (h top : Nat) : Nodes := upd N h { N h with up := top }
def turnN (N : Nodes) (h : Nat) : Nodes :=
  pullN (pullN (hangN (setUp (turn2 (hangN N (N h).up (sideN N (N h).up h) ((N h).kid (1 - sideN N (N h).up h))) (N (N h).up).up (N h).up h) h (N (N h).up).up) h (1 - sideN N (N h).up h) (N h).up) (N h).up) h
def stepN (N : Nodes) (h : Nat) : Nodes :=
  if (N (N h).up).up = 0 then turnN N h
  else if sideN N (N (N h).up).up (N h).up = sideN N (N h).up h then turnN (turnN N (N h).up) h
  else turnN (turnN N h) h
def first (N : Nodes) (k : Nat) : Nodes := if sideN N (N (N k).up).up (N k).up = sideN N (N k).up k then turnN N (N k).up else turnN N k
def stepOk (N : Nodes) (k : Nat) : Prop := (N k).up ≠ 0 ∧ ((N (N k).up).up ≠ 0 → (first N k k).up ≠ 0)
structure Cl (U : Nat → Prop) (N : Nodes) : Prop where
  up : ∀ h, U h → (N h).up = 0 ∨ U (N h).up
  l : ∀ h, U h → (N h).l = 0 ∨ U (N h).l
  r : ∀ h, U h → (N h).r = 0 ∨ U (N h).r
theorem Cl.upd {U : Nat → Prop} {N : Nodes} (h : Cl U N) {i : Nat} {r : Rec} (h1 : r.up = 0 ∨ U r.up) (h2 : r.l = 0 ∨ U r.l) (h3 : r.r = 0 ∨ U r.r) : Cl U (upd N i r) where
  up := fun k hk => by unfold Sp.upd; by_cases e : k = i <;> simp only [e, if_true, if_false]; · exact h1
                       exact h.up k hk
  l := fun k hk => by unfold Sp.upd; by_cases e : k = i <;> simp only [e, if_true, if_false]; · exact h2
                      exact h.l k hk
  r := fun k hk => by unfold Sp.upd; by_cases e : k = i <;> simp only [e, if_true, if_false]; · exact h3
                      exact h.r k hk
theorem Cl.kid {U : Nat → Prop} {N : Nodes} (h : Cl U N) {k s : Nat} (hk : U k) : (N k).kid s = 0 ∨ U ((N k).kid s) := by
  unfold Rec.kid
  split
  · exact h.l k hk
  · exact h.r k hk
theorem Cl.pull {U : Nat → Prop} {N : Nodes} (h : Cl U N) {k : Nat} (hk : U k) : Cl U (pullN N k) := h.upd (h.up k hk) (h.l k hk) (h.r k hk)
theorem Cl.setKid {U : Nat → Prop} {N : Nodes} (h : Cl U N) {k s x : Nat} (hk : U k) (hx : x = 0 ∨ U x) : Cl U (Sp.upd N k ((N k).setKid s x)) := by
  unfold Rec.setKid
  split
  · exact h.upd (h.up k hk) hx (h.r k hk)
  · exact h.upd (h.up k hk) (h.l k hk) hx
theorem Cl.setUp {U : Nat → Prop} {N : Nodes} (h : Cl U N) {k x : Nat} (hk : U k) (hx : x = 0 ∨ U x) : Cl U (setUp N k x) := h.upd hx (h.l k hk) (h.r k hk)
theorem Cl.hang {U : Nat → Prop} {N : Nodes} (h : Cl U N) {k s x : Nat} (hk : U k) (hx : x = 0 ∨ U x) : Cl U (hangN N k s x) := by
  unfold hangN
  split
  · exact h.setKid hk hx
  · rename_i h0
    have hU := hx.resolve_left h0
    have h' := h.setKid (s := s) hk hx
    exact h'.upd (.inr hk) (h'.l x hU) (h'.r x hU)
theorem Cl.turn2 {U : Nat → Prop} {N : Nodes} (h : Cl U N) {top up k : Nat} (ht : top = 0 ∨ U top) (hk : U k) : Cl U (turn2 N top up k) := by
  unfold Sp.turn2
  split
  · exact h
  · rename_i h0
    exact h.setKid (ht.resolve_left h0) (.inr hk)
theorem Cl.turn {U : Nat → Prop} {N : Nodes} (h : Cl U N) {k : Nat} (hk : U k) (hu : U (N k).up) : Cl U (turnN N k) := by
  unfold turnN
  refine Cl.pull (Cl.pull (Cl.hang (Cl.setUp (Cl.turn2 (h.hang hu (h.kid hk)) (h.up _ hu) hk) hk (h.up _ hu)) hk (.inr hu)) hu) hk
end Go.Sp
namespace Go.Proofs.Ytnlafhnbakipmaa
open Go Go.Hp Go.Sp
set_option linter.all false
set_option maxRecDepth 100000

theorem plus_ok {H : Heap} {a b : Agg} {K : Value → Heap → Prop} (hk : ∀ H', Fr (fun _ => False) H H' → K (plusA a b).val H') : CallsH Try.prog 92 #[a.val, b.val] H K := by
 refine call92 (by simp) ?_
 simp only [Try.f92, Option.getD_some]
 repeat' (first|(with_reducible first|refine jA ?_|(refine hK _ _ ?_;clear hK K)|refine jJ fun K hK=>?_|refine jK ?_|refine jL ?_|refine jM ?_|refine jN ?_|refine jO ?_|refine jP ?_|refine jQ ?_|(refine jB ?_;clear hK K)|(refine jC ?_;clear hK K)|refine jD ?_|refine jE ?_|refine jG ?_|refine jH ?_|refine jI ?_)|((with_reducible refine jR ?hq ?_);case hq=>rfl)|((first|(with_reducible first|refine jS fun K hK=>?_|refine jT ?_|refine jU ?_)|((with_reducible refine jV ?hy fun K hK=>?_);case hy=>rfl));simp only [go_sem, Nat.reduceEqDiff, Nat.reduceAdd, Nat.reduceMul, Nat.reduceLeDiff, Nat.reduceLT, Int.reduceLT, Int.reduceLE, Int.reduceEq, Int.reduceNeg, Int.reduceToNat, Nat.reducePow, reduceIte, reduceCtorEq, Agg.val, hcell_push, hcell_top, okW_push, okW_top, hcell_hset_ne, hcell_hset_off, hcell_hset_eq, okW_hset, hset_size, Array.size_push, Nat.lt_add_one, ne_add_one, add_one_ne, Nat.add_assoc, add_same, add_lt_same, Nat.reduceEqDiff, lt_add_k, add_k_ne, ne_add_k])|((with_reducible first|refine jW ?hy ?_|refine jY ?hy ?_);case hy=>rfl)|((with_reducible first|refine jX ?hy ?_|refine jZ ?hy ?_);case hy=>rfl)|((with_reducible refine jF ?hy ?_);case hy=>decide))
 by_cases h1 : a.count = 0
 ·have t1 : (a.count == 0) = true := by simp [h1]
  refine x_cond_true (show _ = Value.bool true by rw [← t1]; rfl) ?_
  refine x_drawS [] [0, 1, 2, 3, 4, 5, 6, 7] rfl (by kernel_rfl) (Cells [(H.size + 1, 2, .int .i64 b.least), (H.size + 1, 3, .int .i64 b.most)]) (by simp only [go_sem, Nat.reduceEqDiff, Nat.reduceAdd, Nat.reduceMul, Nat.reduceLeDiff, Nat.reduceLT, Int.reduceLT, Int.reduceLE, Int.reduceEq, Int.reduceNeg, Int.reduceToNat, Nat.reducePow, reduceIte, reduceCtorEq, Cells, and_true, hcell_push, hcell_top, okW_push, okW_top, hcell_hset_ne, hcell_hset_off, hcell_hset_eq, okW_hset, hset_size, Array.size_push, Nat.lt_add_one, ne_add_one, add_one_ne, Nat.add_assoc, add_same, add_lt_same, Nat.reduceEqDiff, lt_add_k, add_k_ne, ne_add_k]) ?_
  repeat' (first|(with_reducible refine xs_nil ?_)|((first|((with_reducible apply xs_rd);case hi=>rfl)|((with_reducible apply xs_guard_yes);(case hi=>rfl);(case hy=>rfl)));(case hr=>rfl);(case h1=>intro H' hS'; (try simp only [Cells, and_true] at hS');simp only [go_sem, Nat.reduceEqDiff, Nat.reduceAdd, Nat.reduceMul, Nat.reduceLeDiff, Nat.reduceLT, Int.reduceLT, Int.reduceLE, Int.reduceEq, Int.reduceNeg, Int.reduceToNat, Nat.reducePow, reduceIte, reduceCtorEq, hcell_push, hcell_top, okW_push, okW_top, hcell_hset_ne, hcell_hset_off, hcell_hset_eq, okW_hset, hset_size, Array.size_push, Nat.lt_add_one, ne_add_one, add_one_ne, Nat.add_assoc, add_same, add_lt_same, Nat.reduceEqDiff, lt_add_k, add_k_ne, ne_add_k, hS']; rfl))|((with_reducible refine xs_tail ?hz ?_);case hz=>rfl)|((with_reducible refine xs_keep ?hz ?_);case hz=>first|(with_reducible assumption)|assumption|(simp only [go_sem, Nat.reduceEqDiff, Nat.reduceAdd, Nat.reduceMul, Nat.reduceLeDiff, Nat.reduceLT, Int.reduceLT, Int.reduceLE, Int.reduceEq, Int.reduceNeg, Int.reduceToNat, Nat.reducePow, reduceIte, reduceCtorEq, Cells, and_true, hcell_push, hcell_top, okW_push, okW_top, hcell_hset_ne, hcell_hset_off, hcell_hset_eq, okW_hset, hset_size, Array.size_push, Nat.lt_add_one, ne_add_one, add_one_ne, Nat.add_assoc, add_same, add_lt_same, Nat.reduceEqDiff, lt_add_k, add_k_ne, ne_add_k]))|((with_reducible apply xs_guard_no);(case hi=>rfl);(case hy=>rfl);(case hS=>assumption))|((first|((with_reducible apply xs_op);(case hi=>rfl))|((with_reducible apply xs_op_yes);(case hi=>rfl);(case hy=>rfl)));(case hr=>rfl);intro K hK; simp only [go_sem, Nat.reduceEqDiff, Nat.reduceAdd, Nat.reduceMul, Nat.reduceLeDiff, Nat.reduceLT, Int.reduceLT, Int.reduceLE, Int.reduceEq, Int.reduceNeg, Int.reduceToNat, Nat.reducePow, reduceIte, reduceCtorEq, hcell_push, hcell_top, okW_push, okW_top, hcell_hset_ne, hcell_hset_off, hcell_hset_eq, okW_hset, hset_size, Array.size_push, Nat.lt_add_one, ne_add_one, add_one_ne, Nat.add_assoc, add_same, add_lt_same, Nat.reduceEqDiff, lt_add_k, add_k_ne, ne_add_k])|(with_reducible first|refine jA ?_|(refine hK _ _ ?_;clear hK K)|refine jJ fun K hK=>?_|refine jK ?_|refine jL ?_|refine jM ?_|refine jN ?_|refine jO ?_|refine jP ?_|refine jQ ?_|(refine jB ?_;clear hK K)|(refine jC ?_;clear hK K)|refine jD ?_|refine jE ?_|refine jG ?_|refine jH ?_|refine jI ?_)|((with_reducible refine jR ?hq ?_);case hq=>rfl)|((first|(with_reducible first|refine jS fun K hK=>?_|refine jT ?_|refine jU ?_)|((with_reducible refine jV ?hy fun K hK=>?_);case hy=>rfl));simp only [go_sem, Nat.reduceEqDiff, Nat.reduceAdd, Nat.reduceMul, Nat.reduceLeDiff, Nat.reduceLT, Int.reduceLT, Int.reduceLE, Int.reduceEq, Int.reduceNeg, Int.reduceToNat, Nat.reducePow, reduceIte, reduceCtorEq, hcell_push, hcell_top, okW_push, okW_top, hcell_hset_ne, hcell_hset_off, hcell_hset_eq, okW_hset, hset_size, Array.size_push, Nat.lt_add_one, ne_add_one, add_one_ne, Nat.add_assoc, add_same, add_lt_same, Nat.reduceEqDiff, lt_add_k, add_k_ne, ne_add_k])|((with_reducible first|refine jW ?hy ?_|refine jY ?hy ?_);case hy=>rfl)|((with_reducible first|refine jX ?hy ?_|refine jZ ?hy ?_);case hy=>rfl)|((with_reducible refine jF ?hy ?_);case hy=>decide))
  have e : (plusA a b).val = .agg #[.int .i64 (IntKind.i64.wrap (a.count + b.count)), .int .i64 (IntKind.i64.wrap (a.sum + b.sum)), .int .i64 b.least, .int .i64 b.most, .int .i64 (or64 a.flags b.flags)] := by
   unfold plusA Agg.val; simp only [h1, if_true]; rfl
  rw [e] at hk
  exact hk _ (by ((repeat (first | refine Fr.set ?_ (by simp) _ | refine Fr.push ?_ _)); exact Fr.refl _ _))
 ·have t1 : (a.count == 0) = false := by simp [h1]
  refine x_cond_false (show _ = Value.bool false by rw [← t1]; rfl) ?_
  by_cases h2 : b.count = 0
  ·have t2 : (b.count == 0) = true := by simp [h2]
   repeat' (first|(with_reducible first|refine jA ?_|(refine hK _ _ ?_;clear hK K)|refine jJ fun K hK=>?_|refine jK ?_|refine jL ?_|refine jM ?_|refine jN ?_|refine jO ?_|refine jP ?_|refine jQ ?_|(refine jB ?_;clear hK K)|(refine jC ?_;clear hK K)|refine jD ?_|refine jE ?_|refine jG ?_|refine jH ?_|refine jI ?_)|((with_reducible refine jR ?hq ?_);case hq=>rfl)|((first|(with_reducible first|refine jS fun K hK=>?_|refine jT ?_|refine jU ?_)|((with_reducible refine jV ?hy fun K hK=>?_);case hy=>rfl));simp only [go_sem, Nat.reduceEqDiff, Nat.reduceAdd, Nat.reduceMul, Nat.reduceLeDiff, Nat.reduceLT, Int.reduceLT, Int.reduceLE, Int.reduceEq, Int.reduceNeg, Int.reduceToNat, Nat.reducePow, reduceIte, reduceCtorEq, t2, hcell_push, hcell_top, okW_push, okW_top, hcell_hset_ne, hcell_hset_off, hcell_hset_eq, okW_hset, hset_size, Array.size_push, Nat.lt_add_one, ne_add_one, add_one_ne, Nat.add_assoc, add_same, add_lt_same, Nat.reduceEqDiff, lt_add_k, add_k_ne, ne_add_k])|((with_reducible first|refine jW ?hy ?_|refine jY ?hy ?_);case hy=>rfl)|((with_reducible first|refine jX ?hy ?_|refine jZ ?hy ?_);case hy=>rfl)|((with_reducible refine jF ?hy ?_);case hy=>decide))
   refine x_drawS [] [0, 1, 2, 3, 4, 5, 6, 7] rfl (by kernel_rfl) (Cells [(H.size, 2, .int .i64 a.least), (H.size, 3, .int .i64 a.most)]) (by simp only [go_sem, Nat.reduceEqDiff, Nat.reduceAdd, Nat.reduceMul, Nat.reduceLeDiff, Nat.reduceLT, Int.reduceLT, Int.reduceLE, Int.reduceEq, Int.reduceNeg, Int.reduceToNat, Nat.reducePow, reduceIte, reduceCtorEq, Cells, and_true, hcell_push, hcell_top, okW_push, okW_top, hcell_hset_ne, hcell_hset_off, hcell_hset_eq, okW_hset, hset_size, Array.size_push, Nat.lt_add_one, ne_add_one, add_one_ne, Nat.add_assoc, add_same, add_lt_same, Nat.reduceEqDiff, lt_add_k, add_k_ne, ne_add_k]) ?_
   repeat' (first|(with_reducible refine xs_nil ?_)|((first|((with_reducible apply xs_rd);case hi=>rfl)|((with_reducible apply xs_guard_yes);(case hi=>rfl);(case hy=>rfl)));(case hr=>rfl);(case h1=>intro H' hS'; (try simp only [Cells, and_true] at hS');simp only [go_sem, Nat.reduceEqDiff, Nat.reduceAdd, Nat.reduceMul, Nat.reduceLeDiff, Nat.reduceLT, Int.reduceLT, Int.reduceLE, Int.reduceEq, Int.reduceNeg, Int.reduceToNat, Nat.reducePow, reduceIte, reduceCtorEq, hcell_push, hcell_top, okW_push, okW_top, hcell_hset_ne, hcell_hset_off, hcell_hset_eq, okW_hset, hset_size, Array.size_push, Nat.lt_add_one, ne_add_one, add_one_ne, Nat.add_assoc, add_same, add_lt_same, Nat.reduceEqDiff, lt_add_k, add_k_ne, ne_add_k, hS']; rfl))|((with_reducible refine xs_tail ?hz ?_);case hz=>rfl)|((with_reducible refine xs_keep ?hz ?_);case hz=>first|(with_reducible assumption)|assumption|(simp only [go_sem, Nat.reduceEqDiff, Nat.reduceAdd, Nat.reduceMul, Nat.reduceLeDiff, Nat.reduceLT, Int.reduceLT, Int.reduceLE, Int.reduceEq, Int.reduceNeg, Int.reduceToNat, Nat.reducePow, reduceIte, reduceCtorEq, Cells, and_true, hcell_push, hcell_top, okW_push, okW_top, hcell_hset_ne, hcell_hset_off, hcell_hset_eq, okW_hset, hset_size, Array.size_push, Nat.lt_add_one, ne_add_one, add_one_ne, Nat.add_assoc, add_same, add_lt_same, Nat.reduceEqDiff, lt_add_k, add_k_ne, ne_add_k]))|((with_reducible apply xs_guard_no);(case hi=>rfl);(case hy=>rfl);(case hS=>assumption))|((first|((with_reducible apply xs_op);(case hi=>rfl))|((with_reducible apply xs_op_yes);(case hi=>rfl);(case hy=>rfl)));(case hr=>rfl);intro K hK; simp only [go_sem, Nat.reduceEqDiff, Nat.reduceAdd, Nat.reduceMul, Nat.reduceLeDiff, Nat.reduceLT, Int.reduceLT, Int.reduceLE, Int.reduceEq, Int.reduceNeg, Int.reduceToNat, Nat.reducePow, reduceIte, reduceCtorEq, hcell_push, hcell_top, okW_push, okW_top, hcell_hset_ne, hcell_hset_off, hcell_hset_eq, okW_hset, hset_size, Array.size_push, Nat.lt_add_one, ne_add_one, add_one_ne, Nat.add_assoc, add_same, add_lt_same, Nat.reduceEqDiff, lt_add_k, add_k_ne, ne_add_k])|(with_reducible first|refine jA ?_|(refine hK _ _ ?_;clear hK K)|refine jJ fun K hK=>?_|refine jK ?_|refine jL ?_|refine jM ?_|refine jN ?_|refine jO ?_|refine jP ?_|refine jQ ?_|(refine jB ?_;clear hK K)|(refine jC ?_;clear hK K)|refine jD ?_|refine jE ?_|refine jG ?_|refine jH ?_|refine jI ?_)|((with_reducible refine jR ?hq ?_);case hq=>rfl)|((first|(with_reducible first|refine jS fun K hK=>?_|refine jT ?_|refine jU ?_)|((with_reducible refine jV ?hy fun K hK=>?_);case hy=>rfl));simp only [go_sem, Nat.reduceEqDiff, Nat.reduceAdd, Nat.reduceMul, Nat.reduceLeDiff, Nat.reduceLT, Int.reduceLT, Int.reduceLE, Int.reduceEq, Int.reduceNeg, Int.reduceToNat, Nat.reducePow, reduceIte, reduceCtorEq, hcell_push, hcell_top, okW_push, okW_top, hcell_hset_ne, hcell_hset_off, hcell_hset_eq, okW_hset, hset_size, Array.size_push, Nat.lt_add_one, ne_add_one, add_one_ne, Nat.add_assoc, add_same, add_lt_same, Nat.reduceEqDiff, lt_add_k, add_k_ne, ne_add_k])|((with_reducible first|refine jW ?hy ?_|refine jY ?hy ?_);case hy=>rfl)|((with_reducible first|refine jX ?hy ?_|refine jZ ?hy ?_);case hy=>rfl)|((with_reducible refine jF ?hy ?_);case hy=>decide))
   have e : (plusA a b).val = .agg #[.int .i64 (IntKind.i64.wrap (a.count + b.count)), .int .i64 (IntKind.i64.wrap (a.sum + b.sum)), .int .i64 a.least, .int .i64 a.most, .int .i64 (or64 a.flags b.flags)] := by
    unfold plusA Agg.val; simp only [h1, h2, if_true, if_false]; rfl
   rw [e] at hk
   exact hk _ (by ((repeat (first | refine Fr.set ?_ (by simp) _ | refine Fr.push ?_ _)); exact Fr.refl _ _))
  ·have t2 : (b.count == 0) = false := by simp [h2]
   repeat' (first|(with_reducible first|refine jA ?_|(refine hK _ _ ?_;clear hK K)|refine jJ fun K hK=>?_|refine jK ?_|refine jL ?_|refine jM ?_|refine jN ?_|refine jO ?_|refine jP ?_|refine jQ ?_|(refine jB ?_;clear hK K)|(refine jC ?_;clear hK K)|refine jD ?_|refine jE ?_|refine jG ?_|refine jH ?_|refine jI ?_)|((with_reducible refine jR ?hq ?_);case hq=>rfl)|((first|(with_reducible first|refine jS fun K hK=>?_|refine jT ?_|refine jU ?_)|((with_reducible refine jV ?hy fun K hK=>?_);case hy=>rfl));simp only [go_sem, Nat.reduceEqDiff, Nat.reduceAdd, Nat.reduceMul, Nat.reduceLeDiff, Nat.reduceLT, Int.reduceLT, Int.reduceLE, Int.reduceEq, Int.reduceNeg, Int.reduceToNat, Nat.reducePow, reduceIte, reduceCtorEq, t2, hcell_push, hcell_top, okW_push, okW_top, hcell_hset_ne, hcell_hset_off, hcell_hset_eq, okW_hset, hset_size, Array.size_push, Nat.lt_add_one, ne_add_one, add_one_ne, Nat.add_assoc, add_same, add_lt_same, Nat.reduceEqDiff, lt_add_k, add_k_ne, ne_add_k])|((with_reducible first|refine jW ?hy ?_|refine jY ?hy ?_);case hy=>rfl)|((with_reducible first|refine jX ?hy ?_|refine jZ ?hy ?_);case hy=>rfl)|((with_reducible refine jF ?hy ?_);case hy=>decide))
   refine x_drawS [] [0, 1, 2, 3, 4, 5, 6, 7, 8, 9, 10, 11, 12, 13] rfl (by kernel_rfl) (Cells [(H.size, 2, .int .i64 a.least), (H.size, 3, .int .i64 a.most), (H.size + 1, 2, .int .i64 b.least), (H.size + 1, 3, .int .i64 b.most)]) (by simp only [go_sem, Nat.reduceEqDiff, Nat.reduceAdd, Nat.reduceMul, Nat.reduceLeDiff, Nat.reduceLT, Int.reduceLT, Int.reduceLE, Int.reduceEq, Int.reduceNeg, Int.reduceToNat, Nat.reducePow, reduceIte, reduceCtorEq, Cells, and_true, hcell_push, hcell_top, okW_push, okW_top, hcell_hset_ne, hcell_hset_off, hcell_hset_eq, okW_hset, hset_size, Array.size_push, Nat.lt_add_one, ne_add_one, add_one_ne, Nat.add_assoc, add_same, add_lt_same, Nat.reduceEqDiff, lt_add_k, add_k_ne, ne_add_k]) ?_
   repeat' (first|(with_reducible refine xs_nil ?_)|((first|((with_reducible apply xs_rd);case hi=>rfl)|((with_reducible apply xs_guard_yes);(case hi=>rfl);(case hy=>rfl)));(case hr=>rfl);(case h1=>intro H' hS'; (try simp only [Cells, and_true] at hS');simp only [go_sem, Nat.reduceEqDiff, Nat.reduceAdd, Nat.reduceMul, Nat.reduceLeDiff, Nat.reduceLT, Int.reduceLT, Int.reduceLE, Int.reduceEq, Int.reduceNeg, Int.reduceToNat, Nat.reducePow, reduceIte, reduceCtorEq, hcell_push, hcell_top, okW_push, okW_top, hcell_hset_ne, hcell_hset_off, hcell_hset_eq, okW_hset, hset_size, Array.size_push, Nat.lt_add_one, ne_add_one, add_one_ne, Nat.add_assoc, add_same, add_lt_same, Nat.reduceEqDiff, lt_add_k, add_k_ne, ne_add_k, hS']; rfl))|((with_reducible refine xs_tail ?hz ?_);case hz=>rfl)|((with_reducible refine xs_keep ?hz ?_);case hz=>first|(with_reducible assumption)|assumption|(simp only [go_sem, Nat.reduceEqDiff, Nat.reduceAdd, Nat.reduceMul, Nat.reduceLeDiff, Nat.reduceLT, Int.reduceLT, Int.reduceLE, Int.reduceEq, Int.reduceNeg, Int.reduceToNat, Nat.reducePow, reduceIte, reduceCtorEq, Cells, and_true, hcell_push, hcell_top, okW_push, okW_top, hcell_hset_ne, hcell_hset_off, hcell_hset_eq, okW_hset, hset_size, Array.size_push, Nat.lt_add_one, ne_add_one, add_one_ne, Nat.add_assoc, add_same, add_lt_same, Nat.reduceEqDiff, lt_add_k, add_k_ne, ne_add_k]))|((with_reducible apply xs_guard_no);(case hi=>rfl);(case hy=>rfl);(case hS=>assumption))|((first|((with_reducible apply xs_op);(case hi=>rfl))|((with_reducible apply xs_op_yes);(case hi=>rfl);(case hy=>rfl)));(case hr=>rfl);intro K hK; simp only [go_sem, Nat.reduceEqDiff, Nat.reduceAdd, Nat.reduceMul, Nat.reduceLeDiff, Nat.reduceLT, Int.reduceLT, Int.reduceLE, Int.reduceEq, Int.reduceNeg, Int.reduceToNat, Nat.reducePow, reduceIte, reduceCtorEq, hcell_push, hcell_top, okW_push, okW_top, hcell_hset_ne, hcell_hset_off, hcell_hset_eq, okW_hset, hset_size, Array.size_push, Nat.lt_add_one, ne_add_one, add_one_ne, Nat.add_assoc, add_same, add_lt_same, Nat.reduceEqDiff, lt_add_k, add_k_ne, ne_add_k])|(with_reducible first|refine jA ?_|(refine hK _ _ ?_;clear hK K)|refine jJ fun K hK=>?_|refine jK ?_|refine jL ?_|refine jM ?_|refine jN ?_|refine jO ?_|refine jP ?_|refine jQ ?_|(refine jB ?_;clear hK K)|(refine jC ?_;clear hK K)|refine jD ?_|refine jE ?_|refine jG ?_|refine jH ?_|refine jI ?_)|((with_reducible refine jR ?hq ?_);case hq=>rfl)|((first|(with_reducible first|refine jS fun K hK=>?_|refine jT ?_|refine jU ?_)|((with_reducible refine jV ?hy fun K hK=>?_);case hy=>rfl));simp only [go_sem, Nat.reduceEqDiff, Nat.reduceAdd, Nat.reduceMul, Nat.reduceLeDiff, Nat.reduceLT, Int.reduceLT, Int.reduceLE, Int.reduceEq, Int.reduceNeg, Int.reduceToNat, Nat.reducePow, reduceIte, reduceCtorEq, hcell_push, hcell_top, okW_push, okW_top, hcell_hset_ne, hcell_hset_off, hcell_hset_eq, okW_hset, hset_size, Array.size_push, Nat.lt_add_one, ne_add_one, add_one_ne, Nat.add_assoc, add_same, add_lt_same, Nat.reduceEqDiff, lt_add_k, add_k_ne, ne_add_k])|((with_reducible first|refine jW ?hy ?_|refine jY ?hy ?_);case hy=>rfl)|((with_reducible first|refine jX ?hy ?_|refine jZ ?hy ?_);case hy=>rfl)|((with_reducible refine jF ?hy ?_);case hy=>decide))
   have e : (plusA a b).val = .agg #[.int .i64 (IntKind.i64.wrap (a.count + b.count)), .int .i64 (IntKind.i64.wrap (a.sum + b.sum)), .int .i64 (minI a.least b.least), .int .i64 (maxI a.most b.most), .int .i64 (or64 a.flags b.flags)] := by
    unfold plusA Agg.val; simp only [h1, h2, if_false]; rfl
   rw [e] at hk
   exact hk _ (by ((repeat (first | refine Fr.set ?_ (by simp) _ | refine Fr.push ?_ _)); exact Fr.refl _ _))
end Go.Proofs.Ytnlafhnbakipmaa
namespace Go.Proofs.Ytnlafhnbakipmaa.ArQPtr
open Go Go.Hp
set_option linter.all false
set_option maxRecDepth 100000

theorem many_le' {A : Ar} {k : Nat} (ok : A.Ok k) : A.many ≤ 4096 := Nat.le_trans ok.most ok.room
theorem at_some {H : Heap} {p g : Nat} {A : Ar} {h : Nat} {v z : List Value} {K : Value → Heap → Prop} (hA : ArAt H p g 1 z A) (hg : A.get h = some v)
  (hk : K (.pointer (some ⟨g, h * 3, none⟩)) H) : CallsH Try.prog 94 #[.pointer (some ⟨p, 0, none⟩), .int .i64 h] H K := by
 obtain ⟨c, rest, b1, b2, hl, hc⟩ := hA.at_
 have h2 := b1.cellOf (i := 2) rfl
 have hlt := Ar.get_some_lt hg
 have h1 := Ar.pos_of_get hA.ok hg
 have hu : hcell H ⟨g, h * 3 + 1, none⟩ = some (.bool true) := by
  have := b2.cellOf (slot_used hA.ok hA.zl hlt)
  rw [hg] at this
  exact this
 have e1 : ((h : Int) < 1) = False := by simp; omega
 have e2 : (A.vals.length ≤ h) = False := by simp; omega
 refine call94 (by simp) ?_
 simp only [Try.f94, Option.getD_some]
 repeat' (first|(with_reducible first|refine jA ?_|(refine hK _ _ ?_;clear hK K)|refine jJ fun K hK=>?_|refine jK ?_|refine jL ?_|refine jM ?_|refine jN ?_|refine jO ?_|refine jP ?_|refine jQ ?_|(refine jB ?_;clear hK K)|(refine jC ?_;clear hK K)|refine jD ?_|refine jE ?_|refine jG ?_|refine jH ?_|refine jI ?_)|((with_reducible refine jR ?hq ?_);case hq=>rfl)|((first|(with_reducible first|refine jS fun K hK=>?_|refine jT ?_|refine jU ?_)|((with_reducible refine jV ?hy fun K hK=>?_);case hy=>rfl));simp only [go_sem, Nat.reduceEqDiff, Nat.reduceAdd, Nat.reduceMul, Nat.reduceLeDiff, Nat.reduceLT, Int.reduceLT, Int.reduceLE, Int.reduceEq, Int.reduceNeg, Int.reduceToNat, Nat.reducePow, reduceIte, reduceCtorEq, h2, hu, e1, e2, hlt])|((with_reducible first|refine jW ?hy ?_|refine jY ?hy ?_);case hy=>rfl)|((with_reducible first|refine jX ?hy ?_|refine jZ ?hy ?_);case hy=>rfl)|((with_reducible refine jF ?hy ?_);case hy=>decide))
 exact hk
theorem at_none {H : Heap} {p g : Nat} {A : Ar} {i : Int} {z : List Value} {K : Value → Heap → Prop} (hA : ArAt H p g 1 z A) (hg : i < 1 ∨ A.get i.toNat = none)
  (hk : K (.pointer none) H) : CallsH Try.prog 94 #[.pointer (some ⟨p, 0, none⟩), .int .i64 i] H K := by
 obtain ⟨c, rest, b1, b2, hl, hc⟩ := hA.at_
 have h2 := b1.cellOf (i := 2) rfl
 refine call94 (by simp) ?_
 simp only [Try.f94, Option.getD_some]
 by_cases h1 : i < 1
 ·have e1 : (i < 1) = True := by simp [h1]
  repeat' (first|(with_reducible first|refine jA ?_|(refine hK _ _ ?_;clear hK K)|refine jJ fun K hK=>?_|refine jK ?_|refine jL ?_|refine jM ?_|refine jN ?_|refine jO ?_|refine jP ?_|refine jQ ?_|(refine jB ?_;clear hK K)|(refine jC ?_;clear hK K)|refine jD ?_|refine jE ?_|refine jG ?_|refine jH ?_|refine jI ?_)|((with_reducible refine jR ?hq ?_);case hq=>rfl)|((first|(with_reducible first|refine jS fun K hK=>?_|refine jT ?_|refine jU ?_)|((with_reducible refine jV ?hy fun K hK=>?_);case hy=>rfl));simp only [go_sem, Nat.reduceEqDiff, Nat.reduceAdd, Nat.reduceMul, Nat.reduceLeDiff, Nat.reduceLT, Int.reduceLT, Int.reduceLE, Int.reduceEq, Int.reduceNeg, Int.reduceToNat, Nat.reducePow, reduceIte, reduceCtorEq, h2, e1])|((with_reducible first|refine jW ?hy ?_|refine jY ?hy ?_);case hy=>rfl)|((with_reducible first|refine jX ?hy ?_|refine jZ ?hy ?_);case hy=>rfl)|((with_reducible refine jF ?hy ?_);case hy=>decide))
  exact hk
 ·have e1 : (i < 1) = False := by simp [h1]
  obtain ⟨h, rfl⟩ := Int.eq_ofNat_of_zero_le (show 0 ≤ i by omega)
  have hg' : A.get h = none := by simpa [h1] using hg
  by_cases hlt : h < A.vals.length
  ·have hu : hcell H ⟨g, h * 3 + 1, none⟩ = some (.bool false) := by
    have := b2.cellOf (slot_used hA.ok hA.zl hlt)
    rw [hg'] at this
    exact this
   have e2 : (A.vals.length ≤ h) = False := by simp; omega
   repeat' (first|(with_reducible first|refine jA ?_|(refine hK _ _ ?_;clear hK K)|refine jJ fun K hK=>?_|refine jK ?_|refine jL ?_|refine jM ?_|refine jN ?_|refine jO ?_|refine jP ?_|refine jQ ?_|(refine jB ?_;clear hK K)|(refine jC ?_;clear hK K)|refine jD ?_|refine jE ?_|refine jG ?_|refine jH ?_|refine jI ?_)|((with_reducible refine jR ?hq ?_);case hq=>rfl)|((first|(with_reducible first|refine jS fun K hK=>?_|refine jT ?_|refine jU ?_)|((with_reducible refine jV ?hy fun K hK=>?_);case hy=>rfl));simp only [go_sem, Nat.reduceEqDiff, Nat.reduceAdd, Nat.reduceMul, Nat.reduceLeDiff, Nat.reduceLT, Int.reduceLT, Int.reduceLE, Int.reduceEq, Int.reduceNeg, Int.reduceToNat, Nat.reducePow, reduceIte, reduceCtorEq, h2, hu, e1, e2, hlt])|((with_reducible first|refine jW ?hy ?_|refine jY ?hy ?_);case hy=>rfl)|((with_reducible first|refine jX ?hy ?_|refine jZ ?hy ?_);case hy=>rfl)|((with_reducible refine jF ?hy ?_);case hy=>decide))
   exact hk
  ·have e2 : (A.vals.length ≤ h) = True := by simp; omega
   repeat' (first|(with_reducible first|refine jA ?_|(refine hK _ _ ?_;clear hK K)|refine jJ fun K hK=>?_|refine jK ?_|refine jL ?_|refine jM ?_|refine jN ?_|refine jO ?_|refine jP ?_|refine jQ ?_|(refine jB ?_;clear hK K)|(refine jC ?_;clear hK K)|refine jD ?_|refine jE ?_|refine jG ?_|refine jH ?_|refine jI ?_)|((with_reducible refine jR ?hq ?_);case hq=>rfl)|((first|(with_reducible first|refine jS fun K hK=>?_|refine jT ?_|refine jU ?_)|((with_reducible refine jV ?hy fun K hK=>?_);case hy=>rfl));simp only [go_sem, Nat.reduceEqDiff, Nat.reduceAdd, Nat.reduceMul, Nat.reduceLeDiff, Nat.reduceLT, Int.reduceLT, Int.reduceLE, Int.reduceEq, Int.reduceNeg, Int.reduceToNat, Nat.reducePow, reduceIte, reduceCtorEq, h2, e1, e2])|((with_reducible first|refine jW ?hy ?_|refine jY ?hy ?_);case hy=>rfl)|((with_reducible first|refine jX ?hy ?_|refine jZ ?hy ?_);case hy=>rfl)|((with_reducible refine jF ?hy ?_);case hy=>decide))
   exact hk
theorem get_some {H : Heap} {p g : Nat} {A : Ar} {h : Nat} {v : Option Addr} {z : List Value} {K : Value → Heap → Prop} (hA : ArAt H p g 1 z A) (hg : A.get h = some [.pointer v])
  (hk : K (.tuple #[.pointer v, .int .i64 0]) H) : CallsH Try.prog 87 #[.pointer (some ⟨p, 0, none⟩), .int .i64 h] H K := by
 obtain ⟨c, rest, b1, b2, hl, hc⟩ := hA.at_
 have hv : hcell H ⟨g, h * 3, none⟩ = some (.pointer v) := b2.cellOf (by
  have := slot_val hA.ok hA.zl (rest := rest) (j := 0) hg (by omega)
  simpa using this)
 refine call87 (by simp) ?_
 simp only [Try.f87, Option.getD_some]
 repeat' (first|(with_reducible first|refine jA ?_|(refine hK _ _ ?_;clear hK K)|refine jJ fun K hK=>?_|refine jK ?_|refine jL ?_|refine jM ?_|refine jN ?_|refine jO ?_|refine jP ?_|refine jQ ?_|(refine jB ?_;clear hK K)|(refine jC ?_;clear hK K)|refine jD ?_|refine jE ?_|refine jG ?_|refine jH ?_|refine jI ?_)|((with_reducible refine jR ?hq ?_);case hq=>rfl)|((first|(with_reducible first|refine jS fun K hK=>?_|refine jT ?_|refine jU ?_)|((with_reducible refine jV ?hy fun K hK=>?_);case hy=>rfl));simp only [go_sem, Nat.reduceEqDiff, Nat.reduceAdd, Nat.reduceMul, Nat.reduceLeDiff, Nat.reduceLT, Int.reduceLT, Int.reduceLE, Int.reduceEq, Int.reduceNeg, Int.reduceToNat, Nat.reducePow, reduceIte, reduceCtorEq, hv])|((with_reducible first|refine jW ?hy ?_|refine jY ?hy ?_);case hy=>rfl)|((with_reducible first|refine jX ?hy ?_|refine jZ ?hy ?_);case hy=>rfl)|((with_reducible refine jF ?hy ?_);case hy=>decide))
 refine at_some hA hg ?_
 repeat' (first|(with_reducible first|refine jA ?_|(refine hK _ _ ?_;clear hK K)|refine jJ fun K hK=>?_|refine jK ?_|refine jL ?_|refine jM ?_|refine jN ?_|refine jO ?_|refine jP ?_|refine jQ ?_|(refine jB ?_;clear hK K)|(refine jC ?_;clear hK K)|refine jD ?_|refine jE ?_|refine jG ?_|refine jH ?_|refine jI ?_)|((with_reducible refine jR ?hq ?_);case hq=>rfl)|((first|(with_reducible first|refine jS fun K hK=>?_|refine jT ?_|refine jU ?_)|((with_reducible refine jV ?hy fun K hK=>?_);case hy=>rfl));simp only [go_sem, Nat.reduceEqDiff, Nat.reduceAdd, Nat.reduceMul, Nat.reduceLeDiff, Nat.reduceLT, Int.reduceLT, Int.reduceLE, Int.reduceEq, Int.reduceNeg, Int.reduceToNat, Nat.reducePow, reduceIte, reduceCtorEq, hv])|((with_reducible first|refine jW ?hy ?_|refine jY ?hy ?_);case hy=>rfl)|((with_reducible first|refine jX ?hy ?_|refine jZ ?hy ?_);case hy=>rfl)|((with_reducible refine jF ?hy ?_);case hy=>decide))
 exact hk
theorem get_none {H : Heap} {p g : Nat} {A : Ar} {i : Int} {z : List Value} {K : Value → Heap → Prop} (hA : ArAt H p g 1 z A) (hg : i < 1 ∨ A.get i.toNat = none)
  (hk : K (.tuple #[.pointer none, .int .i64 21]) H) : CallsH Try.prog 87 #[.pointer (some ⟨p, 0, none⟩), .int .i64 i] H K := by
 refine call87 (by simp) ?_
 simp only [Try.f87, Option.getD_some]
 repeat' (first|(with_reducible first|refine jA ?_|(refine hK _ _ ?_;clear hK K)|refine jJ fun K hK=>?_|refine jK ?_|refine jL ?_|refine jM ?_|refine jN ?_|refine jO ?_|refine jP ?_|refine jQ ?_|(refine jB ?_;clear hK K)|(refine jC ?_;clear hK K)|refine jD ?_|refine jE ?_|refine jG ?_|refine jH ?_|refine jI ?_)|((with_reducible refine jR ?hq ?_);case hq=>rfl)|((first|(with_reducible first|refine jS fun K hK=>?_|refine jT ?_|refine jU ?_)|((with_reducible refine jV ?hy fun K hK=>?_);case hy=>rfl));simp only [go_sem, Nat.reduceEqDiff, Nat.reduceAdd, Nat.reduceMul, Nat.reduceLeDiff, Nat.reduceLT, Int.reduceLT, Int.reduceLE, Int.reduceEq, Int.reduceNeg, Int.reduceToNat, Nat.reducePow, reduceIte, reduceCtorEq])|((with_reducible first|refine jW ?hy ?_|refine jY ?hy ?_);case hy=>rfl)|((with_reducible first|refine jX ?hy ?_|refine jZ ?hy ?_);case hy=>rfl)|((with_reducible refine jF ?hy ?_);case hy=>decide))
 refine at_none hA hg ?_
 repeat' (first|(with_reducible first|refine jA ?_|(refine hK _ _ ?_;clear hK K)|refine jJ fun K hK=>?_|refine jK ?_|refine jL ?_|refine jM ?_|refine jN ?_|refine jO ?_|refine jP ?_|refine jQ ?_|(refine jB ?_;clear hK K)|(refine jC ?_;clear hK K)|refine jD ?_|refine jE ?_|refine jG ?_|refine jH ?_|refine jI ?_)|((with_reducible refine jR ?hq ?_);case hq=>rfl)|((first|(with_reducible first|refine jS fun K hK=>?_|refine jT ?_|refine jU ?_)|((with_reducible refine jV ?hy fun K hK=>?_);case hy=>rfl));simp only [go_sem, Nat.reduceEqDiff, Nat.reduceAdd, Nat.reduceMul, Nat.reduceLeDiff, Nat.reduceLT, Int.reduceLT, Int.reduceLE, Int.reduceEq, Int.reduceNeg, Int.reduceToNat, Nat.reducePow, reduceIte, reduceCtorEq])|((with_reducible first|refine jW ?hy ?_|refine jY ?hy ?_);case hy=>rfl)|((with_reducible first|refine jX ?hy ?_|refine jZ ?hy ?_);case hy=>rfl)|((with_reducible refine jF ?hy ?_);case hy=>decide))
 exact hk
theorem new_bad {H : Heap} {n : Int} {K : Value → Heap → Prop} (hn : n < 0 ∨ 4096 < n) (hk : K (.tuple #[.pointer none, .int .i64 1]) H) : CallsH Try.prog 63 #[.int .i64 n] H K := by
 refine call63 (by simp) ?_
 simp only [Try.f63, Option.getD_some]
 by_cases h0 : n < 0
 ·have e1 : (n < 0) = True := by simp [h0]
  repeat' (first|(with_reducible first|refine jA ?_|(refine hK _ _ ?_;clear hK K)|refine jJ fun K hK=>?_|refine jK ?_|refine jL ?_|refine jM ?_|refine jN ?_|refine jO ?_|refine jP ?_|refine jQ ?_|(refine jB ?_;clear hK K)|(refine jC ?_;clear hK K)|refine jD ?_|refine jE ?_|refine jG ?_|refine jH ?_|refine jI ?_)|((with_reducible refine jR ?hq ?_);case hq=>rfl)|((first|(with_reducible first|refine jS fun K hK=>?_|refine jT ?_|refine jU ?_)|((with_reducible refine jV ?hy fun K hK=>?_);case hy=>rfl));simp only [go_sem, Nat.reduceEqDiff, Nat.reduceAdd, Nat.reduceMul, Nat.reduceLeDiff, Nat.reduceLT, Int.reduceLT, Int.reduceLE, Int.reduceEq, Int.reduceNeg, Int.reduceToNat, Nat.reducePow, reduceIte, reduceCtorEq, e1])|((with_reducible first|refine jW ?hy ?_|refine jY ?hy ?_);case hy=>rfl)|((with_reducible first|refine jX ?hy ?_|refine jZ ?hy ?_);case hy=>rfl)|((with_reducible refine jF ?hy ?_);case hy=>decide))
  exact hk
 ·have e1 : (n < 0) = False := by simp [h0]
  have e2 : (4096 < n) = True := by simp; omega
  repeat' (first|(with_reducible first|refine jA ?_|(refine hK _ _ ?_;clear hK K)|refine jJ fun K hK=>?_|refine jK ?_|refine jL ?_|refine jM ?_|refine jN ?_|refine jO ?_|refine jP ?_|refine jQ ?_|(refine jB ?_;clear hK K)|(refine jC ?_;clear hK K)|refine jD ?_|refine jE ?_|refine jG ?_|refine jH ?_|refine jI ?_)|((with_reducible refine jR ?hq ?_);case hq=>rfl)|((first|(with_reducible first|refine jS fun K hK=>?_|refine jT ?_|refine jU ?_)|((with_reducible refine jV ?hy fun K hK=>?_);case hy=>rfl));simp only [go_sem, Nat.reduceEqDiff, Nat.reduceAdd, Nat.reduceMul, Nat.reduceLeDiff, Nat.reduceLT, Int.reduceLT, Int.reduceLE, Int.reduceEq, Int.reduceNeg, Int.reduceToNat, Nat.reducePow, reduceIte, reduceCtorEq, e1, e2])|((with_reducible first|refine jW ?hy ?_|refine jY ?hy ?_);case hy=>rfl)|((with_reducible first|refine jX ?hy ?_|refine jZ ?hy ?_);case hy=>rfl)|((with_reducible refine jF ?hy ?_);case hy=>decide))
  exact hk
theorem new_ok {H : Heap} {n : Nat} {K : Value → Heap → Prop} (hn : n ≤ 4096) (hk : ∀ H' p g, ArAt H' p g 1 [.pointer none] (Ar.new n) → Fr (fun _ => False) H H' → H.size ≤ p → H.size ≤ g → K (.tuple #[.pointer (some ⟨p, 0, none⟩), .int .i64 0]) H') :
  CallsH Try.prog 63 #[.int .i64 n] H K := by
 refine call63 (by simp) ?_
 simp only [Try.f63, Option.getD_some]
 have e1 : ((n : Int) < 0) = False := by simp
 have e2 : (4096 < (n : Int)) = False := by simp; omega
 repeat' (first|(with_reducible first|refine jA ?_|(refine hK _ _ ?_;clear hK K)|refine jJ fun K hK=>?_|refine jK ?_|refine jL ?_|refine jM ?_|refine jN ?_|refine jO ?_|refine jP ?_|refine jQ ?_|(refine jB ?_;clear hK K)|(refine jC ?_;clear hK K)|refine jD ?_|refine jE ?_|refine jG ?_|refine jH ?_|refine jI ?_)|((with_reducible refine jR ?hq ?_);case hq=>rfl)|((first|(with_reducible first|refine jS fun K hK=>?_|refine jT ?_|refine jU ?_)|((with_reducible refine jV ?hy fun K hK=>?_);case hy=>rfl));simp only [go_sem, Nat.reduceEqDiff, Nat.reduceAdd, Nat.reduceMul, Nat.reduceLeDiff, Nat.reduceLT, Int.reduceLT, Int.reduceLE, Int.reduceEq, Int.reduceNeg, Int.reduceToNat, Nat.reducePow, reduceIte, reduceCtorEq, e1, e2])|((with_reducible first|refine jW ?hy ?_|refine jY ?hy ?_);case hy=>rfl)|((with_reducible first|refine jX ?hy ?_|refine jZ ?hy ?_);case hy=>rfl)|((with_reducible refine jF ?hy ?_);case hy=>decide))
 refine hk _ _ H.size ⟨Ar.Ok.new hn, rfl, by simp, 1, [], Blk.new _ _ _, ?_, by simp [Ar.rows, Ar.new, slotC], by simp [Ar.new]⟩ (((Fr.refl _ _).push _).push _) (by simp) (Nat.le_refl _)
 exact (Blk.new H _ _).push _
theorem drop_none {H : Heap} {p g : Nat} {A : Ar} {i : Int} {z : List Value} {K : Value → Heap → Prop} (hA : ArAt H p g 1 z A) (hg : i < 1 ∨ A.get i.toNat = none)
  (hk : K (.int .i64 21) H) : CallsH Try.prog 93 #[.pointer (some ⟨p, 0, none⟩), .int .i64 i] H K := by
 refine call93 (by simp) ?_
 simp only [Try.f93, Option.getD_some]
 repeat' (first|(with_reducible first|refine jA ?_|(refine hK _ _ ?_;clear hK K)|refine jJ fun K hK=>?_|refine jK ?_|refine jL ?_|refine jM ?_|refine jN ?_|refine jO ?_|refine jP ?_|refine jQ ?_|(refine jB ?_;clear hK K)|(refine jC ?_;clear hK K)|refine jD ?_|refine jE ?_|refine jG ?_|refine jH ?_|refine jI ?_)|((with_reducible refine jR ?hq ?_);case hq=>rfl)|((first|(with_reducible first|refine jS fun K hK=>?_|refine jT ?_|refine jU ?_)|((with_reducible refine jV ?hy fun K hK=>?_);case hy=>rfl));simp only [go_sem, Nat.reduceEqDiff, Nat.reduceAdd, Nat.reduceMul, Nat.reduceLeDiff, Nat.reduceLT, Int.reduceLT, Int.reduceLE, Int.reduceEq, Int.reduceNeg, Int.reduceToNat, Nat.reducePow, reduceIte, reduceCtorEq])|((with_reducible first|refine jW ?hy ?_|refine jY ?hy ?_);case hy=>rfl)|((with_reducible first|refine jX ?hy ?_|refine jZ ?hy ?_);case hy=>rfl)|((with_reducible refine jF ?hy ?_);case hy=>decide))
 refine at_none hA hg ?_
 repeat' (first|(with_reducible first|refine jA ?_|(refine hK _ _ ?_;clear hK K)|refine jJ fun K hK=>?_|refine jK ?_|refine jL ?_|refine jM ?_|refine jN ?_|refine jO ?_|refine jP ?_|refine jQ ?_|(refine jB ?_;clear hK K)|(refine jC ?_;clear hK K)|refine jD ?_|refine jE ?_|refine jG ?_|refine jH ?_|refine jI ?_)|((with_reducible refine jR ?hq ?_);case hq=>rfl)|((first|(with_reducible first|refine jS fun K hK=>?_|refine jT ?_|refine jU ?_)|((with_reducible refine jV ?hy fun K hK=>?_);case hy=>rfl));simp only [go_sem, Nat.reduceEqDiff, Nat.reduceAdd, Nat.reduceMul, Nat.reduceLeDiff, Nat.reduceLT, Int.reduceLT, Int.reduceLE, Int.reduceEq, Int.reduceNeg, Int.reduceToNat, Nat.reducePow, reduceIte, reduceCtorEq])|((with_reducible first|refine jW ?hy ?_|refine jY ?hy ?_);case hy=>rfl)|((with_reducible first|refine jX ?hy ?_|refine jZ ?hy ?_);case hy=>rfl)|((with_reducible refine jF ?hy ?_);case hy=>decide))
 exact hk
theorem drop_some {H : Heap} {p g : Nat} {A : Ar} {h : Nat} {u : List Value} {K : Value → Heap → Prop} (hA : ArAt H p g 1 [.pointer none] A) (hg : A.get h = some u)
  (hk : ∀ H', ArAt H' p g 1 [.pointer none] (A.drop h) → Fr (fun b => b = g ∨ b = p) H H' → K (.int .i64 0) H') : CallsH Try.prog 93 #[.pointer (some ⟨p, 0, none⟩), .int .i64 h] H K := by
 obtain ⟨c, rest, b1, b2, hl, hc⟩ := hA.at_
 have hh := Ar.get_some_lt hg
 have w0 := b2.okW (off_lt (j := 0) hA.zl hA.ok hh (by omega) rest)
 have w1 := b2.okW (off_lt (j := 1) hA.zl hA.ok hh (by omega) rest)
 have w2 := b2.okW (off_lt (j := 2) hA.zl hA.ok hh (by omega) rest)
 simp only [Nat.add_zero, Nat.reduceAdd] at w0 w1 w2
 have h3 := b1.cellOf (i := 3) rfl
 have h1 := b1.cellOf (i := 1) rfl
 have v1 := b1.okW (i := 1) (by simp)
 have v3 := b1.okW (i := 3) (by simp)
 have ne := hA.ne
 have hmd := Ar.many_drop hg
 have hml := many_le' hA.ok
 have ew : IntKind.i64.wrap ((A.many : Int) - 1) = ((A.drop h).many : Nat) := by rw [← hmd, wrap_i64] <;> omega
 refine call93 (by simp) ?_
 simp only [Try.f93, Option.getD_some]
 repeat' (first|(with_reducible first|refine jA ?_|(refine hK _ _ ?_;clear hK K)|refine jJ fun K hK=>?_|refine jK ?_|refine jL ?_|refine jM ?_|refine jN ?_|refine jO ?_|refine jP ?_|refine jQ ?_|(refine jB ?_;clear hK K)|(refine jC ?_;clear hK K)|refine jD ?_|refine jE ?_|refine jG ?_|refine jH ?_|refine jI ?_)|((with_reducible refine jR ?hq ?_);case hq=>rfl)|((first|(with_reducible first|refine jS fun K hK=>?_|refine jT ?_|refine jU ?_)|((with_reducible refine jV ?hy fun K hK=>?_);case hy=>rfl));simp only [go_sem, Nat.reduceEqDiff, Nat.reduceAdd, Nat.reduceMul, Nat.reduceLeDiff, Nat.reduceLT, Int.reduceLT, Int.reduceLE, Int.reduceEq, Int.reduceNeg, Int.reduceToNat, Nat.reducePow, reduceIte, reduceCtorEq])|((with_reducible first|refine jW ?hy ?_|refine jY ?hy ?_);case hy=>rfl)|((with_reducible first|refine jX ?hy ?_|refine jZ ?hy ?_);case hy=>rfl)|((with_reducible refine jF ?hy ?_);case hy=>decide))
 refine at_some hA hg ?_
 repeat' (first|(with_reducible first|refine jA ?_|(refine hK _ _ ?_;clear hK K)|refine jJ fun K hK=>?_|refine jK ?_|refine jL ?_|refine jM ?_|refine jN ?_|refine jO ?_|refine jP ?_|refine jQ ?_|(refine jB ?_;clear hK K)|(refine jC ?_;clear hK K)|refine jD ?_|refine jE ?_|refine jG ?_|refine jH ?_|refine jI ?_)|((with_reducible refine jR ?hq ?_);case hq=>rfl)|((first|(with_reducible first|refine jS fun K hK=>?_|refine jT ?_|refine jU ?_)|((with_reducible refine jV ?hy fun K hK=>?_);case hy=>rfl));simp only [go_sem, Nat.reduceEqDiff, Nat.reduceAdd, Nat.reduceMul, Nat.reduceLeDiff, Nat.reduceLT, Int.reduceLT, Int.reduceLE, Int.reduceEq, Int.reduceNeg, Int.reduceToNat, Nat.reducePow, reduceIte, reduceCtorEq, h3, h1, w0, w1, w2, v1, v3, okW_hset, hcell_hset_ne, hcell_hset_off, ne, ew])|((with_reducible first|refine jW ?hy ?_|refine jY ?hy ?_);case hy=>rfl)|((with_reducible first|refine jX ?hy ?_|refine jZ ?hy ?_);case hy=>rfl)|((with_reducible refine jF ?hy ?_);case hy=>decide))
 refine hk _ ⟨hA.ok.drop hg, hA.zl, hA.ne, c, rest, ?_, ?_, by simpa [Ar.drop] using hl, by simpa [Ar.drop] using hc⟩ (by ((repeat (first | refine Fr.set ?_ (by simp) _ | refine Fr.push ?_ _)); exact Fr.refl _ _))
 ·rw [show (A.drop h).vals.length = A.vals.length by simp [Ar.drop]]
  exact ((((b1.set_ne ne _).set_ne ne _).set_ne ne _).set_same 3 _).set_same 1 _
 ·rw [rows_drop hh, List.singleton_append, ← rows3 (Ar.rows_w hA.zl hA.ok) (by rw [Ar.rows_length]; exact hh)]
  exact ((((b2.set_same _ _).set_same _ _).set_same _ _).set_ne (Ne.symm ne) _).set_ne (Ne.symm ne) _
theorem put_full {H : Heap} {p g : Nat} {A : Ar} {v : Option Addr} {z : List Value} {K : Value → Heap → Prop} (hA : ArAt H p g 1 z A) (hf : A.many = A.room)
  (hk : K (.tuple #[.int .i64 0, .int .i64 20]) H) : CallsH Try.prog 66 #[.pointer (some ⟨p, 0, none⟩), .pointer v] H K := by
 obtain ⟨c, rest, b1, b2, hl, hc⟩ := hA.at_
 have h1 := b1.cellOf (i := 1) rfl
 have h0 := b1.cellOf (i := 0) rfl
 rw [← hf] at h0
 refine call66 (by simp) ?_
 simp only [Try.f66, Option.getD_some]
 repeat' (first|(with_reducible first|refine jA ?_|(refine hK _ _ ?_;clear hK K)|refine jJ fun K hK=>?_|refine jK ?_|refine jL ?_|refine jM ?_|refine jN ?_|refine jO ?_|refine jP ?_|refine jQ ?_|(refine jB ?_;clear hK K)|(refine jC ?_;clear hK K)|refine jD ?_|refine jE ?_|refine jG ?_|refine jH ?_|refine jI ?_)|((with_reducible refine jR ?hq ?_);case hq=>rfl)|((first|(with_reducible first|refine jS fun K hK=>?_|refine jT ?_|refine jU ?_)|((with_reducible refine jV ?hy fun K hK=>?_);case hy=>rfl));simp only [go_sem, Nat.reduceEqDiff, Nat.reduceAdd, Nat.reduceMul, Nat.reduceLeDiff, Nat.reduceLT, Int.reduceLT, Int.reduceLE, Int.reduceEq, Int.reduceNeg, Int.reduceToNat, Nat.reducePow, reduceIte, reduceCtorEq, h0, h1])|((with_reducible first|refine jW ?hy ?_|refine jY ?hy ?_);case hy=>rfl)|((with_reducible first|refine jX ?hy ?_|refine jZ ?hy ?_);case hy=>rfl)|((with_reducible refine jF ?hy ?_);case hy=>decide))
 exact hk
theorem put_old {H : Heap} {p g : Nat} {A : Ar} {h : Nat} {fs : List Nat} {v : Option Addr} {z : List Value} {K : Value → Heap → Prop} (hA : ArAt H p g 1 z A) (hm : A.many < A.room) (hf : A.free = h :: fs)
  (hk : ∀ H', ArAt H' p g 1 z (A.putOld h [.pointer v]) → Fr (fun b => b = g ∨ b = p) H H' → K (.tuple #[.int .i64 h, .int .i64 0]) H') : CallsH Try.prog 66 #[.pointer (some ⟨p, 0, none⟩), .pointer v] H K := by
 obtain ⟨c, rest, b1, b2, hl, hc⟩ := hA.at_
 obtain ⟨hp, hh, hg⟩ := (hA.ok.mem h).1 (by rw [hf]; exact .head _)
 have w0 := b2.okW (off_lt (j := 0) hA.zl hA.ok hh (by omega) rest)
 have w1 := b2.okW (off_lt (j := 1) hA.zl hA.ok hh (by omega) rest)
 have w2 := b2.okW (off_lt (j := 2) hA.zl hA.ok hh (by omega) rest)
 have n2 := b2.cellOf (slot_next hA.ok hA.zl (rest := rest) hh hg)
 simp only [Nat.add_zero, Nat.reduceAdd] at w0 w1 w2 n2
 have h0 := b1.cellOf (i := 0) rfl
 have h1 := b1.cellOf (i := 1) rfl
 have h2 := b1.cellOf (i := 2) rfl
 have h3 := b1.cellOf (i := 3) rfl
 have v1 := b1.okW (i := 1) (by simp)
 have v3 := b1.okW (i := 3) (by simp)
 rw [hf] at h3 n2
 simp only [List.headD_cons] at h3
 have en : nextOf (h :: fs) h = fs.headD 0 := by simp [nextOf]
 rw [en] at n2
 have ne := hA.ne
 have ne' := Ne.symm hA.ne
 have hmp := Ar.many_putOld (v := [.pointer v]) hA.ok (show h ∈ A.free by rw [hf]; exact .head _)
 have hml := many_le' hA.ok
 have ew : IntKind.i64.wrap ((A.many : Int) + 1) = ((A.putOld h [.pointer v]).many : Nat) := by rw [hmp, wrap_i64] <;> omega
 have e1 : ((A.many : Int) == (A.room : Int)) = false := by simp; omega
 have e2 : ((h : Int) == 0) = false := by simp; omega
 refine call66 (by simp) ?_
 simp only [Try.f66, Option.getD_some]
 repeat' (first|(with_reducible first|refine jA ?_|(refine hK _ _ ?_;clear hK K)|refine jJ fun K hK=>?_|refine jK ?_|refine jL ?_|refine jM ?_|refine jN ?_|refine jO ?_|refine jP ?_|refine jQ ?_|(refine jB ?_;clear hK K)|(refine jC ?_;clear hK K)|refine jD ?_|refine jE ?_|refine jG ?_|refine jH ?_|refine jI ?_)|((with_reducible refine jR ?hq ?_);case hq=>rfl)|((first|(with_reducible first|refine jS fun K hK=>?_|refine jT ?_|refine jU ?_)|((with_reducible refine jV ?hy fun K hK=>?_);case hy=>rfl));simp only [go_sem, Nat.reduceEqDiff, Nat.reduceAdd, Nat.reduceMul, Nat.reduceLeDiff, Nat.reduceLT, Int.reduceLT, Int.reduceLE, Int.reduceEq, Int.reduceNeg, Int.reduceToNat, Nat.reducePow, reduceIte, reduceCtorEq, h0, h1, h2, h3, n2, hh, w0, w1, w2, v1, v3, okW_hset, hcell_hset_ne, hcell_hset_off, ne, ne', ew, e1, e2])|((with_reducible first|refine jW ?hy ?_|refine jY ?hy ?_);case hy=>rfl)|((with_reducible first|refine jX ?hy ?_|refine jZ ?hy ?_);case hy=>rfl)|((with_reducible refine jF ?hy ?_);case hy=>decide))
 refine hk _ ⟨hA.ok.putOld hf hm rfl, hA.zl, hA.ne, c, rest, ?_, ?_, by simpa [Ar.putOld] using hl, by simpa [Ar.putOld] using hc⟩ (by ((repeat (first | refine Fr.set ?_ (by simp) _ | refine Fr.push ?_ _)); exact Fr.refl _ _))
 ·rw [show (A.putOld h [(.pointer v : Value)]).vals.length = A.vals.length by simp [Ar.putOld], show (A.putOld h [(.pointer v : Value)]).free = fs by simp [Ar.putOld, hf]]
  exact (((((b1.set_same 1 _).set_same 3 _).set_ne ne _).set_ne ne _).set_ne ne _)
 ·rw [rows_putOld _ hA.ok hf, List.singleton_append, ← rows3 (Ar.rows_w hA.zl hA.ok) (by rw [Ar.rows_length]; exact hh)]
  exact (((((b2.set_ne ne' _).set_ne ne' _).set_same _ _).set_same _ _).set_same _ _)
theorem put_new {H : Heap} {p g : Nat} {A : Ar} {v : Option Addr} {K : Value → Heap → Prop} (hA : ArAt H p g 1 [.pointer none] A) (hm : A.many < A.room) (hf : A.free = [])
  (hk : ∀ H' g', ArAt H' p g' 1 [.pointer none] (A.putNew [.pointer v]) → Fr (fun b => b = g ∨ b = p) H H' → (g' = g ∨ H.size ≤ g') → K (.tuple #[.int .i64 A.vals.length, .int .i64 0]) H') : CallsH Try.prog 66 #[.pointer (some ⟨p, 0, none⟩), .pointer v] H K := by
 obtain ⟨c, rest, b1, b2, hl, hc⟩ := hA.at_
 have h0 := b1.cellOf (i := 0) rfl
 have h1 := b1.cellOf (i := 1) rfl
 have h2 := b1.cellOf (i := 2) rfl
 have h3 := b1.cellOf (i := 3) rfl
 have v1 := b1.okW (i := 1) (by simp)
 rw [hf] at h3
 simp only [List.headD_nil] at h3
 have ne := hA.ne
 have hmp : (A.putNew [.pointer v]).many = A.many + 1 := Ar.many_putNew
 have hml := many_le' hA.ok
 have ew : IntKind.i64.wrap ((A.many : Int) + 1) = ((A.putNew [.pointer v]).many : Nat) := by rw [hmp, wrap_i64] <;> omega
 have e1 : ((A.many : Int) == (A.room : Int)) = false := by simp; omega
 refine call66 (by simp) ?_
 simp only [Try.f66, Option.getD_some]
 repeat' (first|(with_reducible first|refine jA ?_|(refine hK _ _ ?_;clear hK K)|refine jJ fun K hK=>?_|refine jK ?_|refine jL ?_|refine jM ?_|refine jN ?_|refine jO ?_|refine jP ?_|refine jQ ?_|(refine jB ?_;clear hK K)|(refine jC ?_;clear hK K)|refine jD ?_|refine jE ?_|refine jG ?_|refine jH ?_|refine jI ?_)|((with_reducible refine jR ?hq ?_);case hq=>rfl)|((first|(with_reducible first|refine jS fun K hK=>?_|refine jT ?_|refine jU ?_)|((with_reducible refine jV ?hy fun K hK=>?_);case hy=>rfl));simp only [go_sem, Nat.reduceEqDiff, Nat.reduceAdd, Nat.reduceMul, Nat.reduceLeDiff, Nat.reduceLT, Int.reduceLT, Int.reduceLE, Int.reduceEq, Int.reduceNeg, Int.reduceToNat, Nat.reducePow, reduceIte, reduceCtorEq, h0, h1, h2, h3, v1, okW_hset, hcell_hset_ne, hcell_hset_off, ne, ew, e1])|((with_reducible first|refine jW ?hy ?_|refine jY ?hy ?_);case hy=>rfl)|((with_reducible first|refine jX ?hy ?_|refine jZ ?hy ?_);case hy=>rfl)|((with_reducible refine jF ?hy ?_);case hy=>decide))
 have hcf := Ar.count_free A hA.ok
 rw [hf, List.length_nil] at hcf
 have hfl := flat_length (Ar.rows_w hA.zl hA.ok)
 rw [Ar.rows_length] at hfl
 generalize hH1 : hset H ⟨p, 1, none⟩ (.int .i64 ((A.putNew [.pointer v]).many : Nat)) = H1
 have hs1 : H1.size = H.size := by rw [← hH1, hset_size]
 have b1' : Blk H1 p [.int .i64 A.room, .int .i64 (A.putNew [.pointer v]).many, .slice (some ⟨g, 0, none⟩) A.vals.length c, .int .i64 (A.free.headD 0 : Nat)] := by rw [← hH1]; exact b1.set_same 1 _
 have b2' : Blk H1 g ((A.rows [.pointer none]).flatten ++ rest) := by rw [← hH1]; exact b2.set_ne (Ne.symm ne) _
 have f1 : Fr (fun b => b = g ∨ b = p) H H1 := by rw [← hH1]; exact (by ((repeat (first | refine Fr.set ?_ (by simp) _ | refine Fr.push ?_ _)); exact Fr.refl _ _))
 clear hH1
 refine append_row elems122 tl126 (b2'.push _) hfl hl hc (readL_blk (Blk.new H1 [.pointer v, .bool true, .int .i64 0] _) 3 0 0 (by simp)) (by simp [plainVal]) (by decide) (by simp only []; omega) rfl rfl ?_
 intro H2 g' c' rest' hb2 hl2 hc2 hf2 hg2
 have hpl := b1.lt
 have hgl := b2.lt
 have b1n : Blk H2 p _ := (b1'.push _).frame hf2 (by simpa using ne)
 have h2n := b1n.cellOf (i := 2) rfl
 have w2n := b1n.okW (i := 2) (by simp)
 have ne2 : p ≠ g' := by
  rcases hg2 with rfl | h
  ·exact ne
  ·simp at h; omega
 repeat' (first|(with_reducible first|refine jA ?_|(refine hK _ _ ?_;clear hK K)|refine jJ fun K hK=>?_|refine jK ?_|refine jL ?_|refine jM ?_|refine jN ?_|refine jO ?_|refine jP ?_|refine jQ ?_|(refine jB ?_;clear hK K)|(refine jC ?_;clear hK K)|refine jD ?_|refine jE ?_|refine jG ?_|refine jH ?_|refine jI ?_)|((with_reducible refine jR ?hq ?_);case hq=>rfl)|((first|(with_reducible first|refine jS fun K hK=>?_|refine jT ?_|refine jU ?_)|((with_reducible refine jV ?hy fun K hK=>?_);case hy=>rfl));simp only [go_sem, Nat.reduceEqDiff, Nat.reduceAdd, Nat.reduceMul, Nat.reduceLeDiff, Nat.reduceLT, Int.reduceLT, Int.reduceLE, Int.reduceEq, Int.reduceNeg, Int.reduceToNat, Nat.reducePow, reduceIte, reduceCtorEq, w2n, hcell_hset_same h2n])|((with_reducible first|refine jW ?hy ?_|refine jY ?hy ?_);case hy=>rfl)|((with_reducible first|refine jX ?hy ?_|refine jZ ?hy ?_);case hy=>rfl)|((with_reducible refine jF ?hy ?_);case hy=>decide))
 rw [show IntKind.i64.wrap (((A.vals.length + 1 : Nat) : Int) - 1) = (A.vals.length : Int) by rw [wrap_i64] <;> omega]
 have hlen : (A.putNew [(.pointer v : Value)]).vals.length = A.vals.length + 1 := by simp [Ar.putNew]
 have hs2 := hf2.size
 simp only [Array.size_push] at hs2 hg2
 refine hk _ g' ⟨hA.ok.putNew hf hm rfl, hA.zl, ne2, c', rest', ?_, ?_, by rw [hlen]; exact hl2, by rw [hlen]; exact hc2⟩ ?_ ?_
 ·rw [hlen]
  exact b1n.set_same 2 _
 ·rw [Ar.rows_putNew, List.flatten_append]
  have := hb2.set_ne (a := ⟨p, 2, none⟩) (Ne.symm ne2) (.slice (some ⟨g', 0, none⟩) (A.vals.length + 1) c')
  simpa [slotC] using this
 ·refine (f1.trans' (hf2.trans' (S := (· = g)) (Fr.refl _ _) (fun _ _ h => h) |> fun x => ((Fr.refl (· = g) H1).push _).trans x) fun b _ h => .inl h).set (.inl (.inr rfl)) _
 ·rcases hg2 with h | h
  ·exact .inl h
  ·right; omega
end Go.Proofs.Ytnlafhnbakipmaa.ArQPtr
namespace Go.Proofs.Ytnlafhnbakipmaa
open Go Go.Hp Go.Sp
set_option linter.all false
set_option maxRecDepth 100000
set_option maxHeartbeats 1600000

def U (A : Ar) (h : Nat) : Prop := (A.get h).isSome = true
structure FAt (H : Heap) (f p g : Nat) (A : Ar) (nb : Nat → Nat) (N : Nodes) : Prop where
 ff : Blk H f [.pointer (some ⟨p, 0, none⟩)]
 ar : ArAt H p g 1 [.pointer none] A
 use : ∀ h v, A.get h = some v → v = [.pointer (some ⟨nb h, 0, none⟩)]
 nd : ∀ h, U A h → Blk H (nb h) (N h).cells
 inj : ∀ h k, U A h → U A k → nb h = nb k → h = k
 dis : ∀ h, U A h → nb h ≠ f ∧ nb h ≠ p ∧ nb h ≠ g
 fp : f ≠ p ∧ f ≠ g
 cl : Cl (U A) N
def NB (A : Ar) (nb : Nat → Nat) (b : Nat) : Prop := ∃ h, U A h ∧ b = nb h
section
variable {H H' : Heap} {f p g : Nat} {A : Ar} {nb : Nat → Nat} {N : Nodes}
theorem FAt.grow (h : FAt H f p g A nb N) (hf : Fr (fun _ => False) H H') : FAt H' f p g A nb N :=
 ⟨h.ff.frame hf (fun h => h), h.ar.frame hf (fun h => h) (fun h => h), h.use, fun k hk => (h.nd k hk).frame hf (fun h => h), h.inj, h.dis, h.fp, h.cl⟩
theorem FAt.get (h : FAt H f p g A nb N) {k : Nat} (hk : U A k) : A.get k = some [.pointer (some ⟨nb k, 0, none⟩)] := by
 obtain ⟨v, hv⟩ := Option.isSome_iff_exists.1 hk
 rw [hv, h.use k v hv]
theorem FAt.pos (h : FAt H f p g A nb N) {k : Nat} (hk : U A k) : 1 ≤ k := Ar.pos_of_get h.ar.ok (h.get hk)
theorem FAt.set (h : FAt H f p g A nb N) {k : Nat} {r : Rec} (hk : U A k) (hf : Fr (· = nb k) H H') (hb : Blk H' (nb k) r.cells) (hc : Cl (U A) (upd N k r)) : FAt H' f p g A nb (upd N k r) where
 ff := h.ff.frame hf (fun e => (h.dis k hk).1 e.symm)
 ar := h.ar.frame hf (fun e => (h.dis k hk).2.1 e.symm) (fun e => (h.dis k hk).2.2 e.symm)
 use := h.use
 nd := fun i hi => by
  by_cases e : i = k
  ·subst e; rw [upd_same]; exact hb
  ·rw [upd_ne _ _ e]
   exact (h.nd i hi).frame hf (fun e' => e (h.inj _ _ hi hk e'))
 inj := h.inj
 dis := h.dis
 fp := h.fp
 cl := hc
theorem NB.of {k : Nat} (hk : U A k) (hf : Fr (· = nb k) H H') : Fr (NB A nb) H H' := hf.mono fun b _ e => ⟨k, hk, e⟩
theorem node_ok {K : Value → Heap → Prop} (hF : FAt H f p g A nb N) {k : Nat} (hk : U A k) (hK : K (.pointer (some ⟨nb k, 0, none⟩)) H) :
  CallsH Try.prog 67 #[.pointer (some ⟨f, 0, none⟩), .int .i64 k] H K := by
 have h0 := hF.ff.cellOf (i := 0) rfl
 refine call67 (by simp) ?_
 simp only [Try.f67, Option.getD_some]
 repeat' (first|(with_reducible first|refine jA ?_|(refine hK _ _ ?_;clear hK K)|refine jJ fun K hK=>?_|refine jK ?_|refine jL ?_|refine jM ?_|refine jN ?_|refine jO ?_|refine jP ?_|refine jQ ?_|(refine jB ?_;clear hK K)|(refine jC ?_;clear hK K)|refine jD ?_|refine jE ?_|refine jG ?_|refine jH ?_|refine jI ?_)|((with_reducible refine jR ?hq ?_);case hq=>rfl)|((first|(with_reducible first|refine jS fun K hK=>?_|refine jT ?_|refine jU ?_)|((with_reducible refine jV ?hy fun K hK=>?_);case hy=>rfl));simp only [go_sem, Nat.reduceEqDiff, Nat.reduceAdd, Nat.reduceMul, Nat.reduceLeDiff, Nat.reduceLT, Int.reduceLT, Int.reduceLE, Int.reduceEq, Int.reduceNeg, Int.reduceToNat, Nat.reducePow, reduceIte, reduceCtorEq, h0])|((with_reducible first|refine jW ?hy ?_|refine jY ?hy ?_);case hy=>rfl)|((with_reducible first|refine jX ?hy ?_|refine jZ ?hy ?_);case hy=>rfl)|((with_reducible refine jF ?hy ?_);case hy=>decide))
 refine ArQPtr.get_some hF.ar (hF.get hk) ?_
 repeat' (first|(with_reducible first|refine jA ?_|(refine hK _ _ ?_;clear hK K)|refine jJ fun K hK=>?_|refine jK ?_|refine jL ?_|refine jM ?_|refine jN ?_|refine jO ?_|refine jP ?_|refine jQ ?_|(refine jB ?_;clear hK K)|(refine jC ?_;clear hK K)|refine jD ?_|refine jE ?_|refine jG ?_|refine jH ?_|refine jI ?_)|((with_reducible refine jR ?hq ?_);case hq=>rfl)|((first|(with_reducible first|refine jS fun K hK=>?_|refine jT ?_|refine jU ?_)|((with_reducible refine jV ?hy fun K hK=>?_);case hy=>rfl));simp only [go_sem, Nat.reduceEqDiff, Nat.reduceAdd, Nat.reduceMul, Nat.reduceLeDiff, Nat.reduceLT, Int.reduceLT, Int.reduceLE, Int.reduceEq, Int.reduceNeg, Int.reduceToNat, Nat.reducePow, reduceIte, reduceCtorEq])|((with_reducible first|refine jW ?hy ?_|refine jY ?hy ?_);case hy=>rfl)|((with_reducible first|refine jX ?hy ?_|refine jZ ?hy ?_);case hy=>rfl)|((with_reducible refine jF ?hy ?_);case hy=>decide))
 exact hK
theorem node_no {K : Value → Heap → Prop} (hF : FAt H f p g A nb N) {i : Int} (hi : i < 1 ∨ A.get i.toNat = none) (hK : K (.pointer none) H) :
  CallsH Try.prog 67 #[.pointer (some ⟨f, 0, none⟩), .int .i64 i] H K := by
 have h0 := hF.ff.cellOf (i := 0) rfl
 refine call67 (by simp) ?_
 simp only [Try.f67, Option.getD_some]
 repeat' (first|(with_reducible first|refine jA ?_|(refine hK _ _ ?_;clear hK K)|refine jJ fun K hK=>?_|refine jK ?_|refine jL ?_|refine jM ?_|refine jN ?_|refine jO ?_|refine jP ?_|refine jQ ?_|(refine jB ?_;clear hK K)|(refine jC ?_;clear hK K)|refine jD ?_|refine jE ?_|refine jG ?_|refine jH ?_|refine jI ?_)|((with_reducible refine jR ?hq ?_);case hq=>rfl)|((first|(with_reducible first|refine jS fun K hK=>?_|refine jT ?_|refine jU ?_)|((with_reducible refine jV ?hy fun K hK=>?_);case hy=>rfl));simp only [go_sem, Nat.reduceEqDiff, Nat.reduceAdd, Nat.reduceMul, Nat.reduceLeDiff, Nat.reduceLT, Int.reduceLT, Int.reduceLE, Int.reduceEq, Int.reduceNeg, Int.reduceToNat, Nat.reducePow, reduceIte, reduceCtorEq, h0])|((with_reducible first|refine jW ?hy ?_|refine jY ?hy ?_);case hy=>rfl)|((with_reducible first|refine jX ?hy ?_|refine jZ ?hy ?_);case hy=>rfl)|((with_reducible refine jF ?hy ?_);case hy=>decide))
 refine ArQPtr.get_none hF.ar hi ?_
 repeat' (first|(with_reducible first|refine jA ?_|(refine hK _ _ ?_;clear hK K)|refine jJ fun K hK=>?_|refine jK ?_|refine jL ?_|refine jM ?_|refine jN ?_|refine jO ?_|refine jP ?_|refine jQ ?_|(refine jB ?_;clear hK K)|(refine jC ?_;clear hK K)|refine jD ?_|refine jE ?_|refine jG ?_|refine jH ?_|refine jI ?_)|((with_reducible refine jR ?hq ?_);case hq=>rfl)|((first|(with_reducible first|refine jS fun K hK=>?_|refine jT ?_|refine jU ?_)|((with_reducible refine jV ?hy fun K hK=>?_);case hy=>rfl));simp only [go_sem, Nat.reduceEqDiff, Nat.reduceAdd, Nat.reduceMul, Nat.reduceLeDiff, Nat.reduceLT, Int.reduceLT, Int.reduceLE, Int.reduceEq, Int.reduceNeg, Int.reduceToNat, Nat.reducePow, reduceIte, reduceCtorEq])|((with_reducible first|refine jW ?hy ?_|refine jY ?hy ?_);case hy=>rfl)|((with_reducible first|refine jX ?hy ?_|refine jZ ?hy ?_);case hy=>rfl)|((with_reducible refine jF ?hy ?_);case hy=>decide))
 exact hK
theorem own_ok {K : Value → Heap → Prop} {b : Nat} {r : Rec} (hb : Blk H b r.cells) (hK : ∀ H', Fr (fun _ => False) H H' → K (ownA r.item).val H') :
  CallsH Try.prog 65 #[.pointer (some ⟨b, 0, none⟩)] H K := by
 have hlt := hb.lt
 have hne : ¬ H.size = b := by omega
 have hne' : ¬ b = H.size := by omega
 have h0 := hb.cellOf (i := 0) rfl
 have h1 := hb.cellOf (i := 1) rfl
 have h2 := hb.cellOf (i := 2) rfl
 have e : (ownA r.item).val = if r.item.counts then .agg #[.int .i64 1, .int .i64 r.item.value, .int .i64 r.item.value, .int .i64 r.item.value, .int .i64 r.item.flags] else .agg #[.int .i64 0, .int .i64 0, .int .i64 0, .int .i64 0, .int .i64 r.item.flags] := by
  unfold ownA Agg.val; split <;> rfl
 rw [e] at hK
 refine call65 (by simp) ?_
 simp only [Try.f65, Option.getD_some]
 cases hc : r.item.counts
 ·rw [hc] at h1 hK
  simp only [Bool.false_eq_true, if_false] at hK
  repeat' (first|(with_reducible first|refine jA ?_|(refine hK _ _ ?_;clear hK K)|refine jJ fun K hK=>?_|refine jK ?_|refine jL ?_|refine jM ?_|refine jN ?_|refine jO ?_|refine jP ?_|refine jQ ?_|(refine jB ?_;clear hK K)|(refine jC ?_;clear hK K)|refine jD ?_|refine jE ?_|refine jG ?_|refine jH ?_|refine jI ?_)|((with_reducible refine jR ?hq ?_);case hq=>rfl)|((first|(with_reducible first|refine jS fun K hK=>?_|refine jT ?_|refine jU ?_)|((with_reducible refine jV ?hy fun K hK=>?_);case hy=>rfl));simp only [go_sem, Nat.reduceEqDiff, Nat.reduceAdd, Nat.reduceMul, Nat.reduceLeDiff, Nat.reduceLT, Int.reduceLT, Int.reduceLE, Int.reduceEq, Int.reduceNeg, Int.reduceToNat, Nat.reducePow, reduceIte, reduceCtorEq, h0, h1, h2, hlt, hne, hne', hcell_push, hcell_top, okW_push, okW_top, hcell_hset_ne, hcell_hset_off, hcell_hset_eq, okW_hset, hset_size, Array.size_push, Nat.lt_add_one, ne_add_one, add_one_ne, Nat.add_assoc, add_same, add_lt_same, Nat.reduceEqDiff, lt_add_k, add_k_ne, ne_add_k])|((with_reducible first|refine jW ?hy ?_|refine jY ?hy ?_);case hy=>rfl)|((with_reducible first|refine jX ?hy ?_|refine jZ ?hy ?_);case hy=>rfl)|((with_reducible refine jF ?hy ?_);case hy=>decide))
  exact hK _ (by ((repeat (first | refine Fr.set ?_ (by simp) _ | refine Fr.push ?_ _)); exact Fr.refl _ _))
 ·rw [hc] at h1 hK
  simp only [if_true] at hK
  repeat' (first|(with_reducible first|refine jA ?_|(refine hK _ _ ?_;clear hK K)|refine jJ fun K hK=>?_|refine jK ?_|refine jL ?_|refine jM ?_|refine jN ?_|refine jO ?_|refine jP ?_|refine jQ ?_|(refine jB ?_;clear hK K)|(refine jC ?_;clear hK K)|refine jD ?_|refine jE ?_|refine jG ?_|refine jH ?_|refine jI ?_)|((with_reducible refine jR ?hq ?_);case hq=>rfl)|((first|(with_reducible first|refine jS fun K hK=>?_|refine jT ?_|refine jU ?_)|((with_reducible refine jV ?hy fun K hK=>?_);case hy=>rfl));simp only [go_sem, Nat.reduceEqDiff, Nat.reduceAdd, Nat.reduceMul, Nat.reduceLeDiff, Nat.reduceLT, Int.reduceLT, Int.reduceLE, Int.reduceEq, Int.reduceNeg, Int.reduceToNat, Nat.reducePow, reduceIte, reduceCtorEq, h0, h1, h2, hlt, hne, hne', hcell_push, hcell_top, okW_push, okW_top, hcell_hset_ne, hcell_hset_off, hcell_hset_eq, okW_hset, hset_size, Array.size_push, Nat.lt_add_one, ne_add_one, add_one_ne, Nat.add_assoc, add_same, add_lt_same, Nat.reduceEqDiff, lt_add_k, add_k_ne, ne_add_k])|((with_reducible first|refine jW ?hy ?_|refine jY ?hy ?_);case hy=>rfl)|((with_reducible first|refine jX ?hy ?_|refine jZ ?hy ?_);case hy=>rfl)|((with_reducible refine jF ?hy ?_);case hy=>decide))
  exact hK _ (by ((repeat (first | refine Fr.set ?_ (by simp) _ | refine Fr.push ?_ _)); exact Fr.refl _ _))
theorem below_ok {K : Value → Heap → Prop} (hF : FAt H f p g A nb N) {k : Nat} (hk : k = 0 ∨ U A k) (hK : ∀ H', Fr (fun _ => False) H H' → K (.tuple #[.int .i64 (belowN N k).1, (belowN N k).2.val]) H') :
  CallsH Try.prog 74 #[.pointer (some ⟨f, 0, none⟩), .int .i64 k] H K := by
 refine call74 (by simp) ?_
 simp only [Try.f74, Option.getD_some]
 by_cases h0 : k = 0
 ·subst h0
  have e : belowN N 0 = (0, Agg.zero) := rfl
  rw [e] at hK
  have t1 : (((0 : Nat) : Int) == 0) = true := rfl
  repeat' (first|(with_reducible first|refine jA ?_|(refine hK _ _ ?_;clear hK K)|refine jJ fun K hK=>?_|refine jK ?_|refine jL ?_|refine jM ?_|refine jN ?_|refine jO ?_|refine jP ?_|refine jQ ?_|(refine jB ?_;clear hK K)|(refine jC ?_;clear hK K)|refine jD ?_|refine jE ?_|refine jG ?_|refine jH ?_|refine jI ?_)|((with_reducible refine jR ?hq ?_);case hq=>rfl)|((first|(with_reducible first|refine jS fun K hK=>?_|refine jT ?_|refine jU ?_)|((with_reducible refine jV ?hy fun K hK=>?_);case hy=>rfl));simp only [go_sem, Nat.reduceEqDiff, Nat.reduceAdd, Nat.reduceMul, Nat.reduceLeDiff, Nat.reduceLT, Int.reduceLT, Int.reduceLE, Int.reduceEq, Int.reduceNeg, Int.reduceToNat, Nat.reducePow, reduceIte, reduceCtorEq, t1, hcell_push, hcell_top, okW_push, okW_top, hcell_hset_ne, hcell_hset_off, hcell_hset_eq, okW_hset, hset_size, Array.size_push, Nat.lt_add_one, ne_add_one, add_one_ne, Nat.add_assoc, add_same, add_lt_same, Nat.reduceEqDiff, lt_add_k, add_k_ne, ne_add_k])|((with_reducible first|refine jW ?hy ?_|refine jY ?hy ?_);case hy=>rfl)|((with_reducible first|refine jX ?hy ?_|refine jZ ?hy ?_);case hy=>rfl)|((with_reducible refine jF ?hy ?_);case hy=>decide))
  exact hK _ (by ((repeat (first | refine Fr.set ?_ (by simp) _ | refine Fr.push ?_ _)); exact Fr.refl _ _))
 ·have hU := hk.resolve_left h0
  have e : belowN N k = ((N k).many, (N k).total) := if_neg h0
  rw [e] at hK
  have t1 : ((k : Int) == 0) = false := by simp [h0]
  have hF' := hF.grow (H' := H.push (.cells #[.int .i64 0, .int .i64 0, .int .i64 0, .int .i64 0, .int .i64 0] 57)) ((Fr.refl _ _).push _)
  have hn := hF.nd k hU
  have hlt := hn.lt
  have hne : ¬ H.size = nb k := by omega
  have hne' : ¬ nb k = H.size := by omega
  have c6 := hn.cellOf (i := 6) rfl
  have c7 := hn.cellOf (i := 7) rfl
  have c8 := hn.cellOf (i := 8) rfl
  have c9 := hn.cellOf (i := 9) rfl
  have c10 := hn.cellOf (i := 10) rfl
  have c11 := hn.cellOf (i := 11) rfl
  repeat' (first|(with_reducible first|refine jA ?_|(refine hK _ _ ?_;clear hK K)|refine jJ fun K hK=>?_|refine jK ?_|refine jL ?_|refine jM ?_|refine jN ?_|refine jO ?_|refine jP ?_|refine jQ ?_|(refine jB ?_;clear hK K)|(refine jC ?_;clear hK K)|refine jD ?_|refine jE ?_|refine jG ?_|refine jH ?_|refine jI ?_)|((with_reducible refine jR ?hq ?_);case hq=>rfl)|((first|(with_reducible first|refine jS fun K hK=>?_|refine jT ?_|refine jU ?_)|((with_reducible refine jV ?hy fun K hK=>?_);case hy=>rfl));simp only [go_sem, Nat.reduceEqDiff, Nat.reduceAdd, Nat.reduceMul, Nat.reduceLeDiff, Nat.reduceLT, Int.reduceLT, Int.reduceLE, Int.reduceEq, Int.reduceNeg, Int.reduceToNat, Nat.reducePow, reduceIte, reduceCtorEq, t1, hcell_push, hcell_top, okW_push, okW_top, hcell_hset_ne, hcell_hset_off, hcell_hset_eq, okW_hset, hset_size, Array.size_push, Nat.lt_add_one, ne_add_one, add_one_ne, Nat.add_assoc, add_same, add_lt_same, Nat.reduceEqDiff, lt_add_k, add_k_ne, ne_add_k])|((with_reducible first|refine jW ?hy ?_|refine jY ?hy ?_);case hy=>rfl)|((with_reducible first|refine jX ?hy ?_|refine jZ ?hy ?_);case hy=>rfl)|((with_reducible refine jF ?hy ?_);case hy=>decide))
  refine node_ok hF' hU ?_
  repeat' (first|(with_reducible first|refine jA ?_|(refine hK _ _ ?_;clear hK K)|refine jJ fun K hK=>?_|refine jK ?_|refine jL ?_|refine jM ?_|refine jN ?_|refine jO ?_|refine jP ?_|refine jQ ?_|(refine jB ?_;clear hK K)|(refine jC ?_;clear hK K)|refine jD ?_|refine jE ?_|refine jG ?_|refine jH ?_|refine jI ?_)|((with_reducible refine jR ?hq ?_);case hq=>rfl)|((first|(with_reducible first|refine jS fun K hK=>?_|refine jT ?_|refine jU ?_)|((with_reducible refine jV ?hy fun K hK=>?_);case hy=>rfl));simp only [go_sem, Nat.reduceEqDiff, Nat.reduceAdd, Nat.reduceMul, Nat.reduceLeDiff, Nat.reduceLT, Int.reduceLT, Int.reduceLE, Int.reduceEq, Int.reduceNeg, Int.reduceToNat, Nat.reducePow, reduceIte, reduceCtorEq, c6, c7, c8, c9, c10, c11, hlt, hne, hne', hcell_push, hcell_top, okW_push, okW_top, hcell_hset_ne, hcell_hset_off, hcell_hset_eq, okW_hset, hset_size, Array.size_push, Nat.lt_add_one, ne_add_one, add_one_ne, Nat.add_assoc, add_same, add_lt_same, Nat.reduceEqDiff, lt_add_k, add_k_ne, ne_add_k])|((with_reducible first|refine jW ?hy ?_|refine jY ?hy ?_);case hy=>rfl)|((with_reducible first|refine jX ?hy ?_|refine jZ ?hy ?_);case hy=>rfl)|((with_reducible refine jF ?hy ?_);case hy=>decide))
  exact hK _ (by ((repeat (first | refine Fr.set ?_ (by simp) _ | refine Fr.push ?_ _)); exact Fr.refl _ _))
theorem pull_ok {K : Value → Heap → Prop} (hF : FAt H f p g A nb N) {k : Nat} (hk : U A k) (hK : ∀ H', FAt H' f p g A nb (pullN N k) → Fr (NB A nb) H H' → K (.tuple #[]) H') :
  CallsH Try.prog 71 #[.pointer (some ⟨f, 0, none⟩), .int .i64 k] H K := by
 have hn := hF.nd k hk
 have c4 := hn.cellOf (i := 4) rfl
 have c5 := hn.cellOf (i := 5) rfl
 have hlt := hn.lt
 refine call71 (by simp) ?_
 simp only [Try.f71, Option.getD_some]
 repeat' (first|(with_reducible first|refine jA ?_|(refine hK _ _ ?_;clear hK K)|refine jJ fun K hK=>?_|refine jK ?_|refine jL ?_|refine jM ?_|refine jN ?_|refine jO ?_|refine jP ?_|refine jQ ?_|(refine jB ?_;clear hK K)|(refine jC ?_;clear hK K)|refine jD ?_|refine jE ?_|refine jG ?_|refine jH ?_|refine jI ?_)|((with_reducible refine jR ?hq ?_);case hq=>rfl)|((first|(with_reducible first|refine jS fun K hK=>?_|refine jT ?_|refine jU ?_)|((with_reducible refine jV ?hy fun K hK=>?_);case hy=>rfl));simp only [go_sem, Nat.reduceEqDiff, Nat.reduceAdd, Nat.reduceMul, Nat.reduceLeDiff, Nat.reduceLT, Int.reduceLT, Int.reduceLE, Int.reduceEq, Int.reduceNeg, Int.reduceToNat, Nat.reducePow, reduceIte, reduceCtorEq])|((with_reducible first|refine jW ?hy ?_|refine jY ?hy ?_);case hy=>rfl)|((with_reducible first|refine jX ?hy ?_|refine jZ ?hy ?_);case hy=>rfl)|((with_reducible refine jF ?hy ?_);case hy=>decide))
 refine node_ok hF hk ?_
 repeat' (first|(with_reducible first|refine jA ?_|(refine hK _ _ ?_;clear hK K)|refine jJ fun K hK=>?_|refine jK ?_|refine jL ?_|refine jM ?_|refine jN ?_|refine jO ?_|refine jP ?_|refine jQ ?_|(refine jB ?_;clear hK K)|(refine jC ?_;clear hK K)|refine jD ?_|refine jE ?_|refine jG ?_|refine jH ?_|refine jI ?_)|((with_reducible refine jR ?hq ?_);case hq=>rfl)|((first|(with_reducible first|refine jS fun K hK=>?_|refine jT ?_|refine jU ?_)|((with_reducible refine jV ?hy fun K hK=>?_);case hy=>rfl));simp only [go_sem, Nat.reduceEqDiff, Nat.reduceAdd, Nat.reduceMul, Nat.reduceLeDiff, Nat.reduceLT, Int.reduceLT, Int.reduceLE, Int.reduceEq, Int.reduceNeg, Int.reduceToNat, Nat.reducePow, reduceIte, reduceCtorEq, c4])|((with_reducible first|refine jW ?hy ?_|refine jY ?hy ?_);case hy=>rfl)|((with_reducible first|refine jX ?hy ?_|refine jZ ?hy ?_);case hy=>rfl)|((with_reducible refine jF ?hy ?_);case hy=>decide))
 refine below_ok hF (hF.cl.l k hk) ?_
 intro H1 hf1
 generalize ha : belowN N (N k).l = a
 have hs1 := hf1.size
 have c5' : hcell H1 ⟨nb k, 5, none⟩ = some (.int .i64 (N k).r) := by rw [hf1.cell (by exact hlt) (fun h => h)]; exact c5
 have hne : ¬ nb k = H1.size := by omega
 have hlt1 : nb k < H1.size := by omega
 repeat' (first|(with_reducible first|refine jA ?_|(refine hK _ _ ?_;clear hK K)|refine jJ fun K hK=>?_|refine jK ?_|refine jL ?_|refine jM ?_|refine jN ?_|refine jO ?_|refine jP ?_|refine jQ ?_|(refine jB ?_;clear hK K)|(refine jC ?_;clear hK K)|refine jD ?_|refine jE ?_|refine jG ?_|refine jH ?_|refine jI ?_)|((with_reducible refine jR ?hq ?_);case hq=>rfl)|((first|(with_reducible first|refine jS fun K hK=>?_|refine jT ?_|refine jU ?_)|((with_reducible refine jV ?hy fun K hK=>?_);case hy=>rfl));simp only [go_sem, Nat.reduceEqDiff, Nat.reduceAdd, Nat.reduceMul, Nat.reduceLeDiff, Nat.reduceLT, Int.reduceLT, Int.reduceLE, Int.reduceEq, Int.reduceNeg, Int.reduceToNat, Nat.reducePow, reduceIte, reduceCtorEq, Agg.val, c5', hne, hlt1, hcell_push, hcell_top, okW_push, okW_top, hcell_hset_ne, hcell_hset_off, hcell_hset_eq, okW_hset, hset_size, Array.size_push, Nat.lt_add_one, ne_add_one, add_one_ne, Nat.add_assoc, add_same, add_lt_same, Nat.reduceEqDiff, lt_add_k, add_k_ne, ne_add_k])|((with_reducible first|refine jW ?hy ?_|refine jY ?hy ?_);case hy=>rfl)|((with_reducible first|refine jX ?hy ?_|refine jZ ?hy ?_);case hy=>rfl)|((with_reducible refine jF ?hy ?_);case hy=>decide))
 generalize hH2 : hset _ _ _ = H2
 have hf2 : Fr (fun _ => False) H1 H2 := by rw [← hH2]; exact (by ((repeat (first | refine Fr.set ?_ (by simp) _ | refine Fr.push ?_ _)); exact Fr.refl _ _))
 have q1 : Cells [(H1.size, 0, .int .i64 a.2.count), (H1.size, 1, .int .i64 a.2.sum), (H1.size, 2, .int .i64 a.2.least), (H1.size, 3, .int .i64 a.2.most), (H1.size, 4, .int .i64 a.2.flags)] H2 := by
  rw [← hH2]
  simp only [go_sem, Nat.reduceEqDiff, Nat.reduceAdd, Nat.reduceMul, Nat.reduceLeDiff, Nat.reduceLT, Int.reduceLT, Int.reduceLE, Int.reduceEq, Int.reduceNeg, Int.reduceToNat, Nat.reducePow, reduceIte, reduceCtorEq, Cells, and_true, hcell_push, hcell_top, okW_push, okW_top, hcell_hset_ne, hcell_hset_off, hcell_hset_eq, okW_hset, hset_size, Array.size_push, Nat.lt_add_one, ne_add_one, add_one_ne, Nat.add_assoc, add_same, add_lt_same, Nat.reduceEqDiff, lt_add_k, add_k_ne, ne_add_k]
 have hF2 := (hF.grow hf1).grow hf2
 have hs2 : H1.size < H2.size := by rw [← hH2]; simp only [go_sem, Nat.reduceEqDiff, Nat.reduceAdd, Nat.reduceMul, Nat.reduceLeDiff, Nat.reduceLT, Int.reduceLT, Int.reduceLE, Int.reduceEq, Int.reduceNeg, Int.reduceToNat, Nat.reducePow, reduceIte, reduceCtorEq, hcell_push, hcell_top, okW_push, okW_top, hcell_hset_ne, hcell_hset_off, hcell_hset_eq, okW_hset, hset_size, Array.size_push, Nat.lt_add_one, ne_add_one, add_one_ne, Nat.add_assoc, add_same, add_lt_same, Nat.reduceEqDiff, lt_add_k, add_k_ne, ne_add_k]
 clear hH2
 refine below_ok hF2 (hF2.cl.r k hk) ?_
 intro H3 hf3
 generalize hb : belowN N (N k).r = b
 have hs3 := hf3.size
 have q3 := q1.grow hf3
 have hF3 := hF2.grow hf3
 have hn3 := hF3.nd k hk
 have w6 := hn3.okW (i := 6) (by simp [Rec.cells])
 have hne3 : ¬ nb k = H3.size := by omega
 have hne3' : ¬ H3.size = nb k := by omega
 have hlt3 : nb k < H3.size := by omega
 have hnt : ¬ H1.size = H3.size := by omega
 have hnt1 : H1.size < H3.size := by omega
 have hnt2 : ¬ H1.size = nb k := by omega
 simp only [Cells, and_true] at q3
 repeat' (first|(with_reducible first|refine jA ?_|(refine hK _ _ ?_;clear hK K)|refine jJ fun K hK=>?_|refine jK ?_|refine jL ?_|refine jM ?_|refine jN ?_|refine jO ?_|refine jP ?_|refine jQ ?_|(refine jB ?_;clear hK K)|(refine jC ?_;clear hK K)|refine jD ?_|refine jE ?_|refine jG ?_|refine jH ?_|refine jI ?_)|((with_reducible refine jR ?hq ?_);case hq=>rfl)|((first|(with_reducible first|refine jS fun K hK=>?_|refine jT ?_|refine jU ?_)|((with_reducible refine jV ?hy fun K hK=>?_);case hy=>rfl));simp only [go_sem, Nat.reduceEqDiff, Nat.reduceAdd, Nat.reduceMul, Nat.reduceLeDiff, Nat.reduceLT, Int.reduceLT, Int.reduceLE, Int.reduceEq, Int.reduceNeg, Int.reduceToNat, Nat.reducePow, reduceIte, reduceCtorEq, Agg.val, hne3, hne3', hlt3, w6, hcell_push, hcell_top, okW_push, okW_top, hcell_hset_ne, hcell_hset_off, hcell_hset_eq, okW_hset, hset_size, Array.size_push, Nat.lt_add_one, ne_add_one, add_one_ne, Nat.add_assoc, add_same, add_lt_same, Nat.reduceEqDiff, lt_add_k, add_k_ne, ne_add_k])|((with_reducible first|refine jW ?hy ?_|refine jY ?hy ?_);case hy=>rfl)|((with_reducible first|refine jX ?hy ?_|refine jZ ?hy ?_);case hy=>rfl)|((with_reducible refine jF ?hy ?_);case hy=>decide))
 generalize hH4 : hset _ _ _ = H4
 have hf4 : Fr (· = nb k) H3 H4 := by rw [← hH4]; exact (by ((repeat (first | refine Fr.set ?_ (by simp) _ | refine Fr.push ?_ _)); exact Fr.refl _ _))
 have q4 : Cells [(H1.size, 0, .int .i64 a.2.count), (H1.size, 1, .int .i64 a.2.sum), (H1.size, 2, .int .i64 a.2.least), (H1.size, 3, .int .i64 a.2.most), (H1.size, 4, .int .i64 a.2.flags),
  (H3.size, 0, .int .i64 b.2.count), (H3.size, 1, .int .i64 b.2.sum), (H3.size, 2, .int .i64 b.2.least), (H3.size, 3, .int .i64 b.2.most), (H3.size, 4, .int .i64 b.2.flags)] H4 := by
  rw [← hH4]
  simp only [go_sem, Nat.reduceEqDiff, Nat.reduceAdd, Nat.reduceMul, Nat.reduceLeDiff, Nat.reduceLT, Int.reduceLT, Int.reduceLE, Int.reduceEq, Int.reduceNeg, Int.reduceToNat, Nat.reducePow, reduceIte, reduceCtorEq, Cells, and_true, q3, hne3, hne3', hnt, hnt1, hnt2, hlt3, hcell_push, hcell_top, okW_push, okW_top, hcell_hset_ne, hcell_hset_off, hcell_hset_eq, okW_hset, hset_size, Array.size_push, Nat.lt_add_one, ne_add_one, add_one_ne, Nat.add_assoc, add_same, add_lt_same, Nat.reduceEqDiff, lt_add_k, add_k_ne, ne_add_k]
 have hb4 : Blk H4 (nb k) ({ N k with many := w64 (w64 (a.1 + 1) + b.1) } : Rec).cells := by
  rw [← hH4]
  exact ((((((hn3.push _).set_ne hne3 _).set_ne hne3 _).set_ne hne3 _).set_ne hne3 _).set_ne hne3 _).set_same 6 _
 clear hH4
 refine x_drawS [7, 8, 9] [0, 1, 2, 5, 3, 4, 6, 7, 8, 9] rfl (by kernel_rfl) (Cells _) q4 ?_
 repeat' (first|(with_reducible refine xs_nil ?_)|((first|((with_reducible apply xs_rd);case hi=>rfl)|((with_reducible apply xs_guard_yes);(case hi=>rfl);(case hy=>rfl)));(case hr=>rfl);(case h1=>intro H' hS'; (try simp only [Cells, and_true] at hS');simp only [go_sem, Nat.reduceEqDiff, Nat.reduceAdd, Nat.reduceMul, Nat.reduceLeDiff, Nat.reduceLT, Int.reduceLT, Int.reduceLE, Int.reduceEq, Int.reduceNeg, Int.reduceToNat, Nat.reducePow, reduceIte, reduceCtorEq, hS']; rfl))|((with_reducible refine xs_tail ?hz ?_);case hz=>rfl)|((with_reducible refine xs_keep ?hz ?_);case hz=>first|(with_reducible assumption)|assumption|(simp only [go_sem, Nat.reduceEqDiff, Nat.reduceAdd, Nat.reduceMul, Nat.reduceLeDiff, Nat.reduceLT, Int.reduceLT, Int.reduceLE, Int.reduceEq, Int.reduceNeg, Int.reduceToNat, Nat.reducePow, reduceIte, reduceCtorEq, Cells, and_true]))|((with_reducible apply xs_guard_no);(case hi=>rfl);(case hy=>rfl);(case hS=>assumption))|((first|((with_reducible apply xs_op);(case hi=>rfl))|((with_reducible apply xs_op_yes);(case hi=>rfl);(case hy=>rfl)));(case hr=>rfl);intro K hK; simp only [go_sem, Nat.reduceEqDiff, Nat.reduceAdd, Nat.reduceMul, Nat.reduceLeDiff, Nat.reduceLT, Int.reduceLT, Int.reduceLE, Int.reduceEq, Int.reduceNeg, Int.reduceToNat, Nat.reducePow, reduceIte, reduceCtorEq])|(with_reducible first|refine jA ?_|(refine hK _ _ ?_;clear hK K)|refine jJ fun K hK=>?_|refine jK ?_|refine jL ?_|refine jM ?_|refine jN ?_|refine jO ?_|refine jP ?_|refine jQ ?_|(refine jB ?_;clear hK K)|(refine jC ?_;clear hK K)|refine jD ?_|refine jE ?_|refine jG ?_|refine jH ?_|refine jI ?_)|((with_reducible refine jR ?hq ?_);case hq=>rfl)|((first|(with_reducible first|refine jS fun K hK=>?_|refine jT ?_|refine jU ?_)|((with_reducible refine jV ?hy fun K hK=>?_);case hy=>rfl));simp only [go_sem, Nat.reduceEqDiff, Nat.reduceAdd, Nat.reduceMul, Nat.reduceLeDiff, Nat.reduceLT, Int.reduceLT, Int.reduceLE, Int.reduceEq, Int.reduceNeg, Int.reduceToNat, Nat.reducePow, reduceIte, reduceCtorEq])|((with_reducible first|refine jW ?hy ?_|refine jY ?hy ?_);case hy=>rfl)|((with_reducible first|refine jX ?hy ?_|refine jZ ?hy ?_);case hy=>rfl)|((with_reducible refine jF ?hy ?_);case hy=>decide))
 refine own_ok hb4 ?_
 intro H5 hf5
 have q5 := q4.grow hf5
 repeat' (first|(with_reducible refine xs_nil ?_)|((first|((with_reducible apply xs_rd);case hi=>rfl)|((with_reducible apply xs_guard_yes);(case hi=>rfl);(case hy=>rfl)));(case hr=>rfl);(case h1=>intro H' hS'; (try simp only [Cells, and_true] at hS');simp only [go_sem, Nat.reduceEqDiff, Nat.reduceAdd, Nat.reduceMul, Nat.reduceLeDiff, Nat.reduceLT, Int.reduceLT, Int.reduceLE, Int.reduceEq, Int.reduceNeg, Int.reduceToNat, Nat.reducePow, reduceIte, reduceCtorEq, hS']; rfl))|((with_reducible refine xs_tail ?hz ?_);case hz=>rfl)|((with_reducible refine xs_keep ?hz ?_);case hz=>first|(with_reducible assumption)|assumption|(simp only [go_sem, Nat.reduceEqDiff, Nat.reduceAdd, Nat.reduceMul, Nat.reduceLeDiff, Nat.reduceLT, Int.reduceLT, Int.reduceLE, Int.reduceEq, Int.reduceNeg, Int.reduceToNat, Nat.reducePow, reduceIte, reduceCtorEq, Cells, and_true]))|((with_reducible apply xs_guard_no);(case hi=>rfl);(case hy=>rfl);(case hS=>assumption))|((first|((with_reducible apply xs_op);(case hi=>rfl))|((with_reducible apply xs_op_yes);(case hi=>rfl);(case hy=>rfl)));(case hr=>rfl);intro K hK; simp only [go_sem, Nat.reduceEqDiff, Nat.reduceAdd, Nat.reduceMul, Nat.reduceLeDiff, Nat.reduceLT, Int.reduceLT, Int.reduceLE, Int.reduceEq, Int.reduceNeg, Int.reduceToNat, Nat.reducePow, reduceIte, reduceCtorEq])|(with_reducible first|refine jA ?_|(refine hK _ _ ?_;clear hK K)|refine jJ fun K hK=>?_|refine jK ?_|refine jL ?_|refine jM ?_|refine jN ?_|refine jO ?_|refine jP ?_|refine jQ ?_|(refine jB ?_;clear hK K)|(refine jC ?_;clear hK K)|refine jD ?_|refine jE ?_|refine jG ?_|refine jH ?_|refine jI ?_)|((with_reducible refine jR ?hq ?_);case hq=>rfl)|((first|(with_reducible first|refine jS fun K hK=>?_|refine jT ?_|refine jU ?_)|((with_reducible refine jV ?hy fun K hK=>?_);case hy=>rfl));simp only [go_sem, Nat.reduceEqDiff, Nat.reduceAdd, Nat.reduceMul, Nat.reduceLeDiff, Nat.reduceLT, Int.reduceLT, Int.reduceLE, Int.reduceEq, Int.reduceNeg, Int.reduceToNat, Nat.reducePow, reduceIte, reduceCtorEq])|((with_reducible first|refine jW ?hy ?_|refine jY ?hy ?_);case hy=>rfl)|((with_reducible first|refine jX ?hy ?_|refine jZ ?hy ?_);case hy=>rfl)|((with_reducible refine jF ?hy ?_);case hy=>decide))
 refine plus_ok (a := a.2) (b := ownA (N k).item) ?_
 intro H6 hf6
 have q6 := q5.grow hf6
 repeat' (first|(with_reducible refine xs_nil ?_)|((first|((with_reducible apply xs_rd);case hi=>rfl)|((with_reducible apply xs_guard_yes);(case hi=>rfl);(case hy=>rfl)));(case hr=>rfl);(case h1=>intro H' hS'; (try simp only [Cells, and_true] at hS');simp only [go_sem, Nat.reduceEqDiff, Nat.reduceAdd, Nat.reduceMul, Nat.reduceLeDiff, Nat.reduceLT, Int.reduceLT, Int.reduceLE, Int.reduceEq, Int.reduceNeg, Int.reduceToNat, Nat.reducePow, reduceIte, reduceCtorEq, hS']; rfl))|((with_reducible refine xs_tail ?hz ?_);case hz=>rfl)|((with_reducible refine xs_keep ?hz ?_);case hz=>first|(with_reducible assumption)|assumption|(simp only [go_sem, Nat.reduceEqDiff, Nat.reduceAdd, Nat.reduceMul, Nat.reduceLeDiff, Nat.reduceLT, Int.reduceLT, Int.reduceLE, Int.reduceEq, Int.reduceNeg, Int.reduceToNat, Nat.reducePow, reduceIte, reduceCtorEq, Cells, and_true]))|((with_reducible apply xs_guard_no);(case hi=>rfl);(case hy=>rfl);(case hS=>assumption))|((first|((with_reducible apply xs_op);(case hi=>rfl))|((with_reducible apply xs_op_yes);(case hi=>rfl);(case hy=>rfl)));(case hr=>rfl);intro K hK; simp only [go_sem, Nat.reduceEqDiff, Nat.reduceAdd, Nat.reduceMul, Nat.reduceLeDiff, Nat.reduceLT, Int.reduceLT, Int.reduceLE, Int.reduceEq, Int.reduceNeg, Int.reduceToNat, Nat.reducePow, reduceIte, reduceCtorEq])|(with_reducible first|refine jA ?_|(refine hK _ _ ?_;clear hK K)|refine jJ fun K hK=>?_|refine jK ?_|refine jL ?_|refine jM ?_|refine jN ?_|refine jO ?_|refine jP ?_|refine jQ ?_|(refine jB ?_;clear hK K)|(refine jC ?_;clear hK K)|refine jD ?_|refine jE ?_|refine jG ?_|refine jH ?_|refine jI ?_)|((with_reducible refine jR ?hq ?_);case hq=>rfl)|((first|(with_reducible first|refine jS fun K hK=>?_|refine jT ?_|refine jU ?_)|((with_reducible refine jV ?hy fun K hK=>?_);case hy=>rfl));simp only [go_sem, Nat.reduceEqDiff, Nat.reduceAdd, Nat.reduceMul, Nat.reduceLeDiff, Nat.reduceLT, Int.reduceLT, Int.reduceLE, Int.reduceEq, Int.reduceNeg, Int.reduceToNat, Nat.reducePow, reduceIte, reduceCtorEq])|((with_reducible first|refine jW ?hy ?_|refine jY ?hy ?_);case hy=>rfl)|((with_reducible first|refine jX ?hy ?_|refine jZ ?hy ?_);case hy=>rfl)|((with_reducible refine jF ?hy ?_);case hy=>decide))
 refine plus_ok (a := plusA a.2 (ownA (N k).item)) (b := b.2) ?_
 intro H7 hf7
 have q7 := q6.grow hf7
 have hf47 := (hf5.trans hf6).trans hf7
 have hb7 := hb4.frame hf47 (fun h => h)
 have w7 := hb7.okW (i := 7) (by simp [Rec.cells])
 have w8 := hb7.okW (i := 8) (by simp [Rec.cells])
 have w9 := hb7.okW (i := 9) (by simp [Rec.cells])
 have w10 := hb7.okW (i := 10) (by simp [Rec.cells])
 have w11 := hb7.okW (i := 11) (by simp [Rec.cells])
 repeat' (first|(with_reducible refine xs_nil ?_)|((first|((with_reducible apply xs_rd);case hi=>rfl)|((with_reducible apply xs_guard_yes);(case hi=>rfl);(case hy=>rfl)));(case hr=>rfl);(case h1=>intro H' hS'; (try simp only [Cells, and_true] at hS');simp only [go_sem, Nat.reduceEqDiff, Nat.reduceAdd, Nat.reduceMul, Nat.reduceLeDiff, Nat.reduceLT, Int.reduceLT, Int.reduceLE, Int.reduceEq, Int.reduceNeg, Int.reduceToNat, Nat.reducePow, reduceIte, reduceCtorEq, Agg.val, w7, w8, w9, w10, w11, okW_hset, hS']; rfl))|((with_reducible refine xs_tail ?hz ?_);case hz=>rfl)|((with_reducible refine xs_keep ?hz ?_);case hz=>first|(with_reducible assumption)|assumption|(simp only [go_sem, Nat.reduceEqDiff, Nat.reduceAdd, Nat.reduceMul, Nat.reduceLeDiff, Nat.reduceLT, Int.reduceLT, Int.reduceLE, Int.reduceEq, Int.reduceNeg, Int.reduceToNat, Nat.reducePow, reduceIte, reduceCtorEq, Cells, and_true, Agg.val, w7, w8, w9, w10, w11, okW_hset]))|((with_reducible apply xs_guard_no);(case hi=>rfl);(case hy=>rfl);(case hS=>assumption))|((first|((with_reducible apply xs_op);(case hi=>rfl))|((with_reducible apply xs_op_yes);(case hi=>rfl);(case hy=>rfl)));(case hr=>rfl);intro K hK; simp only [go_sem, Nat.reduceEqDiff, Nat.reduceAdd, Nat.reduceMul, Nat.reduceLeDiff, Nat.reduceLT, Int.reduceLT, Int.reduceLE, Int.reduceEq, Int.reduceNeg, Int.reduceToNat, Nat.reducePow, reduceIte, reduceCtorEq, Agg.val, w7, w8, w9, w10, w11, okW_hset])|(with_reducible first|refine jA ?_|(refine hK _ _ ?_;clear hK K)|refine jJ fun K hK=>?_|refine jK ?_|refine jL ?_|refine jM ?_|refine jN ?_|refine jO ?_|refine jP ?_|refine jQ ?_|(refine jB ?_;clear hK K)|(refine jC ?_;clear hK K)|refine jD ?_|refine jE ?_|refine jG ?_|refine jH ?_|refine jI ?_)|((with_reducible refine jR ?hq ?_);case hq=>rfl)|((first|(with_reducible first|refine jS fun K hK=>?_|refine jT ?_|refine jU ?_)|((with_reducible refine jV ?hy fun K hK=>?_);case hy=>rfl));simp only [go_sem, Nat.reduceEqDiff, Nat.reduceAdd, Nat.reduceMul, Nat.reduceLeDiff, Nat.reduceLT, Int.reduceLT, Int.reduceLE, Int.reduceEq, Int.reduceNeg, Int.reduceToNat, Nat.reducePow, reduceIte, reduceCtorEq, Agg.val, w7, w8, w9, w10, w11, okW_hset])|((with_reducible first|refine jW ?hy ?_|refine jY ?hy ?_);case hy=>rfl)|((with_reducible first|refine jX ?hy ?_|refine jZ ?hy ?_);case hy=>rfl)|((with_reducible refine jF ?hy ?_);case hy=>decide))
 have hb8 := ((((hb7.set_same 7 (.int .i64 (pullR N k).total.count)).set_same 8 (.int .i64 (pullR N k).total.sum)).set_same 9 (.int .i64 (pullR N k).total.least)).set_same 10 (.int .i64 (pullR N k).total.most)).set_same 11 (.int .i64 (pullR N k).total.flags)
 have hfr : Fr (· = nb k) H (hset (hset (hset (hset (hset H7 ⟨nb k, 7, none⟩ (.int .i64 (pullR N k).total.count)) ⟨nb k, 8, none⟩ (.int .i64 (pullR N k).total.sum)) ⟨nb k, 9, none⟩ (.int .i64 (pullR N k).total.least)) ⟨nb k, 10, none⟩ (.int .i64 (pullR N k).total.most)) ⟨nb k, 11, none⟩ (.int .i64 (pullR N k).total.flags)) := by
  have step : ∀ {H' : Heap} (o : Nat) (v : Value), Fr (· = nb k) H H' → Fr (· = nb k) H (hset H' ⟨nb k, o, none⟩ v) := fun o v h => Fr.set (S := (· = nb k)) (a := ⟨nb k, o, none⟩) h (.inl rfl) v
  refine step 11 _ (step 10 _ (step 9 _ (step 8 _ (step 7 _ ?_))))
  exact ((((hf1.trans hf2).trans hf3).mono fun b _ h => h.elim).trans hf4).trans (hf47.mono fun b _ h => h.elim)
 have hT : (pullR N k).total = plusA (plusA a.2 (ownA (N k).item)) b.2 := by rw [← ha, ← hb]; rfl
 have hfin := hF.set hk hfr (r := pullR N k) (by
  have e : (pullR N k).many = w64 (w64 (a.1 + 1) + b.1) := by rw [← ha, ← hb]; rfl
  have e2 : (pullR N k).cells = [.int .i64 (N k).item.value, .bool (N k).item.counts, .int .i64 (N k).item.flags, .int .i64 (N k).up, .int .i64 (N k).l, .int .i64 (N k).r, .int .i64 (pullR N k).many,
   .int .i64 (pullR N k).total.count, .int .i64 (pullR N k).total.sum, .int .i64 (pullR N k).total.least, .int .i64 (pullR N k).total.most, .int .i64 (pullR N k).total.flags] := rfl
  rw [e2, e]
  exact hb8) (hF.cl.pull hk)
 have hnb := NB.of hk hfr
 rw [hT] at hfin hnb
 exact hK _ hfin hnb
end
end Go.Proofs.Ytnlafhnbakipmaa
