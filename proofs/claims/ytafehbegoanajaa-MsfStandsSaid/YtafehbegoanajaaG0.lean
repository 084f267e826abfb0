/-
  Linked trees as plain nodes, and what each inner function of the package does to them.
  Graphs by their edges: ways, components and their least vertices, how many there are. Plain.
  What the parts of a graph need: functions as rows; edges' ends. Plain.
  Parts: each vertex' least one, by lowering both ends of each edge until nothing changes.
  slices.Sort over this program: the laying of the library's contract (printed by the kit's lay-plain; the numbers are those of the seat of law07 alone).
  Linked trees in memory: turn, has, top, heavier, pull, push.
  Linked trees in memory: top, heavier, pull, push, slices.Index, rotate.
  Linked trees in memory: pull, push, slices.Index over two, rotate.
-/
import Derived.Test.YtafehbegoanajaaHpX
import Derived.Test.YtafehbegoanajaaTabM
import Derived.Test.YtafehbegoanajaaHpCR
import Derived.Test.YtafehbegoanajaaHpV
import Derived.Shelf.Sort.AssemblyIn
import Derived.Test.YtafehbegoanajaaHpL
import Derived.Test.YtafehbegoanajaaHpFk
import Derived.Test.YtafehbegoanajaaHpMa
namespace Go.Li
open Go Go.Hp
set_option linter.unusedVariables false

structure Ed where
 id : Int
 u : Int
 v : Int
 w : Int
 deriving DecidableEq
def Ed.zero : Ed := ⟨0, 0, 0, 0⟩
def Ed.val (x : Ed) : Value := .agg #[.int .i64 x.id, .int .i64 x.u, .int .i64 x.v, .int .i64 x.w]
def Ed.cells (x : Ed) : List Value := [.int .i64 x.id, .int .i64 x.u, .int .i64 x.v, .int .i64 x.w]
def heavy (a b : Ed) : Bool := decide (a.w > b.w) || (decide (a.w = b.w) && decide (a.id > b.id))
structure Nd where
 up : Nat
 l : Nat
 r : Nat
 turned : Bool
 isEdge : Bool
 e : Ed
 best : Nat
def Nd.zero : Nd := ⟨0, 0, 0, false, false, Ed.zero, 0⟩
def Nd.cells (x : Nd) : List Value :=
 [.int .i64 x.up, .int .i64 x.l, .int .i64 x.r, .bool x.turned, .bool x.isEdge, .int .i64 x.e.id, .int .i64 x.e.u, .int .i64 x.e.v, .int .i64 x.e.w, .int .i64 x.best]
def Nd.kid (r : Nd) (s : Bool) : Nat := if s then r.r else r.l
def Nd.setKid (r : Nd) (s : Bool) (x : Nat) : Nd := if s then { r with r := x } else { r with l := x }
def Nd.flip (r : Nd) : Nd := { r with l := r.r, r := r.l, turned := !r.turned }
abbrev Nodes := Nat → Nd
def upd (N : Nodes) (h : Nat) (r : Nd) : Nodes := fun i => if i = h then r else N i
theorem upd_same (N : Nodes) (h : Nat) (r : Nd) : upd N h r h = r := if_pos rfl
theorem upd_ne (N : Nodes) {h i : Nat} (r : Nd) (hi : i ≠ h) : upd N h r i = N i := if_neg hi
def heavN (N : Nodes) (a b : Nat) : Nat := if a = 0 then b else if b = 0 then a else if heavy (N a).e (N b).e then a else b
def pull1 (N : Nodes) (h : Nat) : Nodes := upd N h { N h with best := heavN N (N (N h).l).best (N (N h).r).best }
def pullN (N : Nodes) (h : Nat) : Nodes := if (N h).isEdge then upd (pull1 N h) h { pull1 N h h with best := heavN (pull1 N h) (pull1 N h h).best h } else pull1 N h
def flipK (N : Nodes) (k : Nat) : Nodes := if k = 0 then N else upd N k (N k).flip
def pushN (N : Nodes) (h : Nat) : Nodes := if (N h).turned then flipK (flipK (upd N h { N h with turned := false }) (N h).l) (N h).r else N
def hasK (r : Nd) (h : Nat) : Bool := decide (r.l = h) || decide (r.r = h)
def topB (N : Nodes) (h : Nat) : Bool := decide ((N h).up = 0) || !hasK (N (N h).up) h
def sideN (N : Nodes) (up h : Nat) : Bool := decide ((N up).r = h)
def Nd.swap (r : Nd) (x h : Nat) : Nd := if r.l = x then { r with l := h } else { r with r := h }
def rot1 (N : Nodes) (up h : Nat) : Nodes := if topB N up then N else upd N (N up).up ((N (N up).up).swap up h)
def rot2 (N : Nodes) (up h : Nat) : Nodes := upd (rot1 N up h) h { rot1 N up h h with up := (rot1 N up h up).up }
def rot3 (N : Nodes) (up h : Nat) (s : Bool) (k : Nat) : Nodes := upd (rot2 N up h) up ((rot2 N up h up).setKid s k)
def rot4 (N : Nodes) (up h : Nat) (s : Bool) (k : Nat) : Nodes := if k = 0 then rot3 N up h s k else upd (rot3 N up h s k) k { rot3 N up h s k k with up := up }
def rot5 (N : Nodes) (up h : Nat) (s : Bool) (k : Nat) : Nodes := upd (rot4 N up h s k) h ((rot4 N up h s k h).setKid (!s) up)
def rot6 (N : Nodes) (up h : Nat) (s : Bool) (k : Nat) : Nodes := upd (rot5 N up h s k) up { rot5 N up h s k up with up := h }
def rotN (N : Nodes) (h : Nat) : Nodes :=
 pullN (pullN (rot6 N (N h).up h (sideN N (N h).up h) ((rot2 N (N h).up h h).kid (!sideN N (N h).up h))) (N h).up) h
structure Cl (len : Nat) (N : Nodes) : Prop where
 up : ∀ h, h < len → (N h).up < len
 l : ∀ h, h < len → (N h).l < len
 r : ∀ h, h < len → (N h).r < len
 best : ∀ h, h < len → (N h).best < len
theorem Cl.upd {len : Nat} {N : Nodes} (h : Cl len N) {i : Nat} {r : Nd} (h1 : r.up < len) (h2 : r.l < len) (h3 : r.r < len) (h4 : r.best < len) : Cl len (upd N i r) where
 up := fun k hk => by unfold Li.upd; split; exact h1; exact h.up k hk
 l := fun k hk => by unfold Li.upd; split; exact h2; exact h.l k hk
 r := fun k hk => by unfold Li.upd; split; exact h3; exact h.r k hk
 best := fun k hk => by unfold Li.upd; split; exact h4; exact h.best k hk
theorem Cl.kid {len : Nat} {N : Nodes} (h : Cl len N) {k : Nat} {s : Bool} (hk : k < len) : (N k).kid s < len := by
 unfold Nd.kid
 split
 ·exact h.r k hk
 ·exact h.l k hk
theorem heavN_lt {len : Nat} {N : Nodes} {a b : Nat} (ha : a < len) (hb : b < len) : heavN N a b < len := by
 unfold heavN
 split
 ·exact hb
 ·split
  ·exact ha
  ·split
   ·exact ha
   ·exact hb
theorem Cl.pull1 {len : Nat} {N : Nodes} (h : Cl len N) {k : Nat} (hk : k < len) : Cl len (pull1 N k) :=
 h.upd (h.up k hk) (h.l k hk) (h.r k hk) (heavN_lt (h.best _ (h.l k hk)) (h.best _ (h.r k hk)))
theorem Cl.pull {len : Nat} {N : Nodes} (h : Cl len N) {k : Nat} (hk : k < len) : Cl len (pullN N k) := by
 have h1 := h.pull1 hk
 unfold pullN
 split
 ·exact h1.upd (h1.up k hk) (h1.l k hk) (h1.r k hk) (heavN_lt (h1.best k hk) hk)
 ·exact h1
theorem Cl.flipK {len : Nat} {N : Nodes} (h : Cl len N) {k : Nat} (hk : k < len) : Cl len (flipK N k) := by
 unfold Li.flipK
 split
 ·exact h
 ·exact h.upd (h.up k hk) (h.r k hk) (h.l k hk) (h.best k hk)
theorem Cl.push {len : Nat} {N : Nodes} (h : Cl len N) {k : Nat} (hk : k < len) : Cl len (pushN N k) := by
 unfold pushN
 split
 ·have h1 : Cl len (Li.upd N k { N k with turned := false }) := h.upd (h.up k hk) (h.l k hk) (h.r k hk) (h.best k hk)
  exact (h1.flipK (h.l k hk)).flipK (h.r k hk)
 ·exact h
theorem Cl.setKid {len : Nat} {N : Nodes} (h : Cl len N) {k x : Nat} {s : Bool} (hk : k < len) (hx : x < len) : Cl len (Li.upd N k ((N k).setKid s x)) := by
 unfold Nd.setKid
 split
 ·exact h.upd (h.up k hk) (h.l k hk) hx (h.best k hk)
 ·exact h.upd (h.up k hk) hx (h.r k hk) (h.best k hk)
theorem Cl.setUp {len : Nat} {N : Nodes} (h : Cl len N) {k x : Nat} (hk : k < len) (hx : x < len) : Cl len (Li.upd N k { N k with up := x }) := h.upd hx (h.l k hk) (h.r k hk) (h.best k hk)
theorem Cl.rot1 {len : Nat} {N : Nodes} (h : Cl len N) {up k : Nat} (hu : up < len) (hk : k < len) : Cl len (rot1 N up k) := by
 unfold Li.rot1
 split
 ·exact h
 ·have ht := h.up up hu
  unfold Nd.swap
  split
  ·exact h.upd (h.up _ ht) hk (h.r _ ht) (h.best _ ht)
  ·exact h.upd (h.up _ ht) (h.l _ ht) hk (h.best _ ht)
theorem Cl.rot2 {len : Nat} {N : Nodes} (h : Cl len N) {up k : Nat} (hu : up < len) (hk : k < len) : Cl len (rot2 N up k) := by
 have h1 := h.rot1 hu hk
 exact h1.setUp hk (h1.up up hu)
theorem Cl.rot4 {len : Nat} {N : Nodes} (h : Cl len N) {up k x : Nat} {s : Bool} (hu : up < len) (hk : k < len) (hx : x < len) : Cl len (rot4 N up k s x) := by
 have h3 := (h.rot2 hu hk).setKid (s := s) hu hx
 unfold Li.rot4
 split
 ·exact h3
 ·exact h3.setUp hx hu
theorem Cl.rot6 {len : Nat} {N : Nodes} (h : Cl len N) {up k x : Nat} {s : Bool} (hu : up < len) (hk : k < len) (hx : x < len) : Cl len (rot6 N up k s x) :=
 (((h.rot4 (s := s) hu hk hx).setKid (s := !s) hk hu).setUp hu hk)
theorem Cl.rot {len : Nat} {N : Nodes} (h : Cl len N) {k : Nat} (hk : k < len) : Cl len (rotN N k) := by
 have hu := h.up k hk
 unfold rotN
 exact ((h.rot6 hu hk ((h.rot2 hu hk).kid hk)).pull hu).pull hk
def rowsN (N : Nodes) (len : Nat) : List Value := (List.range len).flatMap fun i => (N i).cells
theorem flat_set {α : Type} {k : Nat} : ∀ {rows : List (List α)}, (∀ r ∈ rows, r.length = k) → ∀ {i j : Nat} {r : List α} (v : α), rows[i]? = some r → j < k → rows.flatten.set (i * k + j) v = (rows.set i (r.set j v)).flatten
 | [], _, i, j, r, v, h, _ => by cases h
 | x :: rows, hl, 0, j, r, v, h, hj => by
  have e : x = r := by simpa using h
  subst e
  have hx := hl x (.head _)
  simp only [List.flatten_cons, List.set_cons_zero]
  rw [Nat.zero_mul, Nat.zero_add, List.set_append_left _ _ (by omega)]
 | x :: rows, hl, i + 1, j, r, v, h, hj => by
  have hx := hl x (.head _)
  have ih := flat_set (fun r hr => hl r (.tail _ hr)) (i := i) (j := j) v (by simpa using h) hj
  simp only [List.flatten_cons, List.set_cons_succ]
  rw [List.set_append_right _ _ (by rw [hx, Nat.succ_mul]; omega), ← ih]
  congr 2
  rw [hx, Nat.succ_mul]; omega
theorem flat_get {α : Type} {k : Nat} : ∀ {rows : List (List α)}, (∀ r ∈ rows, r.length = k) → ∀ {i j : Nat} {r : List α}, rows[i]? = some r → j < k → rows.flatten[i * k + j]? = r[j]?
 | [], _, i, j, r, h, _ => by cases h
 | x :: rows, hl, 0, j, r, h, hj => by
  have e : x = r := by simpa using h
  subst e
  have hx := hl x (.head _)
  simp only [List.flatten_cons]
  rw [Nat.zero_mul, Nat.zero_add, List.getElem?_append_left (by omega)]
 | x :: rows, hl, i + 1, j, r, h, hj => by
  have hx := hl x (.head _)
  have ih := flat_get (fun r hr => hl r (.tail _ hr)) (i := i) (j := j) (r := r) (by simpa using h) hj
  simp only [List.flatten_cons]
  rw [List.getElem?_append_right (by rw [hx, Nat.succ_mul]; omega), ← ih]
  congr 1
  rw [hx, Nat.succ_mul]; omega
theorem rowsN_eq (N : Nodes) (len : Nat) : rowsN N len = ((List.range len).map fun i => (N i).cells).flatten := by unfold rowsN; rw [List.flatMap_def]
theorem rowsN_len (N : Nodes) (len : Nat) : (rowsN N len).length = len * 10 := by
 unfold rowsN
 induction len with
 | zero => rfl
 | succ n ih => rw [List.range_succ, List.flatMap_append, List.length_append, ih]; simp [Nd.cells]; omega
theorem rowsN_get (N : Nodes) {len i j : Nat} (hi : i < len) (hj : j < 10) : (rowsN N len)[i * 10 + j]? = (N i).cells[j]? := by
 rw [rowsN_eq]
 exact flat_get (k := 10) (fun r hr => by obtain ⟨a, _, rfl⟩ := List.mem_map.1 hr; rfl) (by simp [hi]) hj
theorem rowsN_set (N : Nodes) {len i j : Nat} (hi : i < len) (hj : j < 10) {v : Value} {r : Nd} (hr : r.cells = (N i).cells.set j v) : (rowsN N len).set (i * 10 + j) v = rowsN (upd N i r) len := by
 rw [rowsN_eq, rowsN_eq, flat_set (k := 10) (fun r hr => by obtain ⟨a, _, rfl⟩ := List.mem_map.1 hr; rfl) (r := (N i).cells) v (by simp [hi]) hj, ← hr]
 congr 1
 apply List.ext_getElem?
 intro k
 rw [List.getElem?_set]
 by_cases hk : i = k
 ·subst hk
  simp [hi, upd]
 ·rw [if_neg hk]
  simp only [List.getElem?_map]
  by_cases hkl : k < len
  ·rw [List.getElem?_range hkl]
   simp [upd, Ne.symm hk]
  ·rw [List.getElem?_eq_none (by simp; omega)]; rfl
theorem rowsN_congr {N N' : Nodes} {len : Nat} (h : ∀ i, i < len → N' i = N i) : rowsN N' len = rowsN N len := by
 rw [rowsN_eq, rowsN_eq]
 congr 1
 exact List.map_congr_left fun i hi => by rw [h i (List.mem_range.1 hi)]
end Go.Li
namespace Go.Br
open Go
set_option linter.unusedVariables false
inductive Con (R : Nat → Nat → Prop) : Nat → Nat → Prop
 | refl (a : Nat) : Con R a a
 | snoc {a b c : Nat} : Con R a b → (R b c ∨ R c b) → Con R a c
section
variable {R R' : Nat → Nat → Prop} {a b c u v x y n : Nat} {p p' : Nat → Nat}
theorem Con.one (h : R a b) : Con R a b := .snoc (.refl a) (.inl h)
theorem Con.trans (h : Con R a b) (k : Con R b c) : Con R a c := by
 induction k with
 | refl => exact h
 | snoc _ e ih => exact .snoc ih e
theorem Con.symm (h : Con R a b) : Con R b a := by
 induction h with
 | refl => exact .refl _
 | snoc _ e ih => exact (Con.snoc (.refl _) e.symm).trans ih
theorem Con.lift (hR : ∀ x y, R x y → Con R' x y) (h : Con R a b) : Con R' a b := by
 induction h with
 | refl => exact .refl _
 | snoc _ e ih => exact ih.trans (e.elim (hR _ _) fun e => (hR _ _ e).symm)
theorem Con.mono (hR : ∀ x y, R x y → R' x y) (h : Con R a b) : Con R' a b := h.lift fun x y e => .one (hR x y e)
theorem Con.closed {P : Nat → Prop} (hP : ∀ x y, R x y → (P x ↔ P y)) (h : Con R a b) : P a ↔ P b := by
 induction h with
 | refl => exact Iff.rfl
 | snoc _ e ih => exact ih.trans (e.elim (hP _ _) fun e => (hP _ _ e).symm)
def plus (R : Nat → Nat → Prop) (u v : Nat) (a b : Nat) : Prop := R a b ∨ (a = u ∧ b = v)
theorem Con.plus : Con (plus R u v) x y ↔ Con R x y ∨ (Con R x u ∧ Con R v y) ∨ (Con R x v ∧ Con R u y) := by
 constructor
 ·intro h
  induction h with
  | refl => exact .inl (.refl _)
  | @snoc b c _ e ih =>
   rcases e with (e | ⟨rfl, rfl⟩) | (e | ⟨rfl, rfl⟩)
   ·rcases ih with h | ⟨h, k⟩ | ⟨h, k⟩
    ·exact .inl (.snoc h (.inl e))
    ·exact .inr (.inl ⟨h, .snoc k (.inl e)⟩)
    ·exact .inr (.inr ⟨h, .snoc k (.inl e)⟩)
   ·rcases ih with h | ⟨h, k⟩ | ⟨h, k⟩
    ·exact .inr (.inl ⟨h, .refl _⟩)
    ·exact .inr (.inl ⟨h, .refl _⟩)
    ·exact .inl h
   ·rcases ih with h | ⟨h, k⟩ | ⟨h, k⟩
    ·exact .inl (.snoc h (.inr e))
    ·exact .inr (.inl ⟨h, .snoc k (.inr e)⟩)
    ·exact .inr (.inr ⟨h, .snoc k (.inr e)⟩)
   ·rcases ih with h | ⟨h, k⟩ | ⟨h, k⟩
    ·exact .inr (.inr ⟨h, .refl _⟩)
    ·exact .inl h
    ·exact .inr (.inr ⟨h, .refl _⟩)
 ·have m : ∀ {a b : Nat}, Con R a b → Con (Br.plus R u v) a b := fun h => h.mono fun _ _ e => .inl e
  have o : Con (Br.plus R u v) u v := .one (.inr ⟨rfl, rfl⟩)
  rintro (h | ⟨h, k⟩ | ⟨h, k⟩)
  ·exact m h
  ·exact ((m h).trans o).trans (m k)
  ·exact ((m h).trans o.symm).trans (m k)
structure Least (R : Nat → Nat → Prop) (n : Nat) (p : Nat → Nat) : Prop where
 con : ∀ v, v < n → Con R v (p v)
 le : ∀ v w, v < n → w < n → Con R v w → p v ≤ w
theorem Least.self (h : Least R n p) (hv : v < n) : p v ≤ v := h.le v v hv hv (.refl _)
theorem Least.eq (h : Least R n p) (hu : u < n) (hv : v < n) : p u = p v ↔ Con R u v := by
 have s1 := h.self hu
 have s2 := h.self hv
 constructor
 ·intro e
  exact (h.con u hu).trans (by rw [e]; exact (h.con v hv).symm)
 ·intro c
  have a := h.le u (p v) hu (by omega) (c.trans (h.con v hv))
  have b := h.le v (p u) hv (by omega) (c.symm.trans (h.con u hu))
  omega
theorem Least.idem (h : Least R n p) (hv : v < n) : p (p v) = p v := by
 have := h.self hv
 exact (h.eq (by omega) hv).2 (h.con v hv).symm
theorem Least.uniq (h : Least R n p) (h' : Least R n p') (hv : v < n) : p v = p' v := by
 have s1 := h.self hv
 have s2 := h'.self hv
 have a := h.le v (p' v) hv (by omega) (h'.con v hv)
 have b := h'.le v (p v) hv (by omega) (h.con v hv)
 omega
theorem Least.congr (h : Least R n p) (hR : ∀ a b, a < n → b < n → (Con R a b ↔ Con R' a b)) : Least R' n p where
 con v hv := (hR v (p v) hv (by have := h.self hv; omega)).1 (h.con v hv)
 le v w hv hw c := h.le v w hv hw ((hR v w hv hw).2 c)
theorem min_of {P : Nat → Prop} : ∀ m : Nat, P m → ∃ k, P k ∧ ∀ j, P j → k ≤ j := by
 intro m
 induction m using Nat.strongRecOn with
 | ind m ih =>
  intro hm
  by_cases h : ∃ j, j < m ∧ P j
  ·obtain ⟨j, h1, h2⟩ := h
   exact ih j h1 h2
  ·exact ⟨m, hm, fun j hj => Nat.le_of_not_lt fun hlt => h ⟨j, hlt, hj⟩⟩
theorem least_exists (R : Nat → Nat → Prop) (n : Nat) : ∃ p, Least R n p := by
 have : ∀ v : Nat, ∃ k, Con R v k ∧ ∀ j, Con R v j → k ≤ j := fun v => min_of v (.refl v)
 refine ⟨fun v => (this v).choose, fun v _ => (this v).choose_spec.1, fun v w _ _ c => (this v).choose_spec.2 w c⟩
def cnt (n : Nat) (p : Nat → Nat) : Nat := ((List.range n).filter fun v => decide (p v = v)).length
theorem cnt_congr (h : ∀ v, v < n → p v = p' v) : cnt n p = cnt n p' := by
 unfold cnt
 congr 1
 refine List.filter_congr fun v hv => ?_
 rw [h v (List.mem_range.1 hv)]
theorem Least.cnt (h : Least R n p) (h' : Least R n p') : Br.cnt n p = Br.cnt n p' := cnt_congr fun v hv => h.uniq h' hv
theorem filter_less {l : List Nat} (hl : l.Nodup) (f : Nat → Bool) {M : Nat} (hM : M ∈ l) (hf : f M = true) : (l.filter f).length = (l.filter fun v => f v && decide (v ≠ M)).length + 1 := by
 induction l with
 | nil => cases hM
 | cons z l ih =>
  rw [List.nodup_cons] at hl
  by_cases e : z = M
  ·subst e
   have : (l.filter fun v => f v && decide (v ≠ z)) = l.filter f := List.filter_congr fun v hv => by
    have : v ≠ z := fun e => hl.1 (e ▸ hv)
    simp [this]
   rw [List.filter_cons_of_pos hf, List.filter_cons_of_neg (by simp), this, List.length_cons]
  ·have hM' : M ∈ l := by
    rcases List.mem_cons.1 hM with h | h
    ·exact absurd h.symm e
    ·exact h
   have := ih hl.2 hM'
   by_cases hz : f z = true
   ·rw [List.filter_cons_of_pos hz, List.filter_cons_of_pos (by simp [hz, e]), List.length_cons, List.length_cons, this]
   ·rw [List.filter_cons_of_neg hz, List.filter_cons_of_neg (by simp [hz]), this]
theorem Least.plus_same (h : Least R n p) (c : Con R u v) : Least (plus R u v) n p := by
 refine h.congr fun a b _ _ => ?_
 rw [Con.plus]
 constructor
 ·exact .inl
 ·rintro (h | ⟨h1, h2⟩ | ⟨h1, h2⟩)
  ·exact h
  ·exact (h1.trans c).trans h2
  ·exact (h1.trans c.symm).trans h2
theorem Least.plus_less (h : Least R n p) (hu : u < n) (hv : v < n) (c : ¬ Con R u v) :
  ∃ p', Least (plus R u v) n p' ∧ Br.cnt n p = Br.cnt n p' + 1 := by
 have hne : p u ≠ p v := fun e => c ((h.eq hu hv).1 e)
 have su := h.self hu
 have sv := h.self hv
 have iu := h.idem hu
 have iv := h.idem hv
 obtain ⟨M, m, hM⟩ : ∃ M m, (M = p u ∧ m = p v ∧ p v < p u) ∨ (M = p v ∧ m = p u ∧ p u < p v) := by
  rcases Nat.lt_or_gt_of_ne hne with h | h
  ·exact ⟨p v, p u, .inr ⟨rfl, rfl, h⟩⟩
  ·exact ⟨p u, p v, .inl ⟨rfl, rfl, h⟩⟩
 have hmM : m < M ∧ M < n ∧ p M = M ∧ p m = m := by
  rcases hM with ⟨rfl, rfl, h⟩ | ⟨rfl, rfl, h⟩
  ·exact ⟨h, by omega, iu, iv⟩
  ·exact ⟨h, by omega, iv, iu⟩
 have cm : Con (plus R u v) M m := by
  have o : Con (plus R u v) u v := .one (.inr ⟨rfl, rfl⟩)
  have mo : ∀ {a b : Nat}, Con R a b → Con (plus R u v) a b := fun h => h.mono fun _ _ e => .inl e
  rcases hM with ⟨rfl, rfl, _⟩ | ⟨rfl, rfl, _⟩
  ·exact ((mo (h.con u hu).symm).trans o).trans (mo (h.con v hv))
  ·exact ((mo (h.con v hv).symm).trans o.symm).trans (mo (h.con u hu))
 refine ⟨fun x => if p x = M then m else p x, ⟨fun x hx => ?_, fun x w hx hw hc => ?_⟩, ?_⟩
 ·have h1 : Con (plus R u v) x (p x) := (h.con x hx).mono fun _ _ e => .inl e
  show Con _ x (if p x = M then m else p x)
  by_cases e : p x = M
  ·rw [if_pos e]; rw [e] at h1; exact h1.trans cm
  ·rw [if_neg e]; exact h1
 ·show (if p x = M then m else p x) ≤ w
  have sw := h.self hw
  have key : p x = p w ∨ ((p x = M ∨ p x = m) ∧ (p w = M ∨ p w = m)) := by
   rcases Con.plus.1 hc with h1 | ⟨h1, h2⟩ | ⟨h1, h2⟩
   ·exact .inl ((h.eq hx hw).2 h1)
   ·have e1 := (h.eq hx hu).2 h1
    have e2 := (h.eq hv hw).2 h2
    right; omega
   ·have e1 := (h.eq hx hv).2 h1
    have e2 := (h.eq hu hw).2 h2
    right; omega
  split <;> omega
 ·unfold Br.cnt
  rw [filter_less List.nodup_range (fun v => decide (p v = v)) (M := M) (List.mem_range.2 hmM.2.1) (by simp [hmM.2.2.1])]
  congr 2
  refine List.filter_congr fun x hx => ?_
  have hx := List.mem_range.1 hx
  by_cases e : p x = M
  ·simp only [e, if_true]
   have : m ≠ x := fun e2 => by rw [← e2, hmM.2.2.2] at e; omega
   simp only [decide_eq_false this]
   by_cases e3 : M = x
   ·simp [e3]
   ·simp [e3]
  ·simp only [if_neg e]
   by_cases e3 : x = M
   ·rw [e3] at e; exact absurd hmM.2.2.1 e
   ·simp [e3]
end
end Go.Br
namespace Go.Br
open Go Go.Hp Go.Li
set_option linter.unusedVariables false
def up {α : Type} (f : Nat → α) (i : Nat) (x : α) : Nat → α := fun j => if j = i then x else f j
theorem up_same {α : Type} (f : Nat → α) (i : Nat) (x : α) : up f i x i = x := if_pos rfl
theorem up_ne {α : Type} (f : Nat → α) {i j : Nat} (x : α) (h : j ≠ i) : up f i x j = f j := if_neg h
def Inc (l : List Ed) (k x y : Nat) : Prop := ∃ e, l[k]? = some e ∧ ((e.u = (x : Int) ∧ e.v = (y : Int)) ∨ (e.u = (y : Int) ∧ e.v = (x : Int)))
theorem Inc.symm {l : List Ed} {k x y : Nat} (h : Inc l k x y) : Inc l k y x := by
 obtain ⟨e, h1, h2⟩ := h
 exact ⟨e, h1, h2.symm⟩
theorem Inc.ends {l : List Ed} {k a b c d : Nat} (h : Inc l k a b) (h' : Inc l k c d) : (c = a ∧ d = b) ∨ (c = b ∧ d = a) := by
 obtain ⟨e, h1, h2⟩ := h
 obtain ⟨e', h3, h4⟩ := h'
 rw [h1] at h3
 obtain rfl := Option.some.inj h3
 omega
theorem Inc.lt {l : List Ed} {k a b : Nat} (h : Inc l k a b) : k < l.length := by
 obtain ⟨e, h1, _⟩ := h
 exact (List.getElem?_eq_some_iff.1 h1).1
def Al (l : List Ed) (a b : Nat) : Prop := ∃ j, Inc l j a b
def vr {α : Type} (n : Nat) (f : Nat → α) : List α := (List.range n).map f
section
variable {α : Type} {n i : Nat} {f f' : Nat → α}
theorem vr_len : (vr n f).length = n := by simp [vr]
theorem vr_get (hi : i < n) : (vr n f)[i]? = some (f i) := by simp [vr, hi]
theorem vr_congr (h : ∀ i, i < n → f' i = f i) : vr n f' = vr n f := List.map_congr_left fun i hi => h i (List.mem_range.1 hi)
theorem vr_set (x : α) : (vr n f).set i x = vr n (up f i x) := by
 apply List.ext_getElem?
 intro k
 rw [List.getElem?_set]
 by_cases hk : i = k
 ·subst hk
  by_cases hi : i < n
  ·simp [vr, hi, up]
  ·simp [vr, hi]
 ·rw [if_neg hk]
  by_cases hkn : k < n
  ·simp [vr, hkn, up, Ne.symm hk]
  ·simp [vr, hkn]
end
def nI (f : Nat → Nat) : Nat → Int := fun v => (f v : Int)
theorem nI_up (f : Nat → Nat) (i x : Nat) : up (nI f) i ((x : Nat) : Int) = nI (up f i x) := by
 funext j
 by_cases h : j = i
 ·simp [up, nI, h]
 ·simp [up, nI, h]
theorem edC_len (x : Ed) : (Ed.cells x).length = 4 := rfl
theorem edC_plain (x : Ed) : ∀ u ∈ Ed.cells x, plainVal u = true := by
 intro u hu
 simp only [Ed.cells, List.mem_cons, List.not_mem_nil, or_false] at hu
 rcases hu with rfl | rfl | rfl | rfl <;> rfl
theorem rep0 (n : Nat) : repL n [Value.int .i64 0] = (vr n fun _ => (0 : Int)).map (Value.int .i64) := by
 have : ∀ m : Nat, repL m [Value.int .i64 0] = (List.replicate m (0 : Int)).map (Value.int .i64) := fun m => by
  induction m with
  | zero => rfl
  | succ m ih => rw [List.replicate_succ, List.map_cons, ← ih]; rfl
 rw [this]
 unfold vr
 rw [List.map_const', List.length_range]
theorem ir_zero (H : Heap) (n : Nat) (T : TypeId) : IR (H.push (.cells (repL n [Value.int .i64 0]).toArray T)) (some H.size) (.slice (some ⟨H.size, 0, none⟩) n n) (vr n fun _ => (0 : Int)) := by
 refine ⟨by simp, .inr ⟨H.size, n, [], rfl, by rw [vr_len], ?_, by simp [vr_len], by rw [vr_len]; exact Nat.le_refl _⟩⟩
 rw [List.append_nil, ← rep0]
 exact Blk.new H _ _
end Go.Br
namespace Go.Br
open Go Go.Hp Go.Li
set_option linter.unusedVariables false
def EdAt (H : Heap) (q : Addr) (x : Ed) : Prop := hcell H q = some (.int .i64 x.id) ∧ hcell H ⟨q.block, q.off + 1, none⟩ = some (.int .i64 x.u) ∧ hcell H ⟨q.block, q.off + 2, none⟩ = some (.int .i64 x.v) ∧ hcell H ⟨q.block, q.off + 3, none⟩ = some (.int .i64 x.w)
def RdE (T : Nat → Prop) (H : Heap) (vl : Value) (l : List Ed) : Prop := ∃ a c, vl = .slice a l.length c ∧ ∀ i x, l[i]? = some x → ∃ q : Addr, a = some q ∧ T (q.add (i * 4)).block ∧ EdAt H (q.add (i * 4)) x
theorem EdAt.frame {S : Nat → Prop} {H H' : Heap} {q : Addr} {x : Ed} (h : EdAt H q x) (hf : Fr S H H') (hq : ¬ S q.block) : EdAt H' q x := by
 obtain ⟨h0, h1, h2, h3⟩ := h
 have mv : ∀ {a : Addr} {v : Value}, a.block = q.block → hcell H a = some v → hcell H' a = some v := fun e h => by rw [hf.cell (hcell_lt h) (e ▸ hq)]; exact h
 exact ⟨mv rfl h0, mv rfl h1, mv rfl h2, mv rfl h3⟩
theorem RdE.frame {S T : Nat → Prop} {H H' : Heap} {vl : Value} {l : List Ed} (h : RdE T H vl l) (hf : Fr S H H') (hT : ∀ b, T b → ¬ S b) : RdE T H' vl l := by
 obtain ⟨a, c, hv, hr⟩ := h
 refine ⟨a, c, hv, fun i x hi => ?_⟩
 obtain ⟨q, h1, h2, h3⟩ := hr i x hi
 exact ⟨q, h1, h2, h3.frame hf (hT _ h2)⟩
theorem sr_rde {H : Heap} {B : Option Nat} {vl : Value} {l : List Ed} (h : SR Ed.cells 4 H B vl l) : RdE (fun b => B = some b) H vl l := by
 obtain ⟨a, c, hv⟩ := h.slice
 refine ⟨a, c, hv, fun i x hi => ?_⟩
 obtain ⟨g, c', hB, hv', _, hc⟩ := h.at edC_len hi
 rw [hv] at hv'
 simp only [Value.slice.injEq] at hv'
 refine ⟨⟨g, 0, none⟩, hv'.1, ?_, ?_⟩
 ·rw [add_mk]; exact hB
 ·rw [add_mk, Nat.zero_add]
  have q0 := hc 0 _ rfl
  rw [Nat.add_zero] at q0
  exact ⟨q0, hc 1 _ rfl, hc 2 _ rfl, hc 3 _ rfl⟩
def tot (n : Nat) (p : Nat → Nat) : Nat := ((List.range n).map p).sum
theorem tot_up {p : Nat → Nat} {v x : Nat} : ∀ {n : Nat}, v < n → tot n (up p v x) + p v = tot n p + x
 | n + 1, hv => by
  unfold tot
  rw [List.range_succ, List.map_append, List.map_append, List.sum_append, List.sum_append]
  simp only [List.map_cons, List.map_nil, List.sum_cons, List.sum_nil, Nat.add_zero]
  by_cases e : v = n
  ·subst e
   have : (List.range v).map (up p v x) = (List.range v).map p := List.map_congr_left fun i hi => up_ne _ _ (by have := List.mem_range.1 hi; omega)
   rw [this, up_same]
   omega
  ·have ih := tot_up (p := p) (x := x) (show v < n by omega)
   unfold tot at ih
   rw [up_ne p x (Ne.symm e)]
   omega
theorem tot_le {p : Nat → Nat} {m : Nat} : ∀ {n : Nat}, (∀ v, v < n → p v ≤ m) → tot n p ≤ n * m
 | 0, _ => by simp [tot]
 | n + 1, h => by
  have ih := tot_le (n := n) fun v hv => h v (by omega)
  unfold tot at ih ⊢
  rw [List.range_succ, List.map_append, List.sum_append]
  simp only [List.map_cons, List.map_nil, List.sum_cons, List.sum_nil, Nat.add_zero]
  have := h n (by omega)
  rw [Nat.add_mul, Nat.one_mul]
  omega
structure Pa (l : List Ed) (n : Nat) (p : Nat → Nat) : Prop where
 con : ∀ v, v < n → Con (Al l) v (p v)
 le : ∀ v, v < n → p v ≤ v
theorem Pa.init (l : List Ed) (n : Nat) : Pa l n fun v => v := ⟨fun v _ => .refl _, fun v _ => Nat.le_refl _⟩
theorem Pa.step {l : List Ed} {n i a b m : Nat} {p : Nat → Nat} (h : Pa l n p) (hi : Inc l i a b) (ha : a < n) (hb : b < n) (hm : (m = p a ∧ p a ≤ p b) ∨ (m = p b ∧ p b ≤ p a)) : Pa l n (up (up p a m) b m) := by
 have hab : Con (Al l) a b := .one ⟨i, hi⟩
 have ca : Con (Al l) a m := by
  rcases hm with ⟨rfl, _⟩ | ⟨rfl, _⟩
  ·exact h.con a ha
  ·exact hab.trans (h.con b hb)
 have la := h.le a ha
 have lb := h.le b hb
 refine ⟨fun v hv => ?_, fun v hv => ?_⟩
 ·by_cases e : v = b
  ·subst e; rw [up_same]; exact hab.symm.trans ca
  ·rw [up_ne _ _ e]
   by_cases e2 : v = a
   ·subst e2; rw [up_same]; exact ca
   ·rw [up_ne _ _ e2]; exact h.con v hv
 ·by_cases e : v = b
  ·subst e; rw [up_same]; omega
  ·rw [up_ne _ _ e]
   by_cases e2 : v = a
   ·subst e2; rw [up_same]; omega
   ·rw [up_ne _ _ e2]; exact h.le v hv
theorem Pa.done {l : List Ed} {n : Nat} {p : Nat → Nat} (h : Pa l n p) (heq : ∀ i x y, Inc l i x y → p x = p y) : Least (Al l) n p := by
 refine ⟨h.con, fun v w hv hw c => ?_⟩
 have : ∀ {a b : Nat}, Con (Al l) a b → p a = p b := fun c => by
  induction c with
  | refl => rfl
  | snoc _ e ih =>
   refine ih.trans ?_
   rcases e with ⟨j, e⟩ | ⟨j, e⟩
   ·exact heq j _ _ e
   ·exact (heq j _ _ e).symm
 have := this c
 have := h.le w hw
 omega
end Go.Br
namespace Go.Proofs.Ytafehbegoanajaa
open Go Go.Hp Go.Li Go.Br
set_option linter.all false
set_option maxRecDepth 100000
set_option maxHeartbeats 3200000
section
variable {H H' : Heap} {l : List Ed} {n : Nat} {vl : Value} {T : Nat → Prop} {L : Value → Heap → Prop}
theorem Parts_ok (hl : RdE T H vl l) (hT : ∀ b, T b → b < H.size) (hn : n ≤ 64) (hll : l.length ≤ 4611686018427387904) (hok : ∀ x ∈ l, ∃ u v : Nat, x.u = u ∧ x.v = v ∧ u < n ∧ v < n)
  (fin : ∀ H' q p, Least (Al l) n p → IR H' (some q) (.slice (some ⟨q, 0, none⟩) n n) (vr n (nI p)) → H.size ≤ q → Fr (fun _ => False) H H' → L (.slice (some ⟨q, 0, none⟩) n n) H') :
  CallsH Try.prog 14 #[.int .i64 (n : Nat), vl] H L := by
 obtain ⟨a, c, rfl, _⟩ := id hl
 refine call14 (by simp) ?_
 simp only [Try.f14, Option.getD_some]
 repeat' (first|(with_reducible first|refine jA ?_|(refine hK _ _ ?_;clear hK K)|refine jJ fun K hK=>?_|refine jK ?_|refine jL ?_|refine jM ?_|refine jN ?_|refine jO ?_|refine jP ?_|refine jQ ?_|(refine jB ?_;clear hK K)|(refine jC ?_;clear hK K)|refine jD ?_|refine jE ?_|refine jG ?_|refine jH ?_|refine jI ?_)|((with_reducible refine jR ?hq ?_);case hq=>rfl)|((first|(with_reducible first|refine jS fun K hK=>?_|refine jT ?_|refine jU ?_)|((with_reducible refine jV ?hy fun K hK=>?_);case hy=>rfl));simp only [go_sem, Nat.reduceEqDiff, Nat.reduceAdd, Nat.reduceMul, Nat.reduceLeDiff, Nat.reduceLT, Int.reduceLT, Int.reduceLE, Int.reduceEq, Int.reduceNeg, Int.reduceToNat, Nat.reducePow, reduceIte, reduceCtorEq])|((with_reducible first|refine jW ?hy ?_|refine jY ?hy ?_);case hy=>rfl)|((with_reducible first|refine jX ?hy ?_|refine jZ ?hy ?_);case hy=>rfl)|((with_reducible refine jF ?hy ?_);case hy=>decide))
 refine ⟨Nat.le_refl _, by omega, ?_⟩
 have hz := ir_zero H n 3
 change K _ (H.push (.cells (repL n [Value.int .i64 0]).toArray 3))
 generalize hH1 : H.push _ = H1 at hz ⊢
 have f1 : Fr (fun _ => False) H H1 := by rw [← hH1]; exact (Fr.refl _ _).push _
 have z1 : H1.size = H.size + 1 := by rw [← hH1]; simp
 clear hH1
 generalize hq : H.size = q at hz z1 ⊢
 repeat' (first|(with_reducible first|refine jA ?_|(refine hK _ _ ?_;clear hK K)|refine jJ fun K hK=>?_|refine jK ?_|refine jL ?_|refine jM ?_|refine jN ?_|refine jO ?_|refine jP ?_|refine jQ ?_|(refine jB ?_;clear hK K)|(refine jC ?_;clear hK K)|refine jD ?_|refine jE ?_|refine jG ?_|refine jH ?_|refine jI ?_)|((with_reducible refine jR ?hq ?_);case hq=>rfl)|((first|(with_reducible first|refine jS fun K hK=>?_|refine jT ?_|refine jU ?_)|((with_reducible refine jV ?hy fun K hK=>?_);case hy=>rfl));simp only [go_sem, Nat.reduceEqDiff, Nat.reduceAdd, Nat.reduceMul, Nat.reduceLeDiff, Nat.reduceLT, Int.reduceLT, Int.reduceLE, Int.reduceEq, Int.reduceNeg, Int.reduceToNat, Nat.reducePow, reduceIte, reduceCtorEq])|((with_reducible first|refine jW ?hy ?_|refine jY ?hy ?_);case hy=>rfl)|((with_reducible first|refine jX ?hy ?_|refine jZ ?hy ?_);case hy=>rfl)|((with_reducible refine jF ?hy ?_);case hy=>decide))
 refine x_loop (fun m e' H' => ∃ (i : Nat), e' 6 = .int .i64 (i : Nat) ∧ i ≤ n ∧ IR H' (some q) (.slice (some ⟨q, 0, none⟩) n n) (vr n (nI fun x => if x < i then x else 0)) ∧ Fr (fun _ => False) H H' ∧ m = n - i) n
  ⟨0, rfl, Nat.zero_le _, by rw [show vr n (nI fun x => if x < 0 then x else 0) = vr n (fun _ => (0 : Int)) from vr_congr fun i hi => by simp [nI]]; exact hz, f1, rfl⟩ ?_
 rintro m e1 H2 ⟨i, i6, hi, hi2, f2, hm⟩ hoff
 have i0 : e1 0 = .int .i64 (n : Nat) := (hoff 0 rfl).trans rfl
 have i1 : e1 1 = .slice a l.length c := (hoff 1 rfl).trans rfl
 have i5 : e1 5 = .slice (some ⟨q, 0, none⟩) n n := (hoff 5 rfl).trans rfl
 clear hoff
 by_cases hlt : i < n
 ·have t1 : ((i : Int) < (n : Int)) = True := eq_true (by omega)
  have t1' : (i < n) = True := eq_true hlt
  have ew : IntKind.i64.wrap ((i : Int) + 1) = ((i + 1 : Nat) : Int) := by rw [wrap_i64] <;> omega
  obtain ⟨wi, h3⟩ := hi2.write (i := i) (by rw [vr_len]; exact hlt) ((i : Nat) : Int)
  rw [vr_set, nI_up] at h3
  have e3 : up (fun x => if x < i then x else 0) i i = fun x => if x < i + 1 then x else 0 := by
   funext x
   by_cases e : x = i
   ·subst e; rw [up_same, if_pos (by omega)]
   ·rw [up_ne _ _ e]
    by_cases h : x < i
    ·rw [if_pos h, if_pos (by omega)]
    ·rw [if_neg h, if_neg (by omega)]
  rw [e3] at h3
  repeat' (first|(with_reducible first|refine jA ?_|(refine hK _ _ ?_;clear hK K)|refine jJ fun K hK=>?_|refine jK ?_|refine jL ?_|refine jM ?_|refine jN ?_|refine jO ?_|refine jP ?_|refine jQ ?_|(refine jB ?_;clear hK K)|(refine jC ?_;clear hK K)|refine jD ?_|refine jE ?_|refine jG ?_|refine jH ?_|refine jI ?_)|((with_reducible refine jR ?hq ?_);case hq=>rfl)|((first|(with_reducible first|refine jS fun K hK=>?_|refine jT ?_|refine jU ?_)|((with_reducible refine jV ?hy fun K hK=>?_);case hy=>rfl));simp only [go_sem, Nat.reduceEqDiff, Nat.reduceAdd, Nat.reduceMul, Nat.reduceLeDiff, Nat.reduceLT, Int.reduceLT, Int.reduceLE, Int.reduceEq, Int.reduceNeg, Int.reduceToNat, Nat.reducePow, reduceIte, reduceCtorEq, i0, i1, i5, i6, t1, t1', wi, ew])|((with_reducible first|refine jW ?hy ?_|refine jY ?hy ?_);case hy=>rfl)|((with_reducible first|refine jX ?hy ?_|refine jZ ?hy ?_);case hy=>rfl)|((with_reducible refine jF ?hy ?_);case hy=>decide))
  exact loop_normal (m' := n - (i + 1)) (by omega) ⟨i + 1, rfl, hlt, h3, f2.trans' (Fr.set (S := (· = q)) (Fr.refl _ _) (.inl rfl) _) fun b hb e => by omega, rfl⟩
 have t1 : ((i : Int) < (n : Int)) = False := eq_false (by omega)
 have t1' : (i < n) = False := eq_false hlt
 obtain rfl : i = n := by omega
 repeat' (first|(with_reducible first|refine jA ?_|(refine hK _ _ ?_;clear hK K)|refine jJ fun K hK=>?_|refine jK ?_|refine jL ?_|refine jM ?_|refine jN ?_|refine jO ?_|refine jP ?_|refine jQ ?_|(refine jB ?_;clear hK K)|(refine jC ?_;clear hK K)|refine jD ?_|refine jE ?_|refine jG ?_|refine jH ?_|refine jI ?_)|((with_reducible refine jR ?hq ?_);case hq=>rfl)|((first|(with_reducible first|refine jS fun K hK=>?_|refine jT ?_|refine jU ?_)|((with_reducible refine jV ?hy fun K hK=>?_);case hy=>rfl));simp only [go_sem, Nat.reduceEqDiff, Nat.reduceAdd, Nat.reduceMul, Nat.reduceLeDiff, Nat.reduceLT, Int.reduceLT, Int.reduceLE, Int.reduceEq, Int.reduceNeg, Int.reduceToNat, Nat.reducePow, reduceIte, reduceCtorEq, i0, i6, t1, t1'])|((with_reducible first|refine jW ?hy ?_|refine jY ?hy ?_);case hy=>rfl)|((with_reducible first|refine jX ?hy ?_|refine jZ ?hy ?_);case hy=>rfl)|((with_reducible refine jF ?hy ?_);case hy=>decide))
 have hi3 : IR H2 (some q) (.slice (some ⟨q, 0, none⟩) i i) (vr i (nI fun x => x)) := by
  have : vr i (nI fun x => if x < i then x else 0) = vr i (nI fun x => x) := vr_congr fun x hx => by simp [nI, hx]
  rw [← this]; exact hi2
 refine x_loop (fun m e' H' => ∃ (b : Bool) (p : Nat → Nat), e' 7 = .bool b ∧ Pa l i p ∧ IR H' (some q) (.slice (some ⟨q, 0, none⟩) i i) (vr i (nI p)) ∧ (b = false → ∀ j x y, Inc l j x y → p x = p y) ∧ Fr (fun _ => False) H H' ∧ m = if b then tot i p + 1 else 0) (tot i (fun x => x) + 1)
  ⟨true, _, rfl, Pa.init l i, hi3, nofun, f2, rfl⟩ ?_
 clear hi2 hi3 f2 f1 z1 hz hm
 rintro m e3 H3 ⟨b, p, i7, hP, hp3, hb, f3, hm⟩ hoff
 have j0 : e3 0 = .int .i64 (i : Nat) := (hoff 0 rfl).trans i0
 have j1 : e3 1 = .slice a l.length c := (hoff 1 rfl).trans i1
 have j5 : e3 5 = .slice (some ⟨q, 0, none⟩) i i := (hoff 5 rfl).trans i5
 clear hoff i0 i1 i5
 cases b with
 | false =>
  repeat' (first|(with_reducible first|refine jA ?_|(refine hK _ _ ?_;clear hK K)|refine jJ fun K hK=>?_|refine jK ?_|refine jL ?_|refine jM ?_|refine jN ?_|refine jO ?_|refine jP ?_|refine jQ ?_|(refine jB ?_;clear hK K)|(refine jC ?_;clear hK K)|refine jD ?_|refine jE ?_|refine jG ?_|refine jH ?_|refine jI ?_)|((with_reducible refine jR ?hq ?_);case hq=>rfl)|((first|(with_reducible first|refine jS fun K hK=>?_|refine jT ?_|refine jU ?_)|((with_reducible refine jV ?hy fun K hK=>?_);case hy=>rfl));simp only [go_sem, Nat.reduceEqDiff, Nat.reduceAdd, Nat.reduceMul, Nat.reduceLeDiff, Nat.reduceLT, Int.reduceLT, Int.reduceLE, Int.reduceEq, Int.reduceNeg, Int.reduceToNat, Nat.reducePow, reduceIte, reduceCtorEq, i7, j5])|((with_reducible first|refine jW ?hy ?_|refine jY ?hy ?_);case hy=>rfl)|((with_reducible first|refine jX ?hy ?_|refine jZ ?hy ?_);case hy=>rfl)|((with_reducible refine jF ?hy ?_);case hy=>decide))
  exact fin _ q p (hP.done (hb rfl)) hp3 (by omega) f3
 | true =>
  rw [if_pos rfl] at hm
  repeat' (first|(with_reducible first|refine jA ?_|(refine hK _ _ ?_;clear hK K)|refine jJ fun K hK=>?_|refine jK ?_|refine jL ?_|refine jM ?_|refine jN ?_|refine jO ?_|refine jP ?_|refine jQ ?_|(refine jB ?_;clear hK K)|(refine jC ?_;clear hK K)|refine jD ?_|refine jE ?_|refine jG ?_|refine jH ?_|refine jI ?_)|((with_reducible refine jR ?hq ?_);case hq=>rfl)|((first|(with_reducible first|refine jS fun K hK=>?_|refine jT ?_|refine jU ?_)|((with_reducible refine jV ?hy fun K hK=>?_);case hy=>rfl));simp only [go_sem, Nat.reduceEqDiff, Nat.reduceAdd, Nat.reduceMul, Nat.reduceLeDiff, Nat.reduceLT, Int.reduceLT, Int.reduceLE, Int.reduceEq, Int.reduceNeg, Int.reduceToNat, Nat.reducePow, reduceIte, reduceCtorEq, i7])|((with_reducible first|refine jW ?hy ?_|refine jY ?hy ?_);case hy=>rfl)|((with_reducible first|refine jX ?hy ?_|refine jZ ?hy ?_);case hy=>rfl)|((with_reducible refine jF ?hy ?_);case hy=>decide))
  refine x_loop (fun m' e' H' => ∃ (k : Nat) (b : Bool) (p' : Nat → Nat), e' 8 = .int .i64 (k : Nat) ∧ e' 7 = .bool b ∧ k ≤ l.length ∧ Pa l i p' ∧ IR H' (some q) (.slice (some ⟨q, 0, none⟩) i i) (vr i (nI p')) ∧ (b = false → ∀ j x y, j < k → Inc l j x y → p' x = p' y) ∧ (b = false → tot i p' ≤ tot i p) ∧ (b = true → tot i p' < tot i p) ∧ Fr (fun _ => False) H H' ∧ m' = l.length - k) l.length
   ⟨0, false, p, rfl, rfl, Nat.zero_le _, hP, hp3, fun _ j x y hj => absurd hj (Nat.not_lt_zero _), fun _ => Nat.le_refl _, nofun, f3, rfl⟩ ?_
  clear hp3 hb f3 hP
  rintro m4 e4 H4 ⟨k, b, p4, k8, k7, hk, hP, hp4, hb, hle, hlt4, f4, hm4⟩ hoff
  have k0 : e4 0 = .int .i64 (i : Nat) := (hoff 0 rfl).trans j0
  have k1 : e4 1 = .slice a l.length c := (hoff 1 rfl).trans j1
  have k5 : e4 5 = .slice (some ⟨q, 0, none⟩) i i := (hoff 5 rfl).trans j5
  clear hoff j0 j1 j5
  by_cases hkl : k < l.length
  ·have t1 : ((k : Int) < (l.length : Int)) = True := eq_true (by omega)
   have t1' : (k < l.length) = True := eq_true hkl
   have ew : IntKind.i64.wrap ((k : Int) + 1) = ((k + 1 : Nat) : Int) := by rw [wrap_i64] <;> omega
   obtain ⟨x, hx⟩ : ∃ x, l[k]? = some x := ⟨_, List.getElem?_eq_getElem hkl⟩
   obtain ⟨u, v, hu, hv, hun, hvn⟩ := hok x (List.mem_of_getElem? hx)
   have hinc : Inc l k u v := ⟨x, hx, .inl ⟨hu, hv⟩⟩
   have hr4 := hl.frame f4 fun _ _ h => h
   obtain ⟨a', c', hv', hr⟩ := hr4
   simp only [Value.slice.injEq] at hv'
   obtain ⟨rfl, _, rfl⟩ := hv'
   obtain ⟨ad, rfl, hTa, q0, q1, q2, q3⟩ := hr k x hx
   rw [hu] at q1
   rw [hv] at q2
   have hTq : (ad.add (k * 4)).block ≠ q := fun e => by have := hT _ hTa; omega
   have cu := hp4.cell (vr_get (f := nI p4) hun)
   have cv := hp4.cell (vr_get (f := nI p4) hvn)
   have hui : (u < i) = True := eq_true hun
   have hvi : (v < i) = True := eq_true hvn
   by_cases heq : p4 u = p4 v
   ·have t2 : ((nI p4 u) != (nI p4 v)) = false := by simp [nI, heq]
    repeat' (first|(with_reducible first|refine jA ?_|(refine hK _ _ ?_;clear hK K)|refine jJ fun K hK=>?_|refine jK ?_|refine jL ?_|refine jM ?_|refine jN ?_|refine jO ?_|refine jP ?_|refine jQ ?_|(refine jB ?_;clear hK K)|(refine jC ?_;clear hK K)|refine jD ?_|refine jE ?_|refine jG ?_|refine jH ?_|refine jI ?_)|((with_reducible refine jR ?hq ?_);case hq=>rfl)|((first|(with_reducible first|refine jS fun K hK=>?_|refine jT ?_|refine jU ?_)|((with_reducible refine jV ?hy fun K hK=>?_);case hy=>rfl));simp only [go_sem, Nat.reduceEqDiff, Nat.reduceAdd, Nat.reduceMul, Nat.reduceLeDiff, Nat.reduceLT, Int.reduceLT, Int.reduceLE, Int.reduceEq, Int.reduceNeg, Int.reduceToNat, Nat.reducePow, reduceIte, reduceCtorEq, k0, k1, k5, k8, t1, t1', q1, q2, cu, cv, hui, hvi, t2, ew])|((with_reducible first|refine jW ?hy ?_|refine jY ?hy ?_);case hy=>rfl)|((with_reducible first|refine jX ?hy ?_|refine jZ ?hy ?_);case hy=>rfl)|((with_reducible refine jF ?hy ?_);case hy=>decide))
    refine loop_normal (m' := l.length - (k + 1)) (by omega) ⟨k + 1, b, p4, rfl, k7, hkl, hP, hp4, fun hb' j x' y' hj hi => ?_, hle, hlt4, f4, rfl⟩
    rcases Nat.lt_succ_iff_lt_or_eq.1 hj with hj | rfl
    ·exact hb hb' j x' y' hj hi
    ·rcases hinc.ends hi with ⟨rfl, rfl⟩ | ⟨rfl, rfl⟩
     ·exact heq
     ·exact heq.symm
   ·have t2 : ((nI p4 u) != (nI p4 v)) = true := by simp [nI]; omega
    obtain ⟨m5, hm5, hm5'⟩ : ∃ m5 : Nat, (if nI p4 v < nI p4 u then nI p4 v else nI p4 u) = (m5 : Int) ∧ ((m5 = p4 u ∧ p4 u ≤ p4 v) ∨ (m5 = p4 v ∧ p4 v ≤ p4 u)) := by
     unfold nI
     by_cases h : p4 v < p4 u
     ·exact ⟨p4 v, by rw [if_pos (by omega)], .inr ⟨rfl, by omega⟩⟩
     ·exact ⟨p4 u, by rw [if_neg (by omega)], .inl ⟨rfl, by omega⟩⟩
    obtain ⟨w5, hp5⟩ := hp4.write (i := u) (by rw [vr_len]; exact hun) ((m5 : Nat) : Int)
    rw [vr_set, nI_up] at hp5
    have f5 : Fr (· = q) H4 (hset H4 ⟨q, u, none⟩ (.int .i64 (m5 : Nat))) := Fr.set (S := (· = q)) (Fr.refl _ _) (.inl rfl) _
    have q1' := (f5.cell (hcell_lt q1) hTq).trans q1
    have q2' := (f5.cell (hcell_lt q2) hTq).trans q2
    obtain ⟨w6, hp6⟩ := hp5.write (i := v) (by rw [vr_len]; exact hvn) ((m5 : Nat) : Int)
    rw [vr_set, nI_up] at hp6
    repeat' (first|(with_reducible first|refine jA ?_|(refine hK _ _ ?_;clear hK K)|refine jJ fun K hK=>?_|refine jK ?_|refine jL ?_|refine jM ?_|refine jN ?_|refine jO ?_|refine jP ?_|refine jQ ?_|(refine jB ?_;clear hK K)|(refine jC ?_;clear hK K)|refine jD ?_|refine jE ?_|refine jG ?_|refine jH ?_|refine jI ?_)|((with_reducible refine jR ?hq ?_);case hq=>rfl)|((first|(with_reducible first|refine jS fun K hK=>?_|refine jT ?_|refine jU ?_)|((with_reducible refine jV ?hy fun K hK=>?_);case hy=>rfl));simp only [go_sem, Nat.reduceEqDiff, Nat.reduceAdd, Nat.reduceMul, Nat.reduceLeDiff, Nat.reduceLT, Int.reduceLT, Int.reduceLE, Int.reduceEq, Int.reduceNeg, Int.reduceToNat, Nat.reducePow, reduceIte, reduceCtorEq, k0, k1, k5, k8, t1, t1', q1, q2, cu, cv, hui, hvi, t2, hm5, w5, q1', q2', w6, ew])|((with_reducible first|refine jW ?hy ?_|refine jY ?hy ?_);case hy=>rfl)|((with_reducible first|refine jX ?hy ?_|refine jZ ?hy ?_);case hy=>rfl)|((with_reducible refine jF ?hy ?_);case hy=>decide))
    have huv : u ≠ v := fun e => heq (by rw [e])
    have g1 := tot_up (p := p4) (x := m5) hun
    have g2 := tot_up (p := up p4 u m5) (x := m5) hvn
    rw [up_ne _ _ (Ne.symm huv)] at g2
    have g0 : tot i p4 ≤ tot i p := by
     cases b with
     | false => exact hle rfl
     | true => exact Nat.le_of_lt (hlt4 rfl)
    refine loop_normal (m' := l.length - (k + 1)) (by omega) ⟨k + 1, true, _, rfl, rfl, hkl, hP.step hinc hun hvn hm5', hp6, nofun, nofun, fun _ => by omega, f4.trans' (f5.trans (Fr.set (S := (· = q)) (Fr.refl _ _) (.inl rfl) _)) fun b hb e => by omega, rfl⟩
  ·have t1 : ((k : Int) < (l.length : Int)) = False := eq_false (by omega)
   have t1' : (k < l.length) = False := eq_false hkl
   obtain rfl : k = l.length := by omega
   repeat' (first|(with_reducible first|refine jA ?_|(refine hK _ _ ?_;clear hK K)|refine jJ fun K hK=>?_|refine jK ?_|refine jL ?_|refine jM ?_|refine jN ?_|refine jO ?_|refine jP ?_|refine jQ ?_|(refine jB ?_;clear hK K)|(refine jC ?_;clear hK K)|refine jD ?_|refine jE ?_|refine jG ?_|refine jH ?_|refine jI ?_)|((with_reducible refine jR ?hq ?_);case hq=>rfl)|((first|(with_reducible first|refine jS fun K hK=>?_|refine jT ?_|refine jU ?_)|((with_reducible refine jV ?hy fun K hK=>?_);case hy=>rfl));simp only [go_sem, Nat.reduceEqDiff, Nat.reduceAdd, Nat.reduceMul, Nat.reduceLeDiff, Nat.reduceLT, Int.reduceLT, Int.reduceLE, Int.reduceEq, Int.reduceNeg, Int.reduceToNat, Nat.reducePow, reduceIte, reduceCtorEq, k1, k8, t1, t1'])|((with_reducible first|refine jW ?hy ?_|refine jY ?hy ?_);case hy=>rfl)|((with_reducible first|refine jX ?hy ?_|refine jZ ?hy ?_);case hy=>rfl)|((with_reducible refine jF ?hy ?_);case hy=>decide))
   cases b with
   | false => exact loop_normal (m' := 0) (by omega) ⟨false, p4, k7, hP, hp4, fun h j x y hi => hb h j x y hi.lt hi, f4, rfl⟩
   | true => exact loop_normal (m' := tot i p4 + 1) (by have := hlt4 rfl; omega) ⟨true, p4, k7, hP, hp4, nofun, f4, rfl⟩
end
end Go.Proofs.Ytafehbegoanajaa
namespace Go.Proofs
open Go.Shelf
def Try.lays189_ren : Go.Shelf.Ren := ⟨fun | 189 => 50 | 125 => 67 | 257 => 66 | 128 => 83 | 129 => 84 | 294 => 74 | 295 => 75 | 296 => 76 | 297 => 77 | 298 => 78 | 299 => 79 | 216 => 80 | 300 => 81 | 301 => 82 | 328 => 89 | 329 => 90 | 330 => 91 | 331 => 92 | 332 => 93 | 215 => 94 | 343 => 98 | n => n, fun | 28 => 34 | 3 => 3 | 46 => 105 | 0 => 0 | 51 => 115 | 53 => 117 | 4 => 4 | 183 => 109 | 182 => 108 | 131 => 77 | 5 => 5 | 9 => 9 | 218 => 123 | 222 => 127 | 228 => 130 | 229 => 131 | n => n, fun | n => n⟩
theorem Try.lays189 : Go.Proofs.Lays.n189 Try.prog Try.lays189_ren := {
 mixed := by kernel_rfl
 f125 := Try.func67.trans (congrArg some (by kernel_rfl))
 f128 := Try.func83.trans (congrArg some (by kernel_rfl))
 f129 := Try.func84.trans (congrArg some (by kernel_rfl))
 f189 := Try.func50.trans (congrArg some (by kernel_rfl))
 f215 := Try.func94.trans (congrArg some (by kernel_rfl))
 f216 := Try.func80.trans (congrArg some (by kernel_rfl))
 f257 := Try.func66.trans (congrArg some (by kernel_rfl))
 f294 := Try.func74.trans (congrArg some (by kernel_rfl))
 f295 := Try.func75.trans (congrArg some (by kernel_rfl))
 f296 := Try.func76.trans (congrArg some (by kernel_rfl))
 f297 := Try.func77.trans (congrArg some (by kernel_rfl))
 f298 := Try.func78.trans (congrArg some (by kernel_rfl))
 f299 := Try.func79.trans (congrArg some (by kernel_rfl))
 f300 := Try.func81.trans (congrArg some (by kernel_rfl))
 f301 := Try.func82.trans (congrArg some (by kernel_rfl))
 f328 := Try.func89.trans (congrArg some (by kernel_rfl))
 f329 := Try.func90.trans (congrArg some (by kernel_rfl))
 f330 := Try.func91.trans (congrArg some (by kernel_rfl))
 f331 := Try.func92.trans (congrArg some (by kernel_rfl))
 f332 := Try.func93.trans (congrArg some (by kernel_rfl))
 f343 := Try.func98.trans (congrArg some (by kernel_rfl))
 t0 := Try.underlying0
 a0 := Try.isAgg0
 z0 := Try.sizeOf0
 v0 := Try.zeroValue0
 t3 := Try.underlying3
 a3 := Try.isAgg3
 z3 := Try.sizeOf3
 v3 := Try.zeroValue3
 t4 := Try.underlying4
 a4 := Try.isAgg4
 z4 := Try.sizeOf4
 v4 := Try.zeroValue4
 t5 := Try.underlying5
 a5 := Try.isAgg5
 z5 := Try.sizeOf5
 v5 := Try.zeroValue5
 t9 := Try.underlying9
 a9 := Try.isAgg9
 z9 := Try.sizeOf9
 v9 := Try.zeroValue9
 t28 := Try.underlying34
 a28 := Try.isAgg34
 z28 := Try.sizeOf34
 v28 := Try.zeroValue34
 t46 := Try.underlying105
 a46 := Try.isAgg105
 z46 := Try.sizeOf105
 v46 := Try.zeroValue105
 t51 := Try.underlying115
 a51 := Try.isAgg115
 z51 := Try.sizeOf115
 v51 := Try.zeroValue115
 t53 := Try.underlying117
 a53 := Try.isAgg117
 z53 := Try.sizeOf117
 v53 := Try.zeroValue117
 t131 := Try.underlying77
 a131 := Try.isAgg77
 z131 := Try.sizeOf77
 v131 := Try.zeroValue77
 t182 := Try.underlying108
 a182 := Try.isAgg108
 z182 := Try.sizeOf108
 v182 := Try.zeroValue108
 t183 := Try.underlying109
 a183 := Try.isAgg109
 z183 := Try.sizeOf109
 v183 := Try.zeroValue109
 t218 := Try.underlying123
 a218 := Try.isAgg123
 z218 := Try.sizeOf123
 v218 := Try.zeroValue123
 t222 := Try.underlying127
 a222 := Try.isAgg127
 z222 := Try.sizeOf127
 v222 := Try.zeroValue127
 t228 := Try.underlying130
 a228 := Try.isAgg130
 z228 := Try.sizeOf130
 v228 := Try.zeroValue130
 t229 := Try.underlying131
 a229 := Try.isAgg131
 z229 := Try.sizeOf131
 v229 := Try.zeroValue131 }
end Go.Proofs
namespace Go.Proofs.Ytafehbegoanajaa
open Go Go.Hp Go.Li
set_option linter.all false
set_option maxRecDepth 100000
set_option maxHeartbeats 1600000

structure NA (H : Heap) (t g c len : Nat) (N : Nodes) : Prop where
 hd : hcell H ⟨t, 1, none⟩ = some (.slice (some ⟨g, 0, none⟩) len c)
 nd : ∃ rest, Blk H g (rowsN N len ++ rest) ∧ len * 10 + rest.length = c * 10 ∧ len ≤ c
 ne : t ≠ g
 cl : Cl len N
 z : 0 < len ∧ len < 4096
section
variable {H H' : Heap} {t g c len : Nat} {N : Nodes} {K : Value → Heap → Prop}
theorem NA.lt (h : NA H t g c len N) : t < H.size ∧ g < H.size := by
 obtain ⟨rest, h1, _⟩ := h.nd
 exact ⟨hcell_lt h.hd, h1.lt⟩
theorem NA.frame {S : Nat → Prop} (h : NA H t g c len N) (hf : Fr S H H') (ht : ¬ S t) (hg : ¬ S g) : NA H' t g c len N := by
 obtain ⟨rest, h1, h2⟩ := h.nd
 exact ⟨by rw [hf.cell (hcell_lt h.hd) ht]; exact h.hd, ⟨rest, h1.frame hf hg, h2⟩, h.ne, h.cl, h.z⟩
theorem NA.grow (h : NA H t g c len N) (hf : Fr (fun _ => False) H H') : NA H' t g c len N := h.frame hf (fun h => h) (fun h => h)
theorem NA.cell (h : NA H t g c len N) {i j : Nat} (hi : i < len) {v : Value} (hv : (N i).cells[j]? = some v) : hcell H ⟨g, i * 10 + j, none⟩ = some v := by
 obtain ⟨rest, h1, _⟩ := h.nd
 have hj : j < 10 := by
  have := (List.getElem?_eq_some_iff.1 hv).1
  simpa [Nd.cells] using this
 refine h1.cellOf ?_
 rw [List.getElem?_append_left (by rw [rowsN_len]; omega), rowsN_get N hi hj]
 exact hv
theorem NA.cell0 (h : NA H t g c len N) {i : Nat} (hi : i < len) : hcell H ⟨g, i * 10, none⟩ = some (.int .i64 (N i).up) := h.cell (j := 0) hi rfl
theorem NA.okw (h : NA H t g c len N) {i : Nat} (hi : i < len) (j : Nat) (hj : j < 10) : okW H ⟨g, i * 10 + j, none⟩ := by
 obtain ⟨rest, h1, _⟩ := h.nd
 exact h1.okW (by rw [List.length_append, rowsN_len]; omega)
theorem NA.okw0 (h : NA H t g c len N) {i : Nat} (hi : i < len) : okW H ⟨g, i * 10, none⟩ := h.okw hi 0 (by omega)
theorem NA.set (h : NA H t g c len N) {i j : Nat} (hi : i < len) (hj : j < 10) {v : Value} {r : Nd} (hr : r.cells = (N i).cells.set j v) (hc : Cl len (upd N i r)) : NA (hset H ⟨g, i * 10 + j, none⟩ v) t g c len (upd N i r) := by
 obtain ⟨rest, h1, h2⟩ := h.nd
 refine ⟨by rw [hcell_hset_ne h.ne]; exact h.hd, ⟨rest, ?_, h2⟩, h.ne, hc, h.z⟩
 have := h1.set_same (i * 10 + j) v
 rw [List.set_append_left _ _ (by rw [rowsN_len]; omega), rowsN_set N hi hj hr] at this
 exact this
theorem NA.set0 (h : NA H t g c len N) {i : Nat} (hi : i < len) {v : Value} {r : Nd} (hr : r.cells = (N i).cells.set 0 v) (hc : Cl len (upd N i r)) : NA (hset H ⟨g, i * 10, none⟩ v) t g c len (upd N i r) := h.set (j := 0) hi (by omega) hr hc
theorem hset_fr (H : Heap) (g o : Nat) (v : Value) : Fr (· = g) H (hset H ⟨g, o, none⟩ v) := Fr.set (S := (· = g)) (a := ⟨g, o, none⟩) (Fr.refl _ H) (.inl rfl) v
theorem has_link {k h : Nat} (hN : NA H t g c len N) (hk : k < len) (fin : K (.bool (hasK (N k) h)) H) :
  CallsH Try.prog 95 #[.pointer (some ⟨g, k * 10, none⟩), .int .i64 (h : Nat)] H K := by
 have c1 := hN.cell (j := 1) hk rfl
 have c2 := hN.cell (j := 2) hk rfl
 unfold hasK at fin
 refine call95 (by simp) ?_
 simp only [Try.f95, Option.getD_some]
 by_cases h1 : (N k).l = h
 ·have t1 : (((N k).l : Int) == (h : Int)) = true := by simp [h1]
  simp only [h1, decide_true, Bool.true_or] at fin
  repeat' (first|(with_reducible first|refine jA ?_|(refine hK _ _ ?_;clear hK K)|refine jJ fun K hK=>?_|refine jK ?_|refine jL ?_|refine jM ?_|refine jN ?_|refine jO ?_|refine jP ?_|refine jQ ?_|(refine jB ?_;clear hK K)|(refine jC ?_;clear hK K)|refine jD ?_|refine jE ?_|refine jG ?_|refine jH ?_|refine jI ?_)|((with_reducible refine jR ?hq ?_);case hq=>rfl)|((first|(with_reducible first|refine jS fun K hK=>?_|refine jT ?_|refine jU ?_)|((with_reducible refine jV ?hy fun K hK=>?_);case hy=>rfl));simp only [go_sem, Nat.reduceEqDiff, Nat.reduceAdd, Nat.reduceMul, Nat.reduceLeDiff, Nat.reduceLT, Int.reduceLT, Int.reduceLE, Int.reduceEq, Int.reduceNeg, Int.reduceToNat, Nat.reducePow, reduceIte, reduceCtorEq, c1, c2, t1])|((with_reducible first|refine jW ?hy ?_|refine jY ?hy ?_);case hy=>rfl)|((with_reducible first|refine jX ?hy ?_|refine jZ ?hy ?_);case hy=>rfl)|((with_reducible refine jF ?hy ?_);case hy=>decide))
  exact fin
 ·have t1 : (((N k).l : Int) == (h : Int)) = false := by simp; omega
  have t2 : (((N k).r : Int) == (h : Int)) = decide ((N k).r = h) := by
   rw [Bool.eq_iff_iff]; simp; omega
  simp only [h1, decide_false, Bool.false_or] at fin
  repeat' (first|(with_reducible first|refine jA ?_|(refine hK _ _ ?_;clear hK K)|refine jJ fun K hK=>?_|refine jK ?_|refine jL ?_|refine jM ?_|refine jN ?_|refine jO ?_|refine jP ?_|refine jQ ?_|(refine jB ?_;clear hK K)|(refine jC ?_;clear hK K)|refine jD ?_|refine jE ?_|refine jG ?_|refine jH ?_|refine jI ?_)|((with_reducible refine jR ?hq ?_);case hq=>rfl)|((first|(with_reducible first|refine jS fun K hK=>?_|refine jT ?_|refine jU ?_)|((with_reducible refine jV ?hy fun K hK=>?_);case hy=>rfl));simp only [go_sem, Nat.reduceEqDiff, Nat.reduceAdd, Nat.reduceMul, Nat.reduceLeDiff, Nat.reduceLT, Int.reduceLT, Int.reduceLE, Int.reduceEq, Int.reduceNeg, Int.reduceToNat, Nat.reducePow, reduceIte, reduceCtorEq, c1, c2, t1, t2])|((with_reducible first|refine jW ?hy ?_|refine jY ?hy ?_);case hy=>rfl)|((with_reducible first|refine jX ?hy ?_|refine jZ ?hy ?_);case hy=>rfl)|((with_reducible refine jF ?hy ?_);case hy=>decide))
  exact fin
theorem turn_link {k : Nat} (hN : NA H t g c len N) (hk : k < len) (fin : ∀ H', NA H' t g c len (upd N k (N k).flip) → Fr (· = g) H H' → K (.tuple #[]) H') :
  CallsH Try.prog 72 #[.pointer (some ⟨g, k * 10, none⟩)] H K := by
 have c1 := hN.cell (j := 1) hk rfl
 have c2 := hN.cell (j := 2) hk rfl
 have w1 := hN.okw hk 1 (by omega)
 have w2 := hN.okw hk 2 (by omega)
 have w3 := hN.okw hk 3 (by omega)
 have q0 : Cells [(g, k * 10 + 1, .int .i64 (N k).l), (g, k * 10 + 2, .int .i64 (N k).r)] H := ⟨c1, c2, trivial⟩
 have n1 := hN.set (j := 1) (v := .int .i64 (N k).r) (r := { N k with l := (N k).r }) hk (by omega) rfl (hN.cl.upd (hN.cl.up k hk) (hN.cl.r k hk) (hN.cl.r k hk) (hN.cl.best k hk))
 have n2 := n1.set (j := 2) (v := .int .i64 (N k).l) (r := { N k with l := (N k).r, r := (N k).l }) hk (by omega) (by rw [upd_same]; rfl) (n1.cl.upd (hN.cl.up k hk) (hN.cl.r k hk) (hN.cl.l k hk) (hN.cl.best k hk))
 have n3 := n2.set (j := 3) (v := .bool (!(N k).turned)) (r := (N k).flip) hk (by omega) (by rw [upd_same]; rfl) (n2.cl.upd (hN.cl.up k hk) (hN.cl.r k hk) (hN.cl.l k hk) (hN.cl.best k hk))
 have e : upd (upd (upd N k { N k with l := (N k).r }) k { N k with l := (N k).r, r := (N k).l }) k (N k).flip = upd N k (N k).flip := by
  funext i; unfold upd; split <;> rfl
 rw [e] at n3
 have f3 := ((hset_fr H g (k * 10 + 1) (.int .i64 (N k).r)).trans (hset_fr _ g (k * 10 + 2) (.int .i64 (N k).l))).trans (hset_fr _ g (k * 10 + 3) (.bool (!(N k).turned)))
 have c3 := n2.cell (j := 3) hk rfl
 rw [upd_same] at c3
 refine call72 (by simp) ?_
 simp only [Try.f72, Option.getD_some]
 refine x_drawG [15, 18, 19] [1, 16, 17] [1, 16, 17, 0, 2, 3, 4, 5, 6, 7, 8, 9, 10, 11, 12, 13, 14, 15, 18, 19] rfl (by kernel_rfl) (Cells _) q0 ?_
 repeat' (first|(with_reducible refine xg_nil ?_)|((with_reducible apply xg_free);(case hi=>rfl);(case hg=>rfl);(case h1=>intro H'; simp only [go_sem, Nat.reduceEqDiff, Nat.reduceAdd, Nat.reduceMul, Nat.reduceLeDiff, Nat.reduceLT, Int.reduceLT, Int.reduceLE, Int.reduceEq, Int.reduceNeg, Int.reduceToNat, Nat.reducePow, reduceIte, reduceCtorEq, w1, w2, okW_hset, c3, w3]; rfl))|((with_reducible apply xg_rd);(case hi=>rfl);(case hg=>rfl);(case hr=>rfl);(case h1=>intro H' hS'; (try simp only [Cells, and_true] at hS');simp only [go_sem, Nat.reduceEqDiff, Nat.reduceAdd, Nat.reduceMul, Nat.reduceLeDiff, Nat.reduceLT, Int.reduceLT, Int.reduceLE, Int.reduceEq, Int.reduceNeg, Int.reduceToNat, Nat.reducePow, reduceIte, reduceCtorEq, w1, w2, okW_hset, c3, w3, hS']; rfl))|((with_reducible refine xg_tail ?hz ?_);case hz=>rfl)|((with_reducible refine xg_keep ?hz ?_);case hz=>first|(with_reducible assumption)|(simp only [go_sem, Nat.reduceEqDiff, Nat.reduceAdd, Nat.reduceMul, Nat.reduceLeDiff, Nat.reduceLT, Int.reduceLT, Int.reduceLE, Int.reduceEq, Int.reduceNeg, Int.reduceToNat, Nat.reducePow, reduceIte, reduceCtorEq, Cells, and_true, w1, w2, okW_hset, c3, w3]; done)|assumption)|((with_reducible apply xg_op);(case hi=>rfl);(case hg=>rfl);(case hr=>rfl);intro K hK; simp only [go_sem, Nat.reduceEqDiff, Nat.reduceAdd, Nat.reduceMul, Nat.reduceLeDiff, Nat.reduceLT, Int.reduceLT, Int.reduceLE, Int.reduceEq, Int.reduceNeg, Int.reduceToNat, Nat.reducePow, reduceIte, reduceCtorEq, w1, w2, okW_hset, c3, w3])|(with_reducible first|refine jA ?_|(refine hK _ _ ?_;clear hK K)|refine jJ fun K hK=>?_|refine jK ?_|refine jL ?_|refine jM ?_|refine jN ?_|refine jO ?_|refine jP ?_|refine jQ ?_|(refine jB ?_;clear hK K)|(refine jC ?_;clear hK K)|refine jD ?_|refine jE ?_|refine jG ?_|refine jH ?_|refine jI ?_)|((with_reducible refine jR ?hq ?_);case hq=>rfl)|((first|(with_reducible first|refine jS fun K hK=>?_|refine jT ?_|refine jU ?_)|((with_reducible refine jV ?hy fun K hK=>?_);case hy=>rfl));simp only [go_sem, Nat.reduceEqDiff, Nat.reduceAdd, Nat.reduceMul, Nat.reduceLeDiff, Nat.reduceLT, Int.reduceLT, Int.reduceLE, Int.reduceEq, Int.reduceNeg, Int.reduceToNat, Nat.reducePow, reduceIte, reduceCtorEq, w1, w2, okW_hset, c3, w3])|((with_reducible first|refine jW ?hy ?_|refine jY ?hy ?_);case hy=>rfl)|((with_reducible first|refine jX ?hy ?_|refine jZ ?hy ?_);case hy=>rfl)|((with_reducible refine jF ?hy ?_);case hy=>decide))
 exact fin _ n3 f3
end
section
variable {H H' : Heap} {t g c len : Nat} {N : Nodes} {K : Value → Heap → Prop}
theorem top_ok {h : Nat} (hN : NA H t g c len N) (hh : h < len) (fin : K (.bool (topB N h)) H) :
  CallsH Try.prog 85 #[.pointer (some ⟨t, 0, none⟩), .int .i64 (h : Nat)] H K := by
 have hd := hN.hd
 have c0 := hN.cell0 hh
 have hu := hN.cl.up h hh
 unfold topB at fin
 refine call85 (by simp) ?_
 simp only [Try.f85, Option.getD_some]
 by_cases h0 : (N h).up = 0
 ·have t1 : (((N h).up : Int) == 0) = true := by simp [h0]
  simp only [h0, decide_true, Bool.true_or] at fin
  repeat' (first|(with_reducible first|refine jA ?_|(refine hK _ _ ?_;clear hK K)|refine jJ fun K hK=>?_|refine jK ?_|refine jL ?_|refine jM ?_|refine jN ?_|refine jO ?_|refine jP ?_|refine jQ ?_|(refine jB ?_;clear hK K)|(refine jC ?_;clear hK K)|refine jD ?_|refine jE ?_|refine jG ?_|refine jH ?_|refine jI ?_)|((with_reducible refine jR ?hq ?_);case hq=>rfl)|((first|(with_reducible first|refine jS fun K hK=>?_|refine jT ?_|refine jU ?_)|((with_reducible refine jV ?hy fun K hK=>?_);case hy=>rfl));simp only [go_sem, Nat.reduceEqDiff, Nat.reduceAdd, Nat.reduceMul, Nat.reduceLeDiff, Nat.reduceLT, Int.reduceLT, Int.reduceLE, Int.reduceEq, Int.reduceNeg, Int.reduceToNat, Nat.reducePow, reduceIte, reduceCtorEq, hd, c0, hh, t1])|((with_reducible first|refine jW ?hy ?_|refine jY ?hy ?_);case hy=>rfl)|((with_reducible first|refine jX ?hy ?_|refine jZ ?hy ?_);case hy=>rfl)|((with_reducible refine jF ?hy ?_);case hy=>decide))
  exact fin
 ·have t1 : (((N h).up : Int) == 0) = false := by simp [h0]
  simp only [h0, decide_false, Bool.false_or] at fin
  repeat' (first|(with_reducible first|refine jA ?_|(refine hK _ _ ?_;clear hK K)|refine jJ fun K hK=>?_|refine jK ?_|refine jL ?_|refine jM ?_|refine jN ?_|refine jO ?_|refine jP ?_|refine jQ ?_|(refine jB ?_;clear hK K)|(refine jC ?_;clear hK K)|refine jD ?_|refine jE ?_|refine jG ?_|refine jH ?_|refine jI ?_)|((with_reducible refine jR ?hq ?_);case hq=>rfl)|((first|(with_reducible first|refine jS fun K hK=>?_|refine jT ?_|refine jU ?_)|((with_reducible refine jV ?hy fun K hK=>?_);case hy=>rfl));simp only [go_sem, Nat.reduceEqDiff, Nat.reduceAdd, Nat.reduceMul, Nat.reduceLeDiff, Nat.reduceLT, Int.reduceLT, Int.reduceLE, Int.reduceEq, Int.reduceNeg, Int.reduceToNat, Nat.reducePow, reduceIte, reduceCtorEq, hd, c0, hh, t1, hu])|((with_reducible first|refine jW ?hy ?_|refine jY ?hy ?_);case hy=>rfl)|((with_reducible first|refine jX ?hy ?_|refine jZ ?hy ?_);case hy=>rfl)|((with_reducible refine jF ?hy ?_);case hy=>decide))
  refine has_link hN hu ?_
  repeat' (first|(with_reducible first|refine jA ?_|(refine hK _ _ ?_;clear hK K)|refine jJ fun K hK=>?_|refine jK ?_|refine jL ?_|refine jM ?_|refine jN ?_|refine jO ?_|refine jP ?_|refine jQ ?_|(refine jB ?_;clear hK K)|(refine jC ?_;clear hK K)|refine jD ?_|refine jE ?_|refine jG ?_|refine jH ?_|refine jI ?_)|((with_reducible refine jR ?hq ?_);case hq=>rfl)|((first|(with_reducible first|refine jS fun K hK=>?_|refine jT ?_|refine jU ?_)|((with_reducible refine jV ?hy fun K hK=>?_);case hy=>rfl));simp only [go_sem, Nat.reduceEqDiff, Nat.reduceAdd, Nat.reduceMul, Nat.reduceLeDiff, Nat.reduceLT, Int.reduceLT, Int.reduceLE, Int.reduceEq, Int.reduceNeg, Int.reduceToNat, Nat.reducePow, reduceIte, reduceCtorEq])|((with_reducible first|refine jW ?hy ?_|refine jY ?hy ?_);case hy=>rfl)|((with_reducible first|refine jX ?hy ?_|refine jZ ?hy ?_);case hy=>rfl)|((with_reducible refine jF ?hy ?_);case hy=>decide))
  exact fin
theorem heavier_ok {L : Value → Heap → Prop} {a b : Nat} (hN : NA H t g c len N) (ha : a < len) (hb : b < len) (fin : ∀ H', Fr (fun _ => False) H H' → L (.int .i64 (heavN N a b : Nat)) H') :
  CallsH Try.prog 88 #[.pointer (some ⟨t, 0, none⟩), .int .i64 (a : Nat), .int .i64 (b : Nat)] H L := by
 have hd := hN.hd
 have a5 := hN.cell (j := 5) ha rfl
 have a6 := hN.cell (j := 6) ha rfl
 have a7 := hN.cell (j := 7) ha rfl
 have a8 := hN.cell (j := 8) ha rfl
 have b5 := hN.cell (j := 5) hb rfl
 have b6 := hN.cell (j := 6) hb rfl
 have b7 := hN.cell (j := 7) hb rfl
 have b8 := hN.cell (j := 8) hb rfl
 have q0 : Cells [(t, 1, .slice (some ⟨g, 0, none⟩) len c), (g, a * 10 + 5, .int .i64 (N a).e.id), (g, a * 10 + 6, .int .i64 (N a).e.u), (g, a * 10 + 7, .int .i64 (N a).e.v), (g, a * 10 + 8, .int .i64 (N a).e.w),
  (g, b * 10 + 5, .int .i64 (N b).e.id), (g, b * 10 + 6, .int .i64 (N b).e.u), (g, b * 10 + 7, .int .i64 (N b).e.v), (g, b * 10 + 8, .int .i64 (N b).e.w)] H := ⟨hd, a5, a6, a7, a8, b5, b6, b7, b8, trivial⟩
 have ht := hN.lt.1
 have hg := hN.lt.2
 have n1 : ¬ H.size = t := by omega
 have n2 : ¬ H.size = g := by omega
 have n3 : ¬ t = H.size := by omega
 have n4 : ¬ g = H.size := by omega
 have n5 : ¬ t = H.size + 1 := by omega
 have n6 : ¬ g = H.size + 1 := by omega
 have l5 : t < H.size + 1 := by omega
 have l6 : g < H.size + 1 := by omega
 refine call88 (by simp) ?_
 simp only [Try.f88, Option.getD_some]
 repeat' (first|(with_reducible first|refine jA ?_|(refine hK _ _ ?_;clear hK K)|refine jJ fun K hK=>?_|refine jK ?_|refine jL ?_|refine jM ?_|refine jN ?_|refine jO ?_|refine jP ?_|refine jQ ?_|(refine jB ?_;clear hK K)|(refine jC ?_;clear hK K)|refine jD ?_|refine jE ?_|refine jG ?_|refine jH ?_|refine jI ?_)|((with_reducible refine jR ?hq ?_);case hq=>rfl)|((first|(with_reducible first|refine jS fun K hK=>?_|refine jT ?_|refine jU ?_)|((with_reducible refine jV ?hy fun K hK=>?_);case hy=>rfl));simp only [go_sem, Nat.reduceEqDiff, Nat.reduceAdd, Nat.reduceMul, Nat.reduceLeDiff, Nat.reduceLT, Int.reduceLT, Int.reduceLE, Int.reduceEq, Int.reduceNeg, Int.reduceToNat, Nat.reducePow, reduceIte, reduceCtorEq])|((with_reducible first|refine jW ?hy ?_|refine jY ?hy ?_);case hy=>rfl)|((with_reducible first|refine jX ?hy ?_|refine jZ ?hy ?_);case hy=>rfl)|((with_reducible refine jF ?hy ?_);case hy=>decide))
 have tail : ∀ (p q : Nat) (e' : Env) (H2 : Heap), e' 1 = .int .i64 (a : Nat) → e' 2 = .int .i64 (b : Nat) → e' 7 = .pointer (some ⟨p, 0, none⟩) → e' 8 = .pointer (some ⟨q, 0, none⟩) → Fr (fun _ => False) H H2 →
   Cells [(p, 0, .int .i64 (N a).e.id), (p, 3, .int .i64 (N a).e.w), (q, 0, .int .i64 (N b).e.id), (q, 3, .int .i64 (N b).e.w)] H2 → K e' H2 := by
  intro p q e' H2 i1 i2 i7 i8 hf hq
  refine hK _ _ ?_
  clear hK K
  simp only [Cells, and_true] at hq
  obtain ⟨p0, p3, q0, q3⟩ := hq
  have fin' := fin H2 hf
  unfold heavN at fin'
  by_cases ha0 : a = 0
  ·have t1 : ((a : Int) == 0) = true := by simp [ha0]
   rw [if_pos ha0] at fin'
   repeat' (first|(with_reducible first|refine jA ?_|(refine hK _ _ ?_;clear hK K)|refine jJ fun K hK=>?_|refine jK ?_|refine jL ?_|refine jM ?_|refine jN ?_|refine jO ?_|refine jP ?_|refine jQ ?_|(refine jB ?_;clear hK K)|(refine jC ?_;clear hK K)|refine jD ?_|refine jE ?_|refine jG ?_|refine jH ?_|refine jI ?_)|((with_reducible refine jR ?hq ?_);case hq=>rfl)|((first|(with_reducible first|refine jS fun K hK=>?_|refine jT ?_|refine jU ?_)|((with_reducible refine jV ?hy fun K hK=>?_);case hy=>rfl));simp only [go_sem, Nat.reduceEqDiff, Nat.reduceAdd, Nat.reduceMul, Nat.reduceLeDiff, Nat.reduceLT, Int.reduceLT, Int.reduceLE, Int.reduceEq, Int.reduceNeg, Int.reduceToNat, Nat.reducePow, reduceIte, reduceCtorEq, i1, i2, i7, i8, t1])|((with_reducible first|refine jW ?hy ?_|refine jY ?hy ?_);case hy=>rfl)|((with_reducible first|refine jX ?hy ?_|refine jZ ?hy ?_);case hy=>rfl)|((with_reducible refine jF ?hy ?_);case hy=>decide))
   exact fin'
  ·have t1 : ((a : Int) == 0) = false := by simp [ha0]
   rw [if_neg ha0] at fin'
   by_cases hb0 : b = 0
   ·have t2 : ((b : Int) == 0) = true := by simp [hb0]
    rw [if_pos hb0] at fin'
    repeat' (first|(with_reducible first|refine jA ?_|(refine hK _ _ ?_;clear hK K)|refine jJ fun K hK=>?_|refine jK ?_|refine jL ?_|refine jM ?_|refine jN ?_|refine jO ?_|refine jP ?_|refine jQ ?_|(refine jB ?_;clear hK K)|(refine jC ?_;clear hK K)|refine jD ?_|refine jE ?_|refine jG ?_|refine jH ?_|refine jI ?_)|((with_reducible refine jR ?hq ?_);case hq=>rfl)|((first|(with_reducible first|refine jS fun K hK=>?_|refine jT ?_|refine jU ?_)|((with_reducible refine jV ?hy fun K hK=>?_);case hy=>rfl));simp only [go_sem, Nat.reduceEqDiff, Nat.reduceAdd, Nat.reduceMul, Nat.reduceLeDiff, Nat.reduceLT, Int.reduceLT, Int.reduceLE, Int.reduceEq, Int.reduceNeg, Int.reduceToNat, Nat.reducePow, reduceIte, reduceCtorEq, i1, i2, i7, i8, t1, t2])|((with_reducible first|refine jW ?hy ?_|refine jY ?hy ?_);case hy=>rfl)|((with_reducible first|refine jX ?hy ?_|refine jZ ?hy ?_);case hy=>rfl)|((with_reducible refine jF ?hy ?_);case hy=>decide))
    exact fin'
   ·have t2 : ((b : Int) == 0) = false := by simp [hb0]
    rw [if_neg hb0] at fin'
    by_cases h1 : (N a).e.w > (N b).e.w
    ·have s1 : ((N b).e.w < (N a).e.w) = True := by simp; omega
     have e1 : heavy (N a).e (N b).e = true := by unfold heavy; simp [h1]
     rw [e1, if_pos rfl] at fin'
     repeat' (first|(with_reducible first|refine jA ?_|(refine hK _ _ ?_;clear hK K)|refine jJ fun K hK=>?_|refine jK ?_|refine jL ?_|refine jM ?_|refine jN ?_|refine jO ?_|refine jP ?_|refine jQ ?_|(refine jB ?_;clear hK K)|(refine jC ?_;clear hK K)|refine jD ?_|refine jE ?_|refine jG ?_|refine jH ?_|refine jI ?_)|((with_reducible refine jR ?hq ?_);case hq=>rfl)|((first|(with_reducible first|refine jS fun K hK=>?_|refine jT ?_|refine jU ?_)|((with_reducible refine jV ?hy fun K hK=>?_);case hy=>rfl));simp only [go_sem, Nat.reduceEqDiff, Nat.reduceAdd, Nat.reduceMul, Nat.reduceLeDiff, Nat.reduceLT, Int.reduceLT, Int.reduceLE, Int.reduceEq, Int.reduceNeg, Int.reduceToNat, Nat.reducePow, reduceIte, reduceCtorEq, i1, i2, i7, i8, t1, t2, p0, p3, q0, q3, s1])|((with_reducible first|refine jW ?hy ?_|refine jY ?hy ?_);case hy=>rfl)|((with_reducible first|refine jX ?hy ?_|refine jZ ?hy ?_);case hy=>rfl)|((with_reducible refine jF ?hy ?_);case hy=>decide))
     exact fin'
    ·have s1 : ((N b).e.w < (N a).e.w) = False := by simp; omega
     by_cases h2 : (N a).e.w = (N b).e.w
     ·have s2 : ((N a).e.w == (N b).e.w) = true := by simp [h2]
      by_cases h3 : (N a).e.id > (N b).e.id
      ·have s3 : ((N b).e.id < (N a).e.id) = True := by simp; omega
       have e1 : heavy (N a).e (N b).e = true := by unfold heavy; simp [h2, h3]
       rw [e1, if_pos rfl] at fin'
       repeat' (first|(with_reducible first|refine jA ?_|(refine hK _ _ ?_;clear hK K)|refine jJ fun K hK=>?_|refine jK ?_|refine jL ?_|refine jM ?_|refine jN ?_|refine jO ?_|refine jP ?_|refine jQ ?_|(refine jB ?_;clear hK K)|(refine jC ?_;clear hK K)|refine jD ?_|refine jE ?_|refine jG ?_|refine jH ?_|refine jI ?_)|((with_reducible refine jR ?hq ?_);case hq=>rfl)|((first|(with_reducible first|refine jS fun K hK=>?_|refine jT ?_|refine jU ?_)|((with_reducible refine jV ?hy fun K hK=>?_);case hy=>rfl));simp only [go_sem, Nat.reduceEqDiff, Nat.reduceAdd, Nat.reduceMul, Nat.reduceLeDiff, Nat.reduceLT, Int.reduceLT, Int.reduceLE, Int.reduceEq, Int.reduceNeg, Int.reduceToNat, Nat.reducePow, reduceIte, reduceCtorEq, i1, i2, i7, i8, t1, t2, p0, p3, q0, q3, s1, s2, s3])|((with_reducible first|refine jW ?hy ?_|refine jY ?hy ?_);case hy=>rfl)|((with_reducible first|refine jX ?hy ?_|refine jZ ?hy ?_);case hy=>rfl)|((with_reducible refine jF ?hy ?_);case hy=>decide))
       exact fin'
      ·have s3 : ((N b).e.id < (N a).e.id) = False := by simp; omega
       have e1 : heavy (N a).e (N b).e = false := by unfold heavy; simp [h2, h3]
       rw [e1, if_neg (by simp)] at fin'
       repeat' (first|(with_reducible first|refine jA ?_|(refine hK _ _ ?_;clear hK K)|refine jJ fun K hK=>?_|refine jK ?_|refine jL ?_|refine jM ?_|refine jN ?_|refine jO ?_|refine jP ?_|refine jQ ?_|(refine jB ?_;clear hK K)|(refine jC ?_;clear hK K)|refine jD ?_|refine jE ?_|refine jG ?_|refine jH ?_|refine jI ?_)|((with_reducible refine jR ?hq ?_);case hq=>rfl)|((first|(with_reducible first|refine jS fun K hK=>?_|refine jT ?_|refine jU ?_)|((with_reducible refine jV ?hy fun K hK=>?_);case hy=>rfl));simp only [go_sem, Nat.reduceEqDiff, Nat.reduceAdd, Nat.reduceMul, Nat.reduceLeDiff, Nat.reduceLT, Int.reduceLT, Int.reduceLE, Int.reduceEq, Int.reduceNeg, Int.reduceToNat, Nat.reducePow, reduceIte, reduceCtorEq, i1, i2, i7, i8, t1, t2, p0, p3, q0, q3, s1, s2, s3])|((with_reducible first|refine jW ?hy ?_|refine jY ?hy ?_);case hy=>rfl)|((with_reducible first|refine jX ?hy ?_|refine jZ ?hy ?_);case hy=>rfl)|((with_reducible refine jF ?hy ?_);case hy=>decide))
       exact fin'
     ·have s2 : ((N a).e.w == (N b).e.w) = false := by simp [h2]
      have e1 : heavy (N a).e (N b).e = false := by unfold heavy; simp [h1, h2]
      rw [e1, if_neg (by simp)] at fin'
      repeat' (first|(with_reducible first|refine jA ?_|(refine hK _ _ ?_;clear hK K)|refine jJ fun K hK=>?_|refine jK ?_|refine jL ?_|refine jM ?_|refine jN ?_|refine jO ?_|refine jP ?_|refine jQ ?_|(refine jB ?_;clear hK K)|(refine jC ?_;clear hK K)|refine jD ?_|refine jE ?_|refine jG ?_|refine jH ?_|refine jI ?_)|((with_reducible refine jR ?hq ?_);case hq=>rfl)|((first|(with_reducible first|refine jS fun K hK=>?_|refine jT ?_|refine jU ?_)|((with_reducible refine jV ?hy fun K hK=>?_);case hy=>rfl));simp only [go_sem, Nat.reduceEqDiff, Nat.reduceAdd, Nat.reduceMul, Nat.reduceLeDiff, Nat.reduceLT, Int.reduceLT, Int.reduceLE, Int.reduceEq, Int.reduceNeg, Int.reduceToNat, Nat.reducePow, reduceIte, reduceCtorEq, i1, i2, i7, i8, t1, t2, p0, p3, q0, q3, s1, s2])|((with_reducible first|refine jW ?hy ?_|refine jY ?hy ?_);case hy=>rfl)|((with_reducible first|refine jX ?hy ?_|refine jZ ?hy ?_);case hy=>rfl)|((with_reducible refine jF ?hy ?_);case hy=>decide))
      exact fin'
 refine x_drawF (.fork [0, 1, 2, 3, 4, 5, 6, 7, 8, 9, 10, 11, 12, 13, 14, 15] 16 (.lin [] [17, 18, 19]) 17 (.lin [] [16, 18, 19])) rfl (by kernel_rfl) (Cells _) q0 ?_
 refine xf_fork ?_
 have qq := q0
 simp only [Cells, and_true] at qq
 repeat' (first|(with_reducible refine xs_nil ?_)|((first|((with_reducible apply xs_rd);case hi=>rfl)|((with_reducible apply xs_guard_yes);(case hi=>rfl);(case hy=>rfl)));(case hr=>rfl);(case h1=>intro H' hS'; (try simp only [Cells, and_true] at hS');simp only [go_sem, Nat.reduceEqDiff, Nat.reduceAdd, Nat.reduceMul, Nat.reduceLeDiff, Nat.reduceLT, Int.reduceLT, Int.reduceLE, Int.reduceEq, Int.reduceNeg, Int.reduceToNat, Nat.reducePow, reduceIte, reduceCtorEq, ha, hb, hS']; rfl))|((with_reducible refine xs_tail ?hz ?_);case hz=>rfl)|((with_reducible refine xs_keep ?hz ?_);case hz=>first|(with_reducible assumption)|(simp only [go_sem, Nat.reduceEqDiff, Nat.reduceAdd, Nat.reduceMul, Nat.reduceLeDiff, Nat.reduceLT, Int.reduceLT, Int.reduceLE, Int.reduceEq, Int.reduceNeg, Int.reduceToNat, Nat.reducePow, reduceIte, reduceCtorEq, Cells, and_true, ha, hb]; done)|assumption)|((with_reducible apply xs_guard_no);(case hi=>rfl);(case hy=>rfl);(case hS=>assumption))|((first|((with_reducible apply xs_op);(case hi=>rfl))|((with_reducible apply xs_op_yes);(case hi=>rfl);(case hy=>rfl)));(case hr=>rfl);intro K hK; simp only [go_sem, Nat.reduceEqDiff, Nat.reduceAdd, Nat.reduceMul, Nat.reduceLeDiff, Nat.reduceLT, Int.reduceLT, Int.reduceLE, Int.reduceEq, Int.reduceNeg, Int.reduceToNat, Nat.reducePow, reduceIte, reduceCtorEq, ha, hb])|(with_reducible first|refine jA ?_|(refine hK _ _ ?_;clear hK K)|refine jJ fun K hK=>?_|refine jK ?_|refine jL ?_|refine jM ?_|refine jN ?_|refine jO ?_|refine jP ?_|refine jQ ?_|(refine jB ?_;clear hK K)|(refine jC ?_;clear hK K)|refine jD ?_|refine jE ?_|refine jG ?_|refine jH ?_|refine jI ?_)|((with_reducible refine jR ?hq ?_);case hq=>rfl)|((first|(with_reducible first|refine jS fun K hK=>?_|refine jT ?_|refine jU ?_)|((with_reducible refine jV ?hy fun K hK=>?_);case hy=>rfl));simp only [go_sem, Nat.reduceEqDiff, Nat.reduceAdd, Nat.reduceMul, Nat.reduceLeDiff, Nat.reduceLT, Int.reduceLT, Int.reduceLE, Int.reduceEq, Int.reduceNeg, Int.reduceToNat, Nat.reducePow, reduceIte, reduceCtorEq, ha, hb])|((with_reducible first|refine jW ?hy ?_|refine jY ?hy ?_);case hy=>rfl)|((with_reducible first|refine jX ?hy ?_|refine jZ ?hy ?_);case hy=>rfl)|((with_reducible refine jF ?hy ?_);case hy=>decide))
 refine ⟨?_, ?_⟩
 ·repeat' (first|(with_reducible refine xs_nil ?_)|((first|((with_reducible apply xs_rd);case hi=>rfl)|((with_reducible apply xs_guard_yes);(case hi=>rfl);(case hy=>rfl)));(case hr=>rfl);(case h1=>intro H' hS'; (try simp only [Cells, and_true] at hS');simp only [go_sem, Nat.reduceEqDiff, Nat.reduceAdd, Nat.reduceMul, Nat.reduceLeDiff, Nat.reduceLT, Int.reduceLT, Int.reduceLE, Int.reduceEq, Int.reduceNeg, Int.reduceToNat, Nat.reducePow, reduceIte, reduceCtorEq, n1, n2, n3, n4, n5, n6, l5, l6, ht, hg, qq, hcell_push, hcell_top, okW_push, okW_top, hcell_hset_ne, hcell_hset_off, hcell_hset_eq, okW_hset, hset_size, Array.size_push, Nat.lt_add_one, ne_add_one, add_one_ne, Nat.add_assoc, add_same, add_lt_same, Nat.reduceEqDiff, lt_add_k, add_k_ne, ne_add_k, hS']; rfl))|((with_reducible refine xs_tail ?hz ?_);case hz=>rfl)|((with_reducible refine xs_keep ?hz ?_);case hz=>first|(with_reducible assumption)|(simp only [go_sem, Nat.reduceEqDiff, Nat.reduceAdd, Nat.reduceMul, Nat.reduceLeDiff, Nat.reduceLT, Int.reduceLT, Int.reduceLE, Int.reduceEq, Int.reduceNeg, Int.reduceToNat, Nat.reducePow, reduceIte, reduceCtorEq, Cells, and_true, n1, n2, n3, n4, n5, n6, l5, l6, ht, hg, qq, hcell_push, hcell_top, okW_push, okW_top, hcell_hset_ne, hcell_hset_off, hcell_hset_eq, okW_hset, hset_size, Array.size_push, Nat.lt_add_one, ne_add_one, add_one_ne, Nat.add_assoc, add_same, add_lt_same, Nat.reduceEqDiff, lt_add_k, add_k_ne, ne_add_k]; done)|assumption)|((with_reducible apply xs_guard_no);(case hi=>rfl);(case hy=>rfl);(case hS=>assumption))|((first|((with_reducible apply xs_op);(case hi=>rfl))|((with_reducible apply xs_op_yes);(case hi=>rfl);(case hy=>rfl)));(case hr=>rfl);intro K hK; simp only [go_sem, Nat.reduceEqDiff, Nat.reduceAdd, Nat.reduceMul, Nat.reduceLeDiff, Nat.reduceLT, Int.reduceLT, Int.reduceLE, Int.reduceEq, Int.reduceNeg, Int.reduceToNat, Nat.reducePow, reduceIte, reduceCtorEq, n1, n2, n3, n4, n5, n6, l5, l6, ht, hg, qq, hcell_push, hcell_top, okW_push, okW_top, hcell_hset_ne, hcell_hset_off, hcell_hset_eq, okW_hset, hset_size, Array.size_push, Nat.lt_add_one, ne_add_one, add_one_ne, Nat.add_assoc, add_same, add_lt_same, Nat.reduceEqDiff, lt_add_k, add_k_ne, ne_add_k])|(with_reducible first|refine jA ?_|(refine hK _ _ ?_;clear hK K)|refine jJ fun K hK=>?_|refine jK ?_|refine jL ?_|refine jM ?_|refine jN ?_|refine jO ?_|refine jP ?_|refine jQ ?_|(refine jB ?_;clear hK K)|(refine jC ?_;clear hK K)|refine jD ?_|refine jE ?_|refine jG ?_|refine jH ?_|refine jI ?_)|((with_reducible refine jR ?hq ?_);case hq=>rfl)|((first|(with_reducible first|refine jS fun K hK=>?_|refine jT ?_|refine jU ?_)|((with_reducible refine jV ?hy fun K hK=>?_);case hy=>rfl));simp only [go_sem, Nat.reduceEqDiff, Nat.reduceAdd, Nat.reduceMul, Nat.reduceLeDiff, Nat.reduceLT, Int.reduceLT, Int.reduceLE, Int.reduceEq, Int.reduceNeg, Int.reduceToNat, Nat.reducePow, reduceIte, reduceCtorEq, n1, n2, n3, n4, n5, n6, l5, l6, ht, hg, qq, hcell_push, hcell_top, okW_push, okW_top, hcell_hset_ne, hcell_hset_off, hcell_hset_eq, okW_hset, hset_size, Array.size_push, Nat.lt_add_one, ne_add_one, add_one_ne, Nat.add_assoc, add_same, add_lt_same, Nat.reduceEqDiff, lt_add_k, add_k_ne, ne_add_k])|((with_reducible first|refine jW ?hy ?_|refine jY ?hy ?_);case hy=>rfl)|((with_reducible first|refine jX ?hy ?_|refine jZ ?hy ?_);case hy=>rfl)|((with_reducible refine jF ?hy ?_);case hy=>decide))
  refine xf_lin ?_
  repeat' (first|(with_reducible refine xs_nil ?_)|((first|((with_reducible apply xs_rd);case hi=>rfl)|((with_reducible apply xs_guard_yes);(case hi=>rfl);(case hy=>rfl)));(case hr=>rfl);(case h1=>intro H' hS'; (try simp only [Cells, and_true] at hS');simp only [go_sem, Nat.reduceEqDiff, Nat.reduceAdd, Nat.reduceMul, Nat.reduceLeDiff, Nat.reduceLT, Int.reduceLT, Int.reduceLE, Int.reduceEq, Int.reduceNeg, Int.reduceToNat, Nat.reducePow, reduceIte, reduceCtorEq, qq, n1, n2, n3, n4, n5, n6, l5, l6, ht, hg, hcell_push, hcell_top, okW_push, okW_top, hcell_hset_ne, hcell_hset_off, hcell_hset_eq, okW_hset, hset_size, Array.size_push, Nat.lt_add_one, ne_add_one, add_one_ne, Nat.add_assoc, add_same, add_lt_same, Nat.reduceEqDiff, lt_add_k, add_k_ne, ne_add_k, hS']; rfl))|((with_reducible refine xs_tail ?hz ?_);case hz=>rfl)|((with_reducible refine xs_keep ?hz ?_);case hz=>first|(with_reducible assumption)|(simp only [go_sem, Nat.reduceEqDiff, Nat.reduceAdd, Nat.reduceMul, Nat.reduceLeDiff, Nat.reduceLT, Int.reduceLT, Int.reduceLE, Int.reduceEq, Int.reduceNeg, Int.reduceToNat, Nat.reducePow, reduceIte, reduceCtorEq, Cells, and_true, qq, n1, n2, n3, n4, n5, n6, l5, l6, ht, hg, hcell_push, hcell_top, okW_push, okW_top, hcell_hset_ne, hcell_hset_off, hcell_hset_eq, okW_hset, hset_size, Array.size_push, Nat.lt_add_one, ne_add_one, add_one_ne, Nat.add_assoc, add_same, add_lt_same, Nat.reduceEqDiff, lt_add_k, add_k_ne, ne_add_k]; done)|assumption)|((with_reducible apply xs_guard_no);(case hi=>rfl);(case hy=>rfl);(case hS=>assumption))|((first|((with_reducible apply xs_op);(case hi=>rfl))|((with_reducible apply xs_op_yes);(case hi=>rfl);(case hy=>rfl)));(case hr=>rfl);intro K hK; simp only [go_sem, Nat.reduceEqDiff, Nat.reduceAdd, Nat.reduceMul, Nat.reduceLeDiff, Nat.reduceLT, Int.reduceLT, Int.reduceLE, Int.reduceEq, Int.reduceNeg, Int.reduceToNat, Nat.reducePow, reduceIte, reduceCtorEq, qq, n1, n2, n3, n4, n5, n6, l5, l6, ht, hg, hcell_push, hcell_top, okW_push, okW_top, hcell_hset_ne, hcell_hset_off, hcell_hset_eq, okW_hset, hset_size, Array.size_push, Nat.lt_add_one, ne_add_one, add_one_ne, Nat.add_assoc, add_same, add_lt_same, Nat.reduceEqDiff, lt_add_k, add_k_ne, ne_add_k])|(with_reducible first|refine jA ?_|(refine hK _ _ ?_;clear hK K)|refine jJ fun K hK=>?_|refine jK ?_|refine jL ?_|refine jM ?_|refine jN ?_|refine jO ?_|refine jP ?_|refine jQ ?_|(refine jB ?_;clear hK K)|(refine jC ?_;clear hK K)|refine jD ?_|refine jE ?_|refine jG ?_|refine jH ?_|refine jI ?_)|((with_reducible refine jR ?hq ?_);case hq=>rfl)|((first|(with_reducible first|refine jS fun K hK=>?_|refine jT ?_|refine jU ?_)|((with_reducible refine jV ?hy fun K hK=>?_);case hy=>rfl));simp only [go_sem, Nat.reduceEqDiff, Nat.reduceAdd, Nat.reduceMul, Nat.reduceLeDiff, Nat.reduceLT, Int.reduceLT, Int.reduceLE, Int.reduceEq, Int.reduceNeg, Int.reduceToNat, Nat.reducePow, reduceIte, reduceCtorEq, qq, n1, n2, n3, n4, n5, n6, l5, l6, ht, hg, hcell_push, hcell_top, okW_push, okW_top, hcell_hset_ne, hcell_hset_off, hcell_hset_eq, okW_hset, hset_size, Array.size_push, Nat.lt_add_one, ne_add_one, add_one_ne, Nat.add_assoc, add_same, add_lt_same, Nat.reduceEqDiff, lt_add_k, add_k_ne, ne_add_k])|((with_reducible first|refine jW ?hy ?_|refine jY ?hy ?_);case hy=>rfl)|((with_reducible first|refine jX ?hy ?_|refine jZ ?hy ?_);case hy=>rfl)|((with_reducible refine jF ?hy ?_);case hy=>decide))
  exact tail H.size (H.size + 1) _ _ rfl rfl rfl rfl (by ((repeat (first | refine Fr.set ?_ (by simp) _ | refine Fr.push ?_ _)); exact Fr.refl _ _)) (by simp only [go_sem, Nat.reduceEqDiff, Nat.reduceAdd, Nat.reduceMul, Nat.reduceLeDiff, Nat.reduceLT, Int.reduceLT, Int.reduceLE, Int.reduceEq, Int.reduceNeg, Int.reduceToNat, Nat.reducePow, reduceIte, reduceCtorEq, Cells, and_true, hcell_push, hcell_top, okW_push, okW_top, hcell_hset_ne, hcell_hset_off, hcell_hset_eq, okW_hset, hset_size, Array.size_push, Nat.lt_add_one, ne_add_one, add_one_ne, Nat.add_assoc, add_same, add_lt_same, Nat.reduceEqDiff, lt_add_k, add_k_ne, ne_add_k])
 ·repeat' (first|(with_reducible refine xs_nil ?_)|((first|((with_reducible apply xs_rd);case hi=>rfl)|((with_reducible apply xs_guard_yes);(case hi=>rfl);(case hy=>rfl)));(case hr=>rfl);(case h1=>intro H' hS'; (try simp only [Cells, and_true] at hS');simp only [go_sem, Nat.reduceEqDiff, Nat.reduceAdd, Nat.reduceMul, Nat.reduceLeDiff, Nat.reduceLT, Int.reduceLT, Int.reduceLE, Int.reduceEq, Int.reduceNeg, Int.reduceToNat, Nat.reducePow, reduceIte, reduceCtorEq, n1, n2, n3, n4, n5, n6, l5, l6, ht, hg, qq, hcell_push, hcell_top, okW_push, okW_top, hcell_hset_ne, hcell_hset_off, hcell_hset_eq, okW_hset, hset_size, Array.size_push, Nat.lt_add_one, ne_add_one, add_one_ne, Nat.add_assoc, add_same, add_lt_same, Nat.reduceEqDiff, lt_add_k, add_k_ne, ne_add_k, hS']; rfl))|((with_reducible refine xs_tail ?hz ?_);case hz=>rfl)|((with_reducible refine xs_keep ?hz ?_);case hz=>first|(with_reducible assumption)|(simp only [go_sem, Nat.reduceEqDiff, Nat.reduceAdd, Nat.reduceMul, Nat.reduceLeDiff, Nat.reduceLT, Int.reduceLT, Int.reduceLE, Int.reduceEq, Int.reduceNeg, Int.reduceToNat, Nat.reducePow, reduceIte, reduceCtorEq, Cells, and_true, n1, n2, n3, n4, n5, n6, l5, l6, ht, hg, qq, hcell_push, hcell_top, okW_push, okW_top, hcell_hset_ne, hcell_hset_off, hcell_hset_eq, okW_hset, hset_size, Array.size_push, Nat.lt_add_one, ne_add_one, add_one_ne, Nat.add_assoc, add_same, add_lt_same, Nat.reduceEqDiff, lt_add_k, add_k_ne, ne_add_k]; done)|assumption)|((with_reducible apply xs_guard_no);(case hi=>rfl);(case hy=>rfl);(case hS=>assumption))|((first|((with_reducible apply xs_op);(case hi=>rfl))|((with_reducible apply xs_op_yes);(case hi=>rfl);(case hy=>rfl)));(case hr=>rfl);intro K hK; simp only [go_sem, Nat.reduceEqDiff, Nat.reduceAdd, Nat.reduceMul, Nat.reduceLeDiff, Nat.reduceLT, Int.reduceLT, Int.reduceLE, Int.reduceEq, Int.reduceNeg, Int.reduceToNat, Nat.reducePow, reduceIte, reduceCtorEq, n1, n2, n3, n4, n5, n6, l5, l6, ht, hg, qq, hcell_push, hcell_top, okW_push, okW_top, hcell_hset_ne, hcell_hset_off, hcell_hset_eq, okW_hset, hset_size, Array.size_push, Nat.lt_add_one, ne_add_one, add_one_ne, Nat.add_assoc, add_same, add_lt_same, Nat.reduceEqDiff, lt_add_k, add_k_ne, ne_add_k])|(with_reducible first|refine jA ?_|(refine hK _ _ ?_;clear hK K)|refine jJ fun K hK=>?_|refine jK ?_|refine jL ?_|refine jM ?_|refine jN ?_|refine jO ?_|refine jP ?_|refine jQ ?_|(refine jB ?_;clear hK K)|(refine jC ?_;clear hK K)|refine jD ?_|refine jE ?_|refine jG ?_|refine jH ?_|refine jI ?_)|((with_reducible refine jR ?hq ?_);case hq=>rfl)|((first|(with_reducible first|refine jS fun K hK=>?_|refine jT ?_|refine jU ?_)|((with_reducible refine jV ?hy fun K hK=>?_);case hy=>rfl));simp only [go_sem, Nat.reduceEqDiff, Nat.reduceAdd, Nat.reduceMul, Nat.reduceLeDiff, Nat.reduceLT, Int.reduceLT, Int.reduceLE, Int.reduceEq, Int.reduceNeg, Int.reduceToNat, Nat.reducePow, reduceIte, reduceCtorEq, n1, n2, n3, n4, n5, n6, l5, l6, ht, hg, qq, hcell_push, hcell_top, okW_push, okW_top, hcell_hset_ne, hcell_hset_off, hcell_hset_eq, okW_hset, hset_size, Array.size_push, Nat.lt_add_one, ne_add_one, add_one_ne, Nat.add_assoc, add_same, add_lt_same, Nat.reduceEqDiff, lt_add_k, add_k_ne, ne_add_k])|((with_reducible first|refine jW ?hy ?_|refine jY ?hy ?_);case hy=>rfl)|((with_reducible first|refine jX ?hy ?_|refine jZ ?hy ?_);case hy=>rfl)|((with_reducible refine jF ?hy ?_);case hy=>decide))
  refine xf_lin ?_
  repeat' (first|(with_reducible refine xs_nil ?_)|((first|((with_reducible apply xs_rd);case hi=>rfl)|((with_reducible apply xs_guard_yes);(case hi=>rfl);(case hy=>rfl)));(case hr=>rfl);(case h1=>intro H' hS'; (try simp only [Cells, and_true] at hS');simp only [go_sem, Nat.reduceEqDiff, Nat.reduceAdd, Nat.reduceMul, Nat.reduceLeDiff, Nat.reduceLT, Int.reduceLT, Int.reduceLE, Int.reduceEq, Int.reduceNeg, Int.reduceToNat, Nat.reducePow, reduceIte, reduceCtorEq, qq, n1, n2, n3, n4, n5, n6, l5, l6, ht, hg, hcell_push, hcell_top, okW_push, okW_top, hcell_hset_ne, hcell_hset_off, hcell_hset_eq, okW_hset, hset_size, Array.size_push, Nat.lt_add_one, ne_add_one, add_one_ne, Nat.add_assoc, add_same, add_lt_same, Nat.reduceEqDiff, lt_add_k, add_k_ne, ne_add_k, hS']; rfl))|((with_reducible refine xs_tail ?hz ?_);case hz=>rfl)|((with_reducible refine xs_keep ?hz ?_);case hz=>first|(with_reducible assumption)|(simp only [go_sem, Nat.reduceEqDiff, Nat.reduceAdd, Nat.reduceMul, Nat.reduceLeDiff, Nat.reduceLT, Int.reduceLT, Int.reduceLE, Int.reduceEq, Int.reduceNeg, Int.reduceToNat, Nat.reducePow, reduceIte, reduceCtorEq, Cells, and_true, qq, n1, n2, n3, n4, n5, n6, l5, l6, ht, hg, hcell_push, hcell_top, okW_push, okW_top, hcell_hset_ne, hcell_hset_off, hcell_hset_eq, okW_hset, hset_size, Array.size_push, Nat.lt_add_one, ne_add_one, add_one_ne, Nat.add_assoc, add_same, add_lt_same, Nat.reduceEqDiff, lt_add_k, add_k_ne, ne_add_k]; done)|assumption)|((with_reducible apply xs_guard_no);(case hi=>rfl);(case hy=>rfl);(case hS=>assumption))|((first|((with_reducible apply xs_op);(case hi=>rfl))|((with_reducible apply xs_op_yes);(case hi=>rfl);(case hy=>rfl)));(case hr=>rfl);intro K hK; simp only [go_sem, Nat.reduceEqDiff, Nat.reduceAdd, Nat.reduceMul, Nat.reduceLeDiff, Nat.reduceLT, Int.reduceLT, Int.reduceLE, Int.reduceEq, Int.reduceNeg, Int.reduceToNat, Nat.reducePow, reduceIte, reduceCtorEq, qq, n1, n2, n3, n4, n5, n6, l5, l6, ht, hg, hcell_push, hcell_top, okW_push, okW_top, hcell_hset_ne, hcell_hset_off, hcell_hset_eq, okW_hset, hset_size, Array.size_push, Nat.lt_add_one, ne_add_one, add_one_ne, Nat.add_assoc, add_same, add_lt_same, Nat.reduceEqDiff, lt_add_k, add_k_ne, ne_add_k])|(with_reducible first|refine jA ?_|(refine hK _ _ ?_;clear hK K)|refine jJ fun K hK=>?_|refine jK ?_|refine jL ?_|refine jM ?_|refine jN ?_|refine jO ?_|refine jP ?_|refine jQ ?_|(refine jB ?_;clear hK K)|(refine jC ?_;clear hK K)|refine jD ?_|refine jE ?_|refine jG ?_|refine jH ?_|refine jI ?_)|((with_reducible refine jR ?hq ?_);case hq=>rfl)|((first|(with_reducible first|refine jS fun K hK=>?_|refine jT ?_|refine jU ?_)|((with_reducible refine jV ?hy fun K hK=>?_);case hy=>rfl));simp only [go_sem, Nat.reduceEqDiff, Nat.reduceAdd, Nat.reduceMul, Nat.reduceLeDiff, Nat.reduceLT, Int.reduceLT, Int.reduceLE, Int.reduceEq, Int.reduceNeg, Int.reduceToNat, Nat.reducePow, reduceIte, reduceCtorEq, qq, n1, n2, n3, n4, n5, n6, l5, l6, ht, hg, hcell_push, hcell_top, okW_push, okW_top, hcell_hset_ne, hcell_hset_off, hcell_hset_eq, okW_hset, hset_size, Array.size_push, Nat.lt_add_one, ne_add_one, add_one_ne, Nat.add_assoc, add_same, add_lt_same, Nat.reduceEqDiff, lt_add_k, add_k_ne, ne_add_k])|((with_reducible first|refine jW ?hy ?_|refine jY ?hy ?_);case hy=>rfl)|((with_reducible first|refine jX ?hy ?_|refine jZ ?hy ?_);case hy=>rfl)|((with_reducible refine jF ?hy ?_);case hy=>decide))
  exact tail (H.size + 1) H.size _ _ rfl rfl rfl rfl (by ((repeat (first | refine Fr.set ?_ (by simp) _ | refine Fr.push ?_ _)); exact Fr.refl _ _)) (by simp only [go_sem, Nat.reduceEqDiff, Nat.reduceAdd, Nat.reduceMul, Nat.reduceLeDiff, Nat.reduceLT, Int.reduceLT, Int.reduceLE, Int.reduceEq, Int.reduceNeg, Int.reduceToNat, Nat.reducePow, reduceIte, reduceCtorEq, Cells, and_true, hcell_push, hcell_top, okW_push, okW_top, hcell_hset_ne, hcell_hset_off, hcell_hset_eq, okW_hset, hset_size, Array.size_push, Nat.lt_add_one, ne_add_one, add_one_ne, Nat.add_assoc, add_same, add_lt_same, Nat.reduceEqDiff, lt_add_k, add_k_ne, ne_add_k])
end
section
variable {H H' : Heap} {t g c len : Nat} {N : Nodes} {K : Value → Heap → Prop}
theorem tabI : ∃ tk, tab Try.prog 3 = some tk ∧ tk.desc = .int .i64 ∧ tk.size = 1 := by
 have h : (tab Try.prog 3).map (fun tk => (decide (tk.size = 1), match tk.desc with | .int .i64 => true | _ => false)) = some (true, true) := by kernel_rfl
 cases ht : tab Try.prog 3 with
 | none => rw [ht] at h; cases h
 | some tk =>
  rw [ht] at h
  simp only [Option.map_some, Option.some.injEq, Prod.mk.injEq, decide_eq_true_iff] at h
  refine ⟨tk, rfl, ?_, h.1⟩
  have h2 := h.2
  split at h2
  ·rename_i hd; exact hd
  ·cases h2
theorem rd_partI {H : Heap} {g : Nat → Value} {X : Sem Value} {v : Value} (hX : X = pure v) : Rd Try.prog H (do let b ← isAgg 3; if b = true then do let n ← sizeOf 3; pure (g n) else X) v := by
 obtain ⟨tk, h1, h2, _⟩ := tabI
 have ha := rd_isAgg (H := H) h1
 rw [h2] at ha
 refine Rd.bind ha ?_
 rw [if_neg (by simp [aggD]), hX]
 exact Rd.ret _
theorem setBest (hN : NA H t g c len N) {h b : Nat} (hh : h < len) (hb : b < len) : NA (hset H ⟨g, h * 10 + 9, none⟩ (.int .i64 (b : Nat))) t g c len (upd N h { N h with best := b }) :=
 hN.set (j := 9) hh (by omega) rfl (hN.cl.upd (hN.cl.up h hh) (hN.cl.l h hh) (hN.cl.r h hh) hb)
theorem pull_ok {h : Nat} (hN : NA H t g c len N) (hh : h < len) (fin : ∀ H', NA H' t g c len (pullN N h) → Fr (· = g) H H' → K (.tuple #[]) H') :
  CallsH Try.prog 73 #[.pointer (some ⟨t, 0, none⟩), .int .i64 (h : Nat)] H K := by
 have hd := hN.hd
 have c1 := hN.cell (j := 1) hh rfl
 have c2 := hN.cell (j := 2) hh rfl
 have hl := hN.cl.l h hh
 have hr := hN.cl.r h hh
 have l9 := hN.cell (j := 9) hl rfl
 have r9 := hN.cell (j := 9) hr rfl
 refine call73 (by simp) ?_
 simp only [Try.f73, Option.getD_some]
 repeat' (first|(with_reducible first|refine jA ?_|(refine hK _ _ ?_;clear hK K)|refine jJ fun K hK=>?_|refine jK ?_|refine jL ?_|refine jM ?_|refine jN ?_|refine jO ?_|refine jP ?_|refine jQ ?_|(refine jB ?_;clear hK K)|(refine jC ?_;clear hK K)|refine jD ?_|refine jE ?_|refine jG ?_|refine jH ?_|refine jI ?_)|((with_reducible refine jR ?hq ?_);case hq=>rfl)|((first|(with_reducible first|refine jS fun K hK=>?_|refine jT ?_|refine jU ?_)|((with_reducible refine jV ?hy fun K hK=>?_);case hy=>rfl));simp only [go_sem, Nat.reduceEqDiff, Nat.reduceAdd, Nat.reduceMul, Nat.reduceLeDiff, Nat.reduceLT, Int.reduceLT, Int.reduceLE, Int.reduceEq, Int.reduceNeg, Int.reduceToNat, Nat.reducePow, reduceIte, reduceCtorEq, hd, hh, c1, c2, hl, hr, l9, r9])|((with_reducible first|refine jW ?hy ?_|refine jY ?hy ?_);case hy=>rfl)|((with_reducible first|refine jX ?hy ?_|refine jZ ?hy ?_);case hy=>rfl)|((with_reducible refine jF ?hy ?_);case hy=>decide))
 refine heavier_ok hN (hN.cl.best _ hl) (hN.cl.best _ hr) ?_
 intro H1 hf1
 have hN1 := hN.grow hf1
 have w9 := hN1.okw hh 9 (by omega)
 have hb := heavN_lt (N := N) (hN.cl.best _ hl) (hN.cl.best _ hr)
 have hN2 := setBest hN1 hh hb
 have hf2 := (hf1.mono (S' := (· = g)) fun _ _ h => h.elim).trans (hset_fr H1 g (h * 10 + 9) (.int .i64 (heavN N (N (N h).l).best (N (N h).r).best : Nat)))
 have e1 : upd N h { N h with best := heavN N (N (N h).l).best (N (N h).r).best } = pull1 N h := rfl
 rw [e1] at hN2
 have c4 := hN2.cell (j := 4) hh rfl
 have hd2 := hN2.hd
 have c9 := hN2.cell (j := 9) hh rfl
 have e2 : (pull1 N h h).isEdge = (N h).isEdge := by unfold pull1; rw [upd_same]
 rw [e2] at c4
 unfold pullN at fin
 cases hE : (N h).isEdge with
 | false =>
  rw [hE] at c4 fin
  rw [if_neg (by simp)] at fin
  repeat' (first|(with_reducible first|refine jA ?_|(refine hK _ _ ?_;clear hK K)|refine jJ fun K hK=>?_|refine jK ?_|refine jL ?_|refine jM ?_|refine jN ?_|refine jO ?_|refine jP ?_|refine jQ ?_|(refine jB ?_;clear hK K)|(refine jC ?_;clear hK K)|refine jD ?_|refine jE ?_|refine jG ?_|refine jH ?_|refine jI ?_)|((with_reducible refine jR ?hq ?_);case hq=>rfl)|((first|(with_reducible first|refine jS fun K hK=>?_|refine jT ?_|refine jU ?_)|((with_reducible refine jV ?hy fun K hK=>?_);case hy=>rfl));simp only [go_sem, Nat.reduceEqDiff, Nat.reduceAdd, Nat.reduceMul, Nat.reduceLeDiff, Nat.reduceLT, Int.reduceLT, Int.reduceLE, Int.reduceEq, Int.reduceNeg, Int.reduceToNat, Nat.reducePow, reduceIte, reduceCtorEq, w9, c4])|((with_reducible first|refine jW ?hy ?_|refine jY ?hy ?_);case hy=>rfl)|((with_reducible first|refine jX ?hy ?_|refine jZ ?hy ?_);case hy=>rfl)|((with_reducible refine jF ?hy ?_);case hy=>decide))
  exact fin _ hN2 hf2
 | true =>
  rw [hE] at c4 fin
  rw [if_pos rfl] at fin
  repeat' (first|(with_reducible first|refine jA ?_|(refine hK _ _ ?_;clear hK K)|refine jJ fun K hK=>?_|refine jK ?_|refine jL ?_|refine jM ?_|refine jN ?_|refine jO ?_|refine jP ?_|refine jQ ?_|(refine jB ?_;clear hK K)|(refine jC ?_;clear hK K)|refine jD ?_|refine jE ?_|refine jG ?_|refine jH ?_|refine jI ?_)|((with_reducible refine jR ?hq ?_);case hq=>rfl)|((first|(with_reducible first|refine jS fun K hK=>?_|refine jT ?_|refine jU ?_)|((with_reducible refine jV ?hy fun K hK=>?_);case hy=>rfl));simp only [go_sem, Nat.reduceEqDiff, Nat.reduceAdd, Nat.reduceMul, Nat.reduceLeDiff, Nat.reduceLT, Int.reduceLT, Int.reduceLE, Int.reduceEq, Int.reduceNeg, Int.reduceToNat, Nat.reducePow, reduceIte, reduceCtorEq, w9, c4, c9, hd2, hh])|((with_reducible first|refine jW ?hy ?_|refine jY ?hy ?_);case hy=>rfl)|((with_reducible first|refine jX ?hy ?_|refine jZ ?hy ?_);case hy=>rfl)|((with_reducible refine jF ?hy ?_);case hy=>decide))
  refine heavier_ok hN2 (hN2.cl.best h hh) hh ?_
  intro H3 hf3
  have hN3 := hN2.grow hf3
  have w9' := hN3.okw hh 9 (by omega)
  have hb' := heavN_lt (N := pull1 N h) (hN2.cl.best h hh) hh
  repeat' (first|(with_reducible first|refine jA ?_|(refine hK _ _ ?_;clear hK K)|refine jJ fun K hK=>?_|refine jK ?_|refine jL ?_|refine jM ?_|refine jN ?_|refine jO ?_|refine jP ?_|refine jQ ?_|(refine jB ?_;clear hK K)|(refine jC ?_;clear hK K)|refine jD ?_|refine jE ?_|refine jG ?_|refine jH ?_|refine jI ?_)|((with_reducible refine jR ?hq ?_);case hq=>rfl)|((first|(with_reducible first|refine jS fun K hK=>?_|refine jT ?_|refine jU ?_)|((with_reducible refine jV ?hy fun K hK=>?_);case hy=>rfl));simp only [go_sem, Nat.reduceEqDiff, Nat.reduceAdd, Nat.reduceMul, Nat.reduceLeDiff, Nat.reduceLT, Int.reduceLT, Int.reduceLE, Int.reduceEq, Int.reduceNeg, Int.reduceToNat, Nat.reducePow, reduceIte, reduceCtorEq, w9'])|((with_reducible first|refine jW ?hy ?_|refine jY ?hy ?_);case hy=>rfl)|((with_reducible first|refine jX ?hy ?_|refine jZ ?hy ?_);case hy=>rfl)|((with_reducible refine jF ?hy ?_);case hy=>decide))
  exact fin _ (setBest hN3 hh hb') ((hf2.trans (hf3.mono fun _ _ h => h.elim)).trans (hset_fr _ _ _ _))
theorem push_ok {h : Nat} (hN : NA H t g c len N) (hh : h < len) (fin : ∀ H', NA H' t g c len (pushN N h) → Fr (· = g) H H' → K (.tuple #[]) H') :
  CallsH Try.prog 70 #[.pointer (some ⟨t, 0, none⟩), .int .i64 (h : Nat)] H K := by
 have hd := hN.hd
 have c3 := hN.cell (j := 3) hh rfl
 unfold pushN at fin
 refine call70 (by simp) ?_
 simp only [Try.f70, Option.getD_some]
 cases hT : (N h).turned with
 | false =>
  rw [hT] at c3 fin
  rw [if_neg (by simp)] at fin
  repeat' (first|(with_reducible first|refine jA ?_|(refine hK _ _ ?_;clear hK K)|refine jJ fun K hK=>?_|refine jK ?_|refine jL ?_|refine jM ?_|refine jN ?_|refine jO ?_|refine jP ?_|refine jQ ?_|(refine jB ?_;clear hK K)|(refine jC ?_;clear hK K)|refine jD ?_|refine jE ?_|refine jG ?_|refine jH ?_|refine jI ?_)|((with_reducible refine jR ?hq ?_);case hq=>rfl)|((first|(with_reducible first|refine jS fun K hK=>?_|refine jT ?_|refine jU ?_)|((with_reducible refine jV ?hy fun K hK=>?_);case hy=>rfl));simp only [go_sem, Nat.reduceEqDiff, Nat.reduceAdd, Nat.reduceMul, Nat.reduceLeDiff, Nat.reduceLT, Int.reduceLT, Int.reduceLE, Int.reduceEq, Int.reduceNeg, Int.reduceToNat, Nat.reducePow, reduceIte, reduceCtorEq, hd, hh, c3])|((with_reducible first|refine jW ?hy ?_|refine jY ?hy ?_);case hy=>rfl)|((with_reducible first|refine jX ?hy ?_|refine jZ ?hy ?_);case hy=>rfl)|((with_reducible refine jF ?hy ?_);case hy=>decide))
  exact fin _ hN (.refl _ _)
 | true =>
  rw [hT] at c3 fin
  rw [if_pos rfl] at fin
  have w3 := hN.okw hh 3 (by omega)
  have hN1 := hN.set (j := 3) (v := .bool false) (r := { N h with turned := false }) hh (by omega) rfl (hN.cl.upd (hN.cl.up h hh) (hN.cl.l h hh) (hN.cl.r h hh) (hN.cl.best h hh))
  have hf1 := hset_fr H g (h * 10 + 3) (.bool false)
  have d1 := hN1.cell (j := 1) hh rfl
  have d2 := hN1.cell (j := 2) hh rfl
  rw [upd_same] at d1 d2
  have hl := hN.cl.l h hh
  have hr := hN.cl.r h hh
  generalize hM : upd N h { N h with turned := false } = M at hN1 fin
  repeat' (first|(with_reducible first|refine jA ?_|(refine hK _ _ ?_;clear hK K)|refine jJ fun K hK=>?_|refine jK ?_|refine jL ?_|refine jM ?_|refine jN ?_|refine jO ?_|refine jP ?_|refine jQ ?_|(refine jB ?_;clear hK K)|(refine jC ?_;clear hK K)|refine jD ?_|refine jE ?_|refine jG ?_|refine jH ?_|refine jI ?_)|((with_reducible refine jR ?hq ?_);case hq=>rfl)|((first|(with_reducible first|refine jS fun K hK=>?_|refine jT ?_|refine jU ?_)|((with_reducible refine jV ?hy fun K hK=>?_);case hy=>rfl));simp only [go_sem, Nat.reduceEqDiff, Nat.reduceAdd, Nat.reduceMul, Nat.reduceLeDiff, Nat.reduceLT, Int.reduceLT, Int.reduceLE, Int.reduceEq, Int.reduceNeg, Int.reduceToNat, Nat.reducePow, reduceIte, reduceCtorEq, hd, hh, c3, w3, d1, d2])|((with_reducible first|refine jW ?hy ?_|refine jY ?hy ?_);case hy=>rfl)|((with_reducible first|refine jX ?hy ?_|refine jZ ?hy ?_);case hy=>rfl)|((with_reducible refine jF ?hy ?_);case hy=>decide))
  have hd1 := hN1.hd
  generalize hset H ⟨g, h * 10 + 3, none⟩ (.bool false) = H1 at hN1 hf1 hd1
  obtain ⟨SS, hSS⟩ : ∃ SS : Nat → Nodes, SS = fun i => if i = 0 then M else if i = 1 then flipK M (N h).l else flipK (flipK M (N h).l) (N h).r := ⟨_, rfl⟩
  refine x_loop (fun m e' H' => ∃ i : Nat, i ≤ 2 ∧ e' 28 = .int .i64 (i : Nat) ∧ m = 2 - i ∧ NA H' t g c len (SS i) ∧ Fr (· = g) H H') 2 ⟨0, by omega, rfl, rfl, by rw [hSS]; exact hN1, hf1⟩ ?_
  rintro m e1 H2 ⟨i, hi, i28, rfl, hN2, hf2⟩ hoff
  have i0 : e1 0 = .pointer (some ⟨t, 0, none⟩) := (hoff 0 rfl).trans rfl
  have i27 : e1 27 = .agg #[.int .i64 (N h).l, .int .i64 (N h).r] := (hoff 27 rfl).trans rfl
  clear hoff
  by_cases hlt : i < 2
  ·obtain ⟨k, hk, hkl, hS'⟩ : ∃ k : Nat, (#[.int .i64 (N h).l, .int .i64 (N h).r] : Array Value)[i]? = some (.int .i64 (k : Nat)) ∧ k < len ∧ SS (i + 1) = flipK (SS i) k := by
    rcases (show i = 0 ∨ i = 1 by omega) with rfl | rfl
    ·exact ⟨(N h).l, rfl, hl, by rw [hSS]; rfl⟩
    ·exact ⟨(N h).r, rfl, hr, by rw [hSS]; rfl⟩
   have hltI : ((i : Int) < 2) = True := by simp; omega
   have ew : IntKind.i64.wrap ((i : Int) + 1) = ((i + 1 : Nat) : Int) := by rw [wrap_i64] <;> omega
   repeat' (first|(with_reducible first|refine jA ?_|(refine hK _ _ ?_;clear hK K)|refine jJ fun K hK=>?_|refine jK ?_|refine jL ?_|refine jM ?_|refine jN ?_|refine jO ?_|refine jP ?_|refine jQ ?_|(refine jB ?_;clear hK K)|(refine jC ?_;clear hK K)|refine jD ?_|refine jE ?_|refine jG ?_|refine jH ?_|refine jI ?_)|((with_reducible refine jR ?hq ?_);case hq=>rfl)|((first|(with_reducible first|refine jS fun K hK=>?_|refine jT ?_|refine jU ?_)|((with_reducible refine jV ?hy fun K hK=>?_);case hy=>rfl));simp only [go_sem, Nat.reduceEqDiff, Nat.reduceAdd, Nat.reduceMul, Nat.reduceLeDiff, Nat.reduceLT, Int.reduceLT, Int.reduceLE, Int.reduceEq, Int.reduceNeg, Int.reduceToNat, Nat.reducePow, reduceIte, reduceCtorEq, i28, i27, hlt, hltI, indexVX])|((with_reducible first|refine jW ?hy ?_|refine jY ?hy ?_);case hy=>rfl)|((with_reducible first|refine jX ?hy ?_|refine jZ ?hy ?_);case hy=>rfl)|((with_reducible refine jF ?hy ?_);case hy=>decide))
   refine ⟨_, rd_partI (v := .int .i64 (k : Nat)) (by rw [show ([Value.int .i64 (N h).l, .int .i64 (N h).r] : List Value)[i]? = some (.int .i64 (k : Nat)) from by simpa using hk]), ?_⟩
   by_cases hk0 : k = 0
   ·have t1 : ((k : Int) != 0) = false := by simp [hk0]
    rw [hk0] at hS'
    unfold flipK at hS'
    rw [if_pos rfl] at hS'
    repeat' (first|(with_reducible first|refine jA ?_|(refine hK _ _ ?_;clear hK K)|refine jJ fun K hK=>?_|refine jK ?_|refine jL ?_|refine jM ?_|refine jN ?_|refine jO ?_|refine jP ?_|refine jQ ?_|(refine jB ?_;clear hK K)|(refine jC ?_;clear hK K)|refine jD ?_|refine jE ?_|refine jG ?_|refine jH ?_|refine jI ?_)|((with_reducible refine jR ?hq ?_);case hq=>rfl)|((first|(with_reducible first|refine jS fun K hK=>?_|refine jT ?_|refine jU ?_)|((with_reducible refine jV ?hy fun K hK=>?_);case hy=>rfl));simp only [go_sem, Nat.reduceEqDiff, Nat.reduceAdd, Nat.reduceMul, Nat.reduceLeDiff, Nat.reduceLT, Int.reduceLT, Int.reduceLE, Int.reduceEq, Int.reduceNeg, Int.reduceToNat, Nat.reducePow, reduceIte, reduceCtorEq, t1, i28, ew])|((with_reducible first|refine jW ?hy ?_|refine jY ?hy ?_);case hy=>rfl)|((with_reducible first|refine jX ?hy ?_|refine jZ ?hy ?_);case hy=>rfl)|((with_reducible refine jF ?hy ?_);case hy=>decide))
    exact loop_normal (m' := 2 - (i + 1)) (by omega) ⟨i + 1, by omega, rfl, rfl, by rw [hS']; exact hN2, hf2⟩
   ·have t1 : ((k : Int) != 0) = true := by simp [hk0]
    unfold flipK at hS'
    rw [if_neg hk0] at hS'
    have hd2 := hN2.hd
    repeat' (first|(with_reducible first|refine jA ?_|(refine hK _ _ ?_;clear hK K)|refine jJ fun K hK=>?_|refine jK ?_|refine jL ?_|refine jM ?_|refine jN ?_|refine jO ?_|refine jP ?_|refine jQ ?_|(refine jB ?_;clear hK K)|(refine jC ?_;clear hK K)|refine jD ?_|refine jE ?_|refine jG ?_|refine jH ?_|refine jI ?_)|((with_reducible refine jR ?hq ?_);case hq=>rfl)|((first|(with_reducible first|refine jS fun K hK=>?_|refine jT ?_|refine jU ?_)|((with_reducible refine jV ?hy fun K hK=>?_);case hy=>rfl));simp only [go_sem, Nat.reduceEqDiff, Nat.reduceAdd, Nat.reduceMul, Nat.reduceLeDiff, Nat.reduceLT, Int.reduceLT, Int.reduceLE, Int.reduceEq, Int.reduceNeg, Int.reduceToNat, Nat.reducePow, reduceIte, reduceCtorEq, t1, i0, hd2, hkl])|((with_reducible first|refine jW ?hy ?_|refine jY ?hy ?_);case hy=>rfl)|((with_reducible first|refine jX ?hy ?_|refine jZ ?hy ?_);case hy=>rfl)|((with_reducible refine jF ?hy ?_);case hy=>decide))
    refine turn_link hN2 hkl fun H3 hN3 hf3 => ?_
    repeat' (first|(with_reducible first|refine jA ?_|(refine hK _ _ ?_;clear hK K)|refine jJ fun K hK=>?_|refine jK ?_|refine jL ?_|refine jM ?_|refine jN ?_|refine jO ?_|refine jP ?_|refine jQ ?_|(refine jB ?_;clear hK K)|(refine jC ?_;clear hK K)|refine jD ?_|refine jE ?_|refine jG ?_|refine jH ?_|refine jI ?_)|((with_reducible refine jR ?hq ?_);case hq=>rfl)|((first|(with_reducible first|refine jS fun K hK=>?_|refine jT ?_|refine jU ?_)|((with_reducible refine jV ?hy fun K hK=>?_);case hy=>rfl));simp only [go_sem, Nat.reduceEqDiff, Nat.reduceAdd, Nat.reduceMul, Nat.reduceLeDiff, Nat.reduceLT, Int.reduceLT, Int.reduceLE, Int.reduceEq, Int.reduceNeg, Int.reduceToNat, Nat.reducePow, reduceIte, reduceCtorEq, i28, ew])|((with_reducible first|refine jW ?hy ?_|refine jY ?hy ?_);case hy=>rfl)|((with_reducible first|refine jX ?hy ?_|refine jZ ?hy ?_);case hy=>rfl)|((with_reducible refine jF ?hy ?_);case hy=>decide))
    exact loop_normal (m' := 2 - (i + 1)) (by omega) ⟨i + 1, by omega, rfl, rfl, by rw [hS']; exact hN3, hf2.trans hf3⟩
  ·obtain rfl : i = 2 := by omega
   have hltI : ((2 : Int) < 2) = False := by simp
   simp only [Int.cast_ofNat_Int] at i28
   repeat' (first|(with_reducible first|refine jA ?_|(refine hK _ _ ?_;clear hK K)|refine jJ fun K hK=>?_|refine jK ?_|refine jL ?_|refine jM ?_|refine jN ?_|refine jO ?_|refine jP ?_|refine jQ ?_|(refine jB ?_;clear hK K)|(refine jC ?_;clear hK K)|refine jD ?_|refine jE ?_|refine jG ?_|refine jH ?_|refine jI ?_)|((with_reducible refine jR ?hq ?_);case hq=>rfl)|((first|(with_reducible first|refine jS fun K hK=>?_|refine jT ?_|refine jU ?_)|((with_reducible refine jV ?hy fun K hK=>?_);case hy=>rfl));simp only [go_sem, Nat.reduceEqDiff, Nat.reduceAdd, Nat.reduceMul, Nat.reduceLeDiff, Nat.reduceLT, Int.reduceLT, Int.reduceLE, Int.reduceEq, Int.reduceNeg, Int.reduceToNat, Nat.reducePow, reduceIte, reduceCtorEq, i28, hltI])|((with_reducible first|refine jW ?hy ?_|refine jY ?hy ?_);case hy=>rfl)|((with_reducible first|refine jX ?hy ?_|refine jZ ?hy ?_);case hy=>rfl)|((with_reducible refine jF ?hy ?_);case hy=>decide))
   rw [hSS] at hN2
   exact fin _ hN2 hf2
end
end Go.Proofs.Ytafehbegoanajaa
