/-
  What a law's walk is told of slices that came in.
  Linked trees as plain nodes, and what each inner function of the package does to them.
  Graphs by their edges: ways, components and their least vertices, how many there are. Plain.
  A walk through a graph, from vertex to vertex as far as there are new ones, and back: what the earliest vertex that each leads back to says of bridges. Plain.
  A walk through a graph: its other steps, its beginning and its end. Plain.
  Bridges, blocks and components: counted; ways whichever edge is left out; an edge more. Plain.
  A search in memory: its edges, what is beside each vertex, when each was found, how early it leads back, the flags.
  bridge.search: enter.
  bridge.search: walk.
  Blocks: from the least vertex that has none, along the firm edges as far as they lead. Plain.
-/
import Derived.Test.YtpeaogldojepnaaHpN
import Derived.WalkKit
import Derived.ProofKit
import Derived.OpenShut
import Derived.ShutString
import Derived.ChangeOld
import Derived.Below
import Derived.Deep.Fields
import Derived.Test.YtpeaogldojepnaaHpX
import Derived.Test.YtpeaogldojepnaaTabM
import Derived.Test.YtpeaogldojepnaaHpCR
import Derived.Test.YtpeaogldojepnaaHpU
import Derived.Test.YtpeaogldojepnaaHpW
import Derived.Test.YtpeaogldojepnaaHpV
import Derived.Test.YtpeaogldojepnaaHpMa
import Derived.Test.YtpeaogldojepnaaHpFk
namespace Go.Hp
open Go Go.ChangeShapes Go.WideShapes Go.RowKit
set_option linter.unusedVariables false
section
variable {E : Type} {enc : TypeId × Value → E} {P : Program} {w : World} {base : Nat} {spare : Nat → Bool} {held : Bool}
theorem cells_in {t e : TypeId} {a : Option Addr} {len cap : Nat} {d : DataW E} {p : List MemPlace} (ht : P.underlying t = some (.slice e)) (h : DataW.Trod enc P w base spare held t (.slice a len cap) d p) :
  len ≤ 9223372036854775807 ∧ ∀ i, i < len → ∃ (q : Addr) (cs : List Value) (m : Nat) (y : DataW E × List MemPlace), a = some q ∧ w.cells? base (q.add (i * P.cellsOf e)) (P.cellsOf e) = some cs ∧ DataW.trod enc P w base spare held m e cs = some y := by
 obtain ⟨fuel, hf⟩ := h
 rcases DataW.trod_slice ht hf with ⟨h0, _⟩ | ⟨a', len', cap', elems, rest, n, _, h0, _, hb, hl, hm, hlen, hel, hsp, hns⟩
 ·simp [Value.cells] at h0
  obtain ⟨rfl, rfl, rfl⟩ := h0
  exact ⟨by omega, fun i hi => absurd hi (by omega)⟩
 ·simp [Value.cells] at h0
  obtain ⟨rfl, rfl, rfl⟩ := h0
  refine ⟨by unfold maxLen at hm; omega, fun i hi => ?_⟩
  have h1 := hel i hi
  rw [List.getElem?_eq_getElem (by omega)] at h1
  obtain ⟨cs, hcs, hy⟩ := Option.bind_eq_some_iff.1 h1
  exact ⟨a', cs, n, _, rfl, hcs, hy⟩
theorem fit_of_wf {n : Int} (h : (Lit.int .i64 n).wf = true) : -9223372036854775808 ≤ n ∧ n ≤ 9223372036854775807 := by
 have hb := bounds_i64 h
 omega
theorem ints_in {t e : TypeId} {a : Option Addr} {len cap : Nat} {d : DataW E} {p : List MemPlace} (ht : P.underlying t = some (.slice e)) (he : P.underlying e = some (.int .i64)) (hc : P.cellsOf e = 1) (h : DataW.Trod enc P w base spare held t (.slice a len cap) d p) :
  len ≤ 9223372036854775807 ∧ ∃ zs, InInts w.heap a len zs := by
 obtain ⟨hl, hi⟩ := cells_in ht h
 refine ⟨hl, ?_⟩
 have each : ∀ i, i < len → ∃ (q : Addr) (n : Int), a = some q ∧ w.cell? (q.add i) = some (.int .i64 n) ∧ (Lit.int .i64 n).wf = true := fun i hlt => by
  obtain ⟨q, cs, m, y, h1, h2, h3⟩ := hi i hlt
  obtain ⟨n, rfl, _, hw⟩ := DataW.trod_int he h3
  rw [hc, Nat.mul_one] at h2
  obtain ⟨_, _, h4⟩ := World.cells?_some h2
  refine ⟨q, n, h1, ?_, hw⟩
  have := h4 0 (by omega)
  simpa [Addr.add] using this
 refine ⟨fun i => if h : i < len then (each i h).choose_spec.choose else 0, fun i hlt => ?_⟩
 have e := (each i hlt).choose_spec.choose_spec
 refine ⟨_, e.1, ?_, ?_⟩
 ·simp only [hlt, dif_pos]
  exact e.2.1
 ·simp only [hlt, dif_pos]
  exact fit_of_wf e.2.2
theorem field_in {e : TypeId} {fs : Array Field} {q : Addr} {n : Nat} {cs : List Value} {m : Nat} {y : DataW E × List MemPlace} (he : P.underlying e = some (.struct fs)) (h2 : w.cells? base q n = some cs) (h3 : DataW.trod enc P w base spare held m e cs = some y)
  (i : Nat) {f : Field} (hf : fs[i]? = some f) (hc : P.cellsOf f.type = 1) (ho : f.offset < n) :
  ∃ (v : Value) (z : DataW E × List MemPlace) (m' : Nat), w.cell? (q.add f.offset) = some v ∧ DataW.trod enc P w base spare held m' f.type [v] = some z := by
 obtain ⟨xs, n', _, _, hlen, hxl, hfs⟩ := DataW.trod_struct he h3
 obtain ⟨_, hcl, hcell⟩ := World.cells?_some h2
 have h4 := hfs i f hf
 have hlt : i < fs.size := (Array.getElem?_eq_some_iff.1 hf).1
 rw [hc, List.getElem?_eq_getElem (by omega)] at h4
 have hd : (cs.drop f.offset).take 1 = [cs[f.offset]'(by omega)] := by
  rw [List.drop_eq_getElem_cons (by omega)]; rfl
 rw [hd] at h4
 refine ⟨_, _, n', ?_, h4⟩
 rw [hcell f.offset ho, List.getElem?_eq_getElem (by omega)]
end
theorem add_zero_addr (q : Addr) : q.add 0 = q := rfl
theorem add_succ_addr (q : Addr) (n : Nat) : q.add (n + 1) = ⟨q.block, q.off + (n + 1), none⟩ := by
 unfold Addr.add; rw [if_neg (by omega)]
end Go.Hp
namespace Go.Li
open Go Go.Hp
set_option linter.unusedVariables false

structure Ed where
 id : Int
 u : Int
 v : Int
 w : Int
 deriving DecidableEq
def Ed.zero : Ed := ⟨0, 0, 0, 0⟩
def Ed.val (x : Ed) : Value := .agg #[.int .i64 x.id, .int .i64 x.u, .int .i64 x.v, .int .i64 x.w]
def Ed.cells (x : Ed) : List Value := [.int .i64 x.id, .int .i64 x.u, .int .i64 x.v, .int .i64 x.w]
def heavy (a b : Ed) : Bool := decide (a.w > b.w) || (decide (a.w = b.w) && decide (a.id > b.id))
structure Nd where
 up : Nat
 l : Nat
 r : Nat
 turned : Bool
 isEdge : Bool
 e : Ed
 best : Nat
def Nd.zero : Nd := ⟨0, 0, 0, false, false, Ed.zero, 0⟩
def Nd.cells (x : Nd) : List Value :=
 [.int .i64 x.up, .int .i64 x.l, .int .i64 x.r, .bool x.turned, .bool x.isEdge, .int .i64 x.e.id, .int .i64 x.e.u, .int .i64 x.e.v, .int .i64 x.e.w, .int .i64 x.best]
def Nd.kid (r : Nd) (s : Bool) : Nat := if s then r.r else r.l
def Nd.setKid (r : Nd) (s : Bool) (x : Nat) : Nd := if s then { r with r := x } else { r with l := x }
def Nd.flip (r : Nd) : Nd := { r with l := r.r, r := r.l, turned := !r.turned }
abbrev Nodes := Nat → Nd
def upd (N : Nodes) (h : Nat) (r : Nd) : Nodes := fun i => if i = h then r else N i
theorem upd_same (N : Nodes) (h : Nat) (r : Nd) : upd N h r h = r := if_pos rfl
theorem upd_ne (N : Nodes) {h i : Nat} (r : Nd) (hi : i ≠ h) : upd N h r i = N i := if_neg hi
def heavN (N : Nodes) (a b : Nat) : Nat := if a = 0 then b else if b = 0 then a else if heavy (N a).e (N b).e then a else b
def pull1 (N : Nodes) (h : Nat) : Nodes := upd N h { N h with best := heavN N (N (N h).l).best (N (N h).r).best }
def pullN (N : Nodes) (h : Nat) : Nodes := if (N h).isEdge then upd (pull1 N h) h { pull1 N h h with best := heavN (pull1 N h) (pull1 N h h).best h } else pull1 N h
def flipK (N : Nodes) (k : Nat) : Nodes := if k = 0 then N else upd N k (N k).flip
def pushN (N : Nodes) (h : Nat) : Nodes := if (N h).turned then flipK (flipK (upd N h { N h with turned := false }) (N h).l) (N h).r else N
def hasK (r : Nd) (h : Nat) : Bool := decide (r.l = h) || decide (r.r = h)
def topB (N : Nodes) (h : Nat) : Bool := decide ((N h).up = 0) || !hasK (N (N h).up) h
def sideN (N : Nodes) (up h : Nat) : Bool := decide ((N up).r = h)
def Nd.swap (r : Nd) (x h : Nat) : Nd := if r.l = x then { r with l := h } else { r with r := h }
def rot1 (N : Nodes) (up h : Nat) : Nodes := if topB N up then N else upd N (N up).up ((N (N up).up).swap up h)
def rot2 (N : Nodes) (up h : Nat) : Nodes := upd (rot1 N up h) h { rot1 N up h h with up := (rot1 N up h up).up }
def rot3 (N : Nodes) (up h : Nat) (s : Bool) (k : Nat) : Nodes := upd (rot2 N up h) up ((rot2 N up h up).setKid s k)
def rot4 (N : Nodes) (up h : Nat) (s : Bool) (k : Nat) : Nodes := if k = 0 then rot3 N up h s k else upd (rot3 N up h s k) k { rot3 N up h s k k with up := up }
def rot5 (N : Nodes) (up h : Nat) (s : Bool) (k : Nat) : Nodes := upd (rot4 N up h s k) h ((rot4 N up h s k h).setKid (!s) up)
def rot6 (N : Nodes) (up h : Nat) (s : Bool) (k : Nat) : Nodes := upd (rot5 N up h s k) up { rot5 N up h s k up with up := h }
def rotN (N : Nodes) (h : Nat) : Nodes :=
 pullN (pullN (rot6 N (N h).up h (sideN N (N h).up h) ((rot2 N (N h).up h h).kid (!sideN N (N h).up h))) (N h).up) h
structure Cl (len : Nat) (N : Nodes) : Prop where
 up : ∀ h, h < len → (N h).up < len
 l : ∀ h, h < len → (N h).l < len
 r : ∀ h, h < len → (N h).r < len
 best : ∀ h, h < len → (N h).best < len
theorem Cl.upd {len : Nat} {N : Nodes} (h : Cl len N) {i : Nat} {r : Nd} (h1 : r.up < len) (h2 : r.l < len) (h3 : r.r < len) (h4 : r.best < len) : Cl len (upd N i r) where
 up := fun k hk => by unfold Li.upd; split; exact h1; exact h.up k hk
 l := fun k hk => by unfold Li.upd; split; exact h2; exact h.l k hk
 r := fun k hk => by unfold Li.upd; split; exact h3; exact h.r k hk
 best := fun k hk => by unfold Li.upd; split; exact h4; exact h.best k hk
theorem Cl.kid {len : Nat} {N : Nodes} (h : Cl len N) {k : Nat} {s : Bool} (hk : k < len) : (N k).kid s < len := by
 unfold Nd.kid
 split
 ·exact h.r k hk
 ·exact h.l k hk
theorem heavN_lt {len : Nat} {N : Nodes} {a b : Nat} (ha : a < len) (hb : b < len) : heavN N a b < len := by
 unfold heavN
 split
 ·exact hb
 ·split
  ·exact ha
  ·split
   ·exact ha
   ·exact hb
theorem Cl.pull1 {len : Nat} {N : Nodes} (h : Cl len N) {k : Nat} (hk : k < len) : Cl len (pull1 N k) :=
 h.upd (h.up k hk) (h.l k hk) (h.r k hk) (heavN_lt (h.best _ (h.l k hk)) (h.best _ (h.r k hk)))
theorem Cl.pull {len : Nat} {N : Nodes} (h : Cl len N) {k : Nat} (hk : k < len) : Cl len (pullN N k) := by
 have h1 := h.pull1 hk
 unfold pullN
 split
 ·exact h1.upd (h1.up k hk) (h1.l k hk) (h1.r k hk) (heavN_lt (h1.best k hk) hk)
 ·exact h1
theorem Cl.flipK {len : Nat} {N : Nodes} (h : Cl len N) {k : Nat} (hk : k < len) : Cl len (flipK N k) := by
 unfold Li.flipK
 split
 ·exact h
 ·exact h.upd (h.up k hk) (h.r k hk) (h.l k hk) (h.best k hk)
theorem Cl.push {len : Nat} {N : Nodes} (h : Cl len N) {k : Nat} (hk : k < len) : Cl len (pushN N k) := by
 unfold pushN
 split
 ·have h1 : Cl len (Li.upd N k { N k with turned := false }) := h.upd (h.up k hk) (h.l k hk) (h.r k hk) (h.best k hk)
  exact (h1.flipK (h.l k hk)).flipK (h.r k hk)
 ·exact h
theorem Cl.setKid {len : Nat} {N : Nodes} (h : Cl len N) {k x : Nat} {s : Bool} (hk : k < len) (hx : x < len) : Cl len (Li.upd N k ((N k).setKid s x)) := by
 unfold Nd.setKid
 split
 ·exact h.upd (h.up k hk) (h.l k hk) hx (h.best k hk)
 ·exact h.upd (h.up k hk) hx (h.r k hk) (h.best k hk)
theorem Cl.setUp {len : Nat} {N : Nodes} (h : Cl len N) {k x : Nat} (hk : k < len) (hx : x < len) : Cl len (Li.upd N k { N k with up := x }) := h.upd hx (h.l k hk) (h.r k hk) (h.best k hk)
theorem Cl.rot1 {len : Nat} {N : Nodes} (h : Cl len N) {up k : Nat} (hu : up < len) (hk : k < len) : Cl len (rot1 N up k) := by
 unfold Li.rot1
 split
 ·exact h
 ·have ht := h.up up hu
  unfold Nd.swap
  split
  ·exact h.upd (h.up _ ht) hk (h.r _ ht) (h.best _ ht)
  ·exact h.upd (h.up _ ht) (h.l _ ht) hk (h.best _ ht)
theorem Cl.rot2 {len : Nat} {N : Nodes} (h : Cl len N) {up k : Nat} (hu : up < len) (hk : k < len) : Cl len (rot2 N up k) := by
 have h1 := h.rot1 hu hk
 exact h1.setUp hk (h1.up up hu)
theorem Cl.rot4 {len : Nat} {N : Nodes} (h : Cl len N) {up k x : Nat} {s : Bool} (hu : up < len) (hk : k < len) (hx : x < len) : Cl len (rot4 N up k s x) := by
 have h3 := (h.rot2 hu hk).setKid (s := s) hu hx
 unfold Li.rot4
 split
 ·exact h3
 ·exact h3.setUp hx hu
theorem Cl.rot6 {len : Nat} {N : Nodes} (h : Cl len N) {up k x : Nat} {s : Bool} (hu : up < len) (hk : k < len) (hx : x < len) : Cl len (rot6 N up k s x) :=
 (((h.rot4 (s := s) hu hk hx).setKid (s := !s) hk hu).setUp hu hk)
theorem Cl.rot {len : Nat} {N : Nodes} (h : Cl len N) {k : Nat} (hk : k < len) : Cl len (rotN N k) := by
 have hu := h.up k hk
 unfold rotN
 exact ((h.rot6 hu hk ((h.rot2 hu hk).kid hk)).pull hu).pull hk
def rowsN (N : Nodes) (len : Nat) : List Value := (List.range len).flatMap fun i => (N i).cells
theorem flat_set {α : Type} {k : Nat} : ∀ {rows : List (List α)}, (∀ r ∈ rows, r.length = k) → ∀ {i j : Nat} {r : List α} (v : α), rows[i]? = some r → j < k → rows.flatten.set (i * k + j) v = (rows.set i (r.set j v)).flatten
 | [], _, i, j, r, v, h, _ => by cases h
 | x :: rows, hl, 0, j, r, v, h, hj => by
  have e : x = r := by simpa using h
  subst e
  have hx := hl x (.head _)
  simp only [List.flatten_cons, List.set_cons_zero]
  rw [Nat.zero_mul, Nat.zero_add, List.set_append_left _ _ (by omega)]
 | x :: rows, hl, i + 1, j, r, v, h, hj => by
  have hx := hl x (.head _)
  have ih := flat_set (fun r hr => hl r (.tail _ hr)) (i := i) (j := j) v (by simpa using h) hj
  simp only [List.flatten_cons, List.set_cons_succ]
  rw [List.set_append_right _ _ (by rw [hx, Nat.succ_mul]; omega), ← ih]
  congr 2
  rw [hx, Nat.succ_mul]; omega
theorem flat_get {α : Type} {k : Nat} : ∀ {rows : List (List α)}, (∀ r ∈ rows, r.length = k) → ∀ {i j : Nat} {r : List α}, rows[i]? = some r → j < k → rows.flatten[i * k + j]? = r[j]?
 | [], _, i, j, r, h, _ => by cases h
 | x :: rows, hl, 0, j, r, h, hj => by
  have e : x = r := by simpa using h
  subst e
  have hx := hl x (.head _)
  simp only [List.flatten_cons]
  rw [Nat.zero_mul, Nat.zero_add, List.getElem?_append_left (by omega)]
 | x :: rows, hl, i + 1, j, r, h, hj => by
  have hx := hl x (.head _)
  have ih := flat_get (fun r hr => hl r (.tail _ hr)) (i := i) (j := j) (r := r) (by simpa using h) hj
  simp only [List.flatten_cons]
  rw [List.getElem?_append_right (by rw [hx, Nat.succ_mul]; omega), ← ih]
  congr 1
  rw [hx, Nat.succ_mul]; omega
theorem rowsN_eq (N : Nodes) (len : Nat) : rowsN N len = ((List.range len).map fun i => (N i).cells).flatten := by unfold rowsN; rw [List.flatMap_def]
theorem rowsN_len (N : Nodes) (len : Nat) : (rowsN N len).length = len * 10 := by
 unfold rowsN
 induction len with
 | zero => rfl
 | succ n ih => rw [List.range_succ, List.flatMap_append, List.length_append, ih]; simp [Nd.cells]; omega
theorem rowsN_get (N : Nodes) {len i j : Nat} (hi : i < len) (hj : j < 10) : (rowsN N len)[i * 10 + j]? = (N i).cells[j]? := by
 rw [rowsN_eq]
 exact flat_get (k := 10) (fun r hr => by obtain ⟨a, _, rfl⟩ := List.mem_map.1 hr; rfl) (by simp [hi]) hj
theorem rowsN_set (N : Nodes) {len i j : Nat} (hi : i < len) (hj : j < 10) {v : Value} {r : Nd} (hr : r.cells = (N i).cells.set j v) : (rowsN N len).set (i * 10 + j) v = rowsN (upd N i r) len := by
 rw [rowsN_eq, rowsN_eq, flat_set (k := 10) (fun r hr => by obtain ⟨a, _, rfl⟩ := List.mem_map.1 hr; rfl) (r := (N i).cells) v (by simp [hi]) hj, ← hr]
 congr 1
 apply List.ext_getElem?
 intro k
 rw [List.getElem?_set]
 by_cases hk : i = k
 ·subst hk
  simp [hi, upd]
 ·rw [if_neg hk]
  simp only [List.getElem?_map]
  by_cases hkl : k < len
  ·rw [List.getElem?_range hkl]
   simp [upd, Ne.symm hk]
  ·rw [List.getElem?_eq_none (by simp; omega)]; rfl
theorem rowsN_congr {N N' : Nodes} {len : Nat} (h : ∀ i, i < len → N' i = N i) : rowsN N' len = rowsN N len := by
 rw [rowsN_eq, rowsN_eq]
 congr 1
 exact List.map_congr_left fun i hi => by rw [h i (List.mem_range.1 hi)]
end Go.Li
namespace Go.Br
open Go
set_option linter.unusedVariables false
inductive Con (R : Nat → Nat → Prop) : Nat → Nat → Prop
 | refl (a : Nat) : Con R a a
 | snoc {a b c : Nat} : Con R a b → (R b c ∨ R c b) → Con R a c
section
variable {R R' : Nat → Nat → Prop} {a b c u v x y n : Nat} {p p' : Nat → Nat}
theorem Con.one (h : R a b) : Con R a b := .snoc (.refl a) (.inl h)
theorem Con.trans (h : Con R a b) (k : Con R b c) : Con R a c := by
 induction k with
 | refl => exact h
 | snoc _ e ih => exact .snoc ih e
theorem Con.symm (h : Con R a b) : Con R b a := by
 induction h with
 | refl => exact .refl _
 | snoc _ e ih => exact (Con.snoc (.refl _) e.symm).trans ih
theorem Con.lift (hR : ∀ x y, R x y → Con R' x y) (h : Con R a b) : Con R' a b := by
 induction h with
 | refl => exact .refl _
 | snoc _ e ih => exact ih.trans (e.elim (hR _ _) fun e => (hR _ _ e).symm)
theorem Con.mono (hR : ∀ x y, R x y → R' x y) (h : Con R a b) : Con R' a b := h.lift fun x y e => .one (hR x y e)
theorem Con.closed {P : Nat → Prop} (hP : ∀ x y, R x y → (P x ↔ P y)) (h : Con R a b) : P a ↔ P b := by
 induction h with
 | refl => exact Iff.rfl
 | snoc _ e ih => exact ih.trans (e.elim (hP _ _) fun e => (hP _ _ e).symm)
def plus (R : Nat → Nat → Prop) (u v : Nat) (a b : Nat) : Prop := R a b ∨ (a = u ∧ b = v)
theorem Con.plus : Con (plus R u v) x y ↔ Con R x y ∨ (Con R x u ∧ Con R v y) ∨ (Con R x v ∧ Con R u y) := by
 constructor
 ·intro h
  induction h with
  | refl => exact .inl (.refl _)
  | @snoc b c _ e ih =>
   rcases e with (e | ⟨rfl, rfl⟩) | (e | ⟨rfl, rfl⟩)
   ·rcases ih with h | ⟨h, k⟩ | ⟨h, k⟩
    ·exact .inl (.snoc h (.inl e))
    ·exact .inr (.inl ⟨h, .snoc k (.inl e)⟩)
    ·exact .inr (.inr ⟨h, .snoc k (.inl e)⟩)
   ·rcases ih with h | ⟨h, k⟩ | ⟨h, k⟩
    ·exact .inr (.inl ⟨h, .refl _⟩)
    ·exact .inr (.inl ⟨h, .refl _⟩)
    ·exact .inl h
   ·rcases ih with h | ⟨h, k⟩ | ⟨h, k⟩
    ·exact .inl (.snoc h (.inr e))
    ·exact .inr (.inl ⟨h, .snoc k (.inr e)⟩)
    ·exact .inr (.inr ⟨h, .snoc k (.inr e)⟩)
   ·rcases ih with h | ⟨h, k⟩ | ⟨h, k⟩
    ·exact .inr (.inr ⟨h, .refl _⟩)
    ·exact .inl h
    ·exact .inr (.inr ⟨h, .refl _⟩)
 ·have m : ∀ {a b : Nat}, Con R a b → Con (Br.plus R u v) a b := fun h => h.mono fun _ _ e => .inl e
  have o : Con (Br.plus R u v) u v := .one (.inr ⟨rfl, rfl⟩)
  rintro (h | ⟨h, k⟩ | ⟨h, k⟩)
  ·exact m h
  ·exact ((m h).trans o).trans (m k)
  ·exact ((m h).trans o.symm).trans (m k)
structure Least (R : Nat → Nat → Prop) (n : Nat) (p : Nat → Nat) : Prop where
 con : ∀ v, v < n → Con R v (p v)
 le : ∀ v w, v < n → w < n → Con R v w → p v ≤ w
theorem Least.self (h : Least R n p) (hv : v < n) : p v ≤ v := h.le v v hv hv (.refl _)
theorem Least.eq (h : Least R n p) (hu : u < n) (hv : v < n) : p u = p v ↔ Con R u v := by
 have s1 := h.self hu
 have s2 := h.self hv
 constructor
 ·intro e
  exact (h.con u hu).trans (by rw [e]; exact (h.con v hv).symm)
 ·intro c
  have a := h.le u (p v) hu (by omega) (c.trans (h.con v hv))
  have b := h.le v (p u) hv (by omega) (c.symm.trans (h.con u hu))
  omega
theorem Least.idem (h : Least R n p) (hv : v < n) : p (p v) = p v := by
 have := h.self hv
 exact (h.eq (by omega) hv).2 (h.con v hv).symm
theorem Least.uniq (h : Least R n p) (h' : Least R n p') (hv : v < n) : p v = p' v := by
 have s1 := h.self hv
 have s2 := h'.self hv
 have a := h.le v (p' v) hv (by omega) (h'.con v hv)
 have b := h'.le v (p v) hv (by omega) (h.con v hv)
 omega
theorem Least.congr (h : Least R n p) (hR : ∀ a b, a < n → b < n → (Con R a b ↔ Con R' a b)) : Least R' n p where
 con v hv := (hR v (p v) hv (by have := h.self hv; omega)).1 (h.con v hv)
 le v w hv hw c := h.le v w hv hw ((hR v w hv hw).2 c)
theorem min_of {P : Nat → Prop} : ∀ m : Nat, P m → ∃ k, P k ∧ ∀ j, P j → k ≤ j := by
 intro m
 induction m using Nat.strongRecOn with
 | ind m ih =>
  intro hm
  by_cases h : ∃ j, j < m ∧ P j
  ·obtain ⟨j, h1, h2⟩ := h
   exact ih j h1 h2
  ·exact ⟨m, hm, fun j hj => Nat.le_of_not_lt fun hlt => h ⟨j, hlt, hj⟩⟩
theorem least_exists (R : Nat → Nat → Prop) (n : Nat) : ∃ p, Least R n p := by
 have : ∀ v : Nat, ∃ k, Con R v k ∧ ∀ j, Con R v j → k ≤ j := fun v => min_of v (.refl v)
 refine ⟨fun v => (this v).choose, fun v _ => (this v).choose_spec.1, fun v w _ _ c => (this v).choose_spec.2 w c⟩
def cnt (n : Nat) (p : Nat → Nat) : Nat := ((List.range n).filter fun v => decide (p v = v)).length
theorem cnt_congr (h : ∀ v, v < n → p v = p' v) : cnt n p = cnt n p' := by
 unfold cnt
 congr 1
 refine List.filter_congr fun v hv => ?_
 rw [h v (List.mem_range.1 hv)]
theorem Least.cnt (h : Least R n p) (h' : Least R n p') : Br.cnt n p = Br.cnt n p' := cnt_congr fun v hv => h.uniq h' hv
theorem filter_less {l : List Nat} (hl : l.Nodup) (f : Nat → Bool) {M : Nat} (hM : M ∈ l) (hf : f M = true) : (l.filter f).length = (l.filter fun v => f v && decide (v ≠ M)).length + 1 := by
 induction l with
 | nil => cases hM
 | cons z l ih =>
  rw [List.nodup_cons] at hl
  by_cases e : z = M
  ·subst e
   have : (l.filter fun v => f v && decide (v ≠ z)) = l.filter f := List.filter_congr fun v hv => by
    have : v ≠ z := fun e => hl.1 (e ▸ hv)
    simp [this]
   rw [List.filter_cons_of_pos hf, List.filter_cons_of_neg (by simp), this, List.length_cons]
  ·have hM' : M ∈ l := by
    rcases List.mem_cons.1 hM with h | h
    ·exact absurd h.symm e
    ·exact h
   have := ih hl.2 hM'
   by_cases hz : f z = true
   ·rw [List.filter_cons_of_pos hz, List.filter_cons_of_pos (by simp [hz, e]), List.length_cons, List.length_cons, this]
   ·rw [List.filter_cons_of_neg hz, List.filter_cons_of_neg (by simp [hz]), this]
theorem Least.plus_same (h : Least R n p) (c : Con R u v) : Least (plus R u v) n p := by
 refine h.congr fun a b _ _ => ?_
 rw [Con.plus]
 constructor
 ·exact .inl
 ·rintro (h | ⟨h1, h2⟩ | ⟨h1, h2⟩)
  ·exact h
  ·exact (h1.trans c).trans h2
  ·exact (h1.trans c.symm).trans h2
theorem Least.plus_less (h : Least R n p) (hu : u < n) (hv : v < n) (c : ¬ Con R u v) :
  ∃ p', Least (plus R u v) n p' ∧ Br.cnt n p = Br.cnt n p' + 1 := by
 have hne : p u ≠ p v := fun e => c ((h.eq hu hv).1 e)
 have su := h.self hu
 have sv := h.self hv
 have iu := h.idem hu
 have iv := h.idem hv
 obtain ⟨M, m, hM⟩ : ∃ M m, (M = p u ∧ m = p v ∧ p v < p u) ∨ (M = p v ∧ m = p u ∧ p u < p v) := by
  rcases Nat.lt_or_gt_of_ne hne with h | h
  ·exact ⟨p v, p u, .inr ⟨rfl, rfl, h⟩⟩
  ·exact ⟨p u, p v, .inl ⟨rfl, rfl, h⟩⟩
 have hmM : m < M ∧ M < n ∧ p M = M ∧ p m = m := by
  rcases hM with ⟨rfl, rfl, h⟩ | ⟨rfl, rfl, h⟩
  ·exact ⟨h, by omega, iu, iv⟩
  ·exact ⟨h, by omega, iv, iu⟩
 have cm : Con (plus R u v) M m := by
  have o : Con (plus R u v) u v := .one (.inr ⟨rfl, rfl⟩)
  have mo : ∀ {a b : Nat}, Con R a b → Con (plus R u v) a b := fun h => h.mono fun _ _ e => .inl e
  rcases hM with ⟨rfl, rfl, _⟩ | ⟨rfl, rfl, _⟩
  ·exact ((mo (h.con u hu).symm).trans o).trans (mo (h.con v hv))
  ·exact ((mo (h.con v hv).symm).trans o.symm).trans (mo (h.con u hu))
 refine ⟨fun x => if p x = M then m else p x, ⟨fun x hx => ?_, fun x w hx hw hc => ?_⟩, ?_⟩
 ·have h1 : Con (plus R u v) x (p x) := (h.con x hx).mono fun _ _ e => .inl e
  show Con _ x (if p x = M then m else p x)
  by_cases e : p x = M
  ·rw [if_pos e]; rw [e] at h1; exact h1.trans cm
  ·rw [if_neg e]; exact h1
 ·show (if p x = M then m else p x) ≤ w
  have sw := h.self hw
  have key : p x = p w ∨ ((p x = M ∨ p x = m) ∧ (p w = M ∨ p w = m)) := by
   rcases Con.plus.1 hc with h1 | ⟨h1, h2⟩ | ⟨h1, h2⟩
   ·exact .inl ((h.eq hx hw).2 h1)
   ·have e1 := (h.eq hx hu).2 h1
    have e2 := (h.eq hv hw).2 h2
    right; omega
   ·have e1 := (h.eq hx hv).2 h1
    have e2 := (h.eq hu hw).2 h2
    right; omega
  split <;> omega
 ·unfold Br.cnt
  rw [filter_less List.nodup_range (fun v => decide (p v = v)) (M := M) (List.mem_range.2 hmM.2.1) (by simp [hmM.2.2.1])]
  congr 2
  refine List.filter_congr fun x hx => ?_
  have hx := List.mem_range.1 hx
  by_cases e : p x = M
  ·simp only [e, if_true]
   have : m ≠ x := fun e2 => by rw [← e2, hmM.2.2.2] at e; omega
   simp only [decide_eq_false this]
   by_cases e3 : M = x
   ·simp [e3]
   ·simp [e3]
  ·simp only [if_neg e]
   by_cases e3 : x = M
   ·rw [e3] at e; exact absurd hmM.2.2.1 e
   ·simp [e3]
end
end Go.Br
namespace Go.Br
open Go Go.Li
set_option linter.unusedVariables false
def up {α : Type} (f : Nat → α) (i : Nat) (x : α) : Nat → α := fun j => if j = i then x else f j
theorem up_same {α : Type} (f : Nat → α) (i : Nat) (x : α) : up f i x i = x := if_pos rfl
theorem up_ne {α : Type} (f : Nat → α) {i j : Nat} (x : α) (h : j ≠ i) : up f i x j = f j := if_neg h
def Inc (l : List Ed) (k x y : Nat) : Prop := ∃ e, l[k]? = some e ∧ ((e.u = (x : Int) ∧ e.v = (y : Int)) ∨ (e.u = (y : Int) ∧ e.v = (x : Int)))
def Av (l : List Ed) (k : Nat) (a b : Nat) : Prop := ∃ j, j ≠ k ∧ Inc l j a b
def Te (l : List Ed) (T : Nat → Prop) (a b : Nat) : Prop := ∃ j, T j ∧ Inc l j a b
def Up (l : List Ed) (inn : Nat → Nat) (lo a b : Nat) : Prop := lo ≤ inn a ∧ lo ≤ inn b ∧ ∃ j, Inc l j a b
def Bridge (l : List Ed) (k : Nat) : Prop := ∃ a b, Inc l k a b ∧ ¬ Con (Av l k) a b
theorem Inc.symm {l : List Ed} {k x y : Nat} (h : Inc l k x y) : Inc l k y x := by
 obtain ⟨e, h1, h2⟩ := h
 exact ⟨e, h1, h2.symm⟩
theorem Inc.ends {l : List Ed} {k a b c d : Nat} (h : Inc l k a b) (h' : Inc l k c d) : (c = a ∧ d = b) ∨ (c = b ∧ d = a) := by
 obtain ⟨e, h1, h2⟩ := h
 obtain ⟨e', h3, h4⟩ := h'
 rw [h1] at h3
 obtain rfl := Option.some.inj h3
 omega
structure Gok (l : List Ed) (n : Nat) (bes : Nat → List Nat) : Prop where
 ends : ∀ k x y, Inc l k x y → x < n ∧ y < n ∧ x ≠ y
 bes : ∀ v k, k ∈ bes v ↔ ∃ y, Inc l k v y
structure St where
 v : Nat
 b : Option Nat
 next : Nat
structure LvAt (l : List Ed) (bes : Nat → List Nat) (inn low : Nat → Nat) (hi : Nat) (s : St) : Prop where
 lo : low s.v ≤ inn s.v
 c : ∀ x k y, inn s.v ≤ inn x → inn x < hi → Inc l k x y → (x = s.v → ∃ j, j < s.next ∧ (bes s.v)[j]? = some k) → s.b ≠ some k → low s.v ≤ inn y
 wit : ∃ y, low s.v = inn y ∧ 0 < inn y ∧ (y = s.v ∨ ∃ x k, inn s.v ≤ inn x ∧ inn x < hi ∧ Inc l k x y ∧ s.b ≠ some k)
 con : ∀ x, inn s.v ≤ inn x → inn x < hi → Con (Up l inn (inn s.v)) s.v x
def Lv (l : List Ed) (bes : Nat → List Nat) (inn low : Nat → Nat) : Nat → List St → Prop
 | _, [] => True
 | hi, s :: r => LvAt l bes inn low hi s ∧ Lv l bes inn low (inn s.v) r
def Link (l : List Ed) : List St → Prop
 | [] => True
 | [s] => s.b = none
 | s :: t :: r => (∃ k, s.b = some k ∧ Inc l k t.v s.v) ∧ Link l (t :: r)
structure Inv (l : List Ed) (n : Nat) (bes : Nat → List Nat) (st : List St) (inn low : Nat → Nat) (clock : Nat) (br : Nat → Bool) (T : Nat → Prop) : Prop where
 cl : ∀ x, inn x ≤ clock
 inj : ∀ x y, 0 < inn x → inn x = inn y → x = y
 lt : ∀ x, 0 < inn x → x < n
 sd : ∀ s ∈ st, 0 < inn s.v
 srt : st.Pairwise fun s t => inn t.v < inn s.v
 fin : ∀ x, 0 < inn x → (∀ s ∈ st, s.v ≠ x) → ∀ k y, Inc l k x y → 0 < inn y
 exp : ∀ s ∈ st, s.next ≤ (bes s.v).length ∧ ∀ j k, j < s.next → (bes s.v)[j]? = some k → ∀ y, Inc l k s.v y → 0 < inn y
 X : ∀ s ∈ st, ∀ k x y, Inc l k x y → inn s.v ≤ inn x → 0 < inn y → inn y < inn s.v → ∃ t ∈ st, t.v = y
 link : Link l st
 lv : Lv l bes inn low (clock + 1) st
 te : ∀ s ∈ st, ∀ k, s.b = some k → T k
 t1 : ∀ k, T k → (∃ s ∈ st, s.b = some k) ∨ (br k = true ↔ Bridge l k)
 t2 : ∀ k, ¬ T k → br k = false
 t3 : ∀ k x y, Inc l k x y → 0 < inn x → 0 < inn y → Con (Te l T) x y
section
variable {l : List Ed} {n : Nat} {bes : Nat → List Nat} {st r : List St} {inn low inn' low' : Nat → Nat} {clock hi : Nat} {br : Nat → Bool} {T : Nat → Prop} {s t : St} {k y w v : Nat}
theorem LvAt.pos (h : LvAt l bes inn low hi s) : 0 < low s.v := by obtain ⟨y, h1, h2, _⟩ := h.wit; omega
theorem LvAt.found (h : LvAt l bes inn low hi s) (hs : 0 < inn s.v) (hw : inn w = 0) {c : Nat} (hc : hi ≤ c) : LvAt l bes (up inn w c) (up low w c) hi s := by
 have hsw : s.v ≠ w := fun e => by rw [e] at hs; omega
 have e1 : up inn w c s.v = inn s.v := up_ne _ _ hsw
 have e2 : up low w c s.v = low s.v := up_ne _ _ hsw
 have hx : ∀ x, up inn w c x < hi → x ≠ w := fun x h e => by rw [e, up_same] at h; omega
 have hp := h.pos
 refine ⟨by rw [e1, e2]; exact h.lo, fun x k y h1 h2 h3 h4 h5 => ?_, ?_, fun x h1 h2 => ?_⟩
 ·have hxw := hx x h2
  rw [e1, up_ne _ _ hxw] at h1
  rw [up_ne _ _ hxw] at h2
  have h6 := h.c x k y h1 h2 h3 h4 h5
  rw [e2, up_ne _ _ (fun e => by rw [e] at h6; omega)]
  exact h6
 ·obtain ⟨y, h1, h2, h3⟩ := h.wit
  have hyw : y ≠ w := fun e => by rw [e] at h2; omega
  refine ⟨y, by rw [e2, up_ne _ _ hyw]; exact h1, by rw [up_ne _ _ hyw]; exact h2, h3.imp_right ?_⟩
  rintro ⟨x, k, q1, q2, q3, q4⟩
  have hxw : x ≠ w := fun e => by rw [e] at q1; omega
  exact ⟨x, k, by rw [e1, up_ne _ _ hxw]; exact q1, by rw [up_ne _ _ hxw]; exact q2, q3, q4⟩
 ·have hxw := hx x h2
  rw [e1, up_ne _ _ hxw] at h1
  rw [up_ne _ _ hxw] at h2
  rw [e1]
  refine (h.con x h1 h2).mono fun a b ⟨u1, u2, u3⟩ => ?_
  have ha : a ≠ w := fun e => by rw [e] at u1; omega
  have hb : b ≠ w := fun e => by rw [e] at u2; omega
  exact ⟨by rw [up_ne _ _ ha]; exact u1, by rw [up_ne _ _ hb]; exact u2, u3⟩
theorem Lv.found (hw : inn w = 0) {c : Nat} : ∀ {r : List St} {hi : Nat}, Lv l bes inn low hi r → (∀ s ∈ r, 0 < inn s.v) → (∀ s ∈ r, inn s.v ≤ c) → hi ≤ c → Lv l bes (up inn w c) (up low w c) hi r
 | [], _, _, _, _, _ => trivial
 | s :: r, hi, ⟨h1, h2⟩, hs, hc, hh => by
  have hs0 := hs s (.head _)
  refine ⟨h1.found hs0 hw hh, ?_⟩
  rw [up_ne _ _ (fun e => by rw [e] at hs0; omega)]
  exact h2.found hw (fun t ht => hs t (.tail _ ht)) (fun t ht => hc t (.tail _ ht)) (hc s (.head _))
theorem Lv.lows : ∀ {r : List St} {hi : Nat}, Lv l bes inn low hi r → (∀ s ∈ r, low' s.v = low s.v) → Lv l bes inn low' hi r
 | [], _, _, _ => trivial
 | s :: r, hi, ⟨h1, h2⟩, hs => by
  have e := hs s (.head _)
  exact ⟨⟨by rw [e]; exact h1.lo, fun x k y a b c d f => by rw [e]; exact h1.c x k y a b c d f, by rw [e]; exact h1.wit, h1.con⟩, h2.lows fun t ht => hs t (.tail _ ht)⟩
theorem Link.next (h : Link l (s :: r)) (m : Nat) : Link l ({ s with next := m } :: r) := by
 cases r with
 | nil => exact h
 | cons t r => exact h
theorem Link.tail (h : Link l (s :: r)) : Link l r := by
 cases r with
 | nil => trivial
 | cons t r => exact h.2
theorem Link.con {R : Nat → Nat → Prop} : ∀ {st : List St}, Link l st → (∀ s ∈ st, ∀ k a, s.b = some k → Inc l k a s.v → (∃ t ∈ st, t.v = a) → R a s.v) → ∀ s ∈ st, ∀ t ∈ st, Con R s.v t.v
 | [], _, _, s, hs, _, _ => by cases hs
 | [a], _, _, s, hs, t, ht => by
  rw [List.mem_singleton.1 hs, List.mem_singleton.1 ht]
  exact .refl _
 | a :: b :: r, ⟨⟨k, h1, h2⟩, h3⟩, hR, s, hs, t, ht => by
  have ih := Link.con h3 fun s hs k a h1 h2 ⟨t, ht, e⟩ => hR s (.tail _ hs) k a h1 h2 ⟨t, .tail _ ht, e⟩
  have ab : Con R b.v a.v := .one (hR a (.head _) k b.v h1 h2 ⟨b, .tail _ (.head _), rfl⟩)
  have to : ∀ s ∈ a :: b :: r, Con R s.v b.v := fun s hs => by
   rcases List.mem_cons.1 hs with rfl | hs
   ·exact ab.symm
   ·exact ih s hs b (.head _)
  exact (to s hs).trans (to t ht).symm
theorem Inv.apart (h : Inv l n bes (s :: r) inn low clock br T) : ∀ t ∈ r, t.v ≠ s.v := fun t ht e => by
 have := (List.pairwise_cons.1 h.srt).1 t ht
 rw [e] at this; omega
theorem Inv.low_le (h : Inv l n bes (s :: r) inn low clock br T) : low s.v ≤ clock := Nat.le_trans h.lv.1.lo (h.cl _)
theorem Inv.push (g : Gok l n bes) (h : Inv l n bes (s :: r) inn low clock br T) (hk : (bes s.v)[s.next]? = some k) (hky : Inc l k s.v y) (hy : inn y = 0) :
  Inv l n bes (⟨y, some k, 0⟩ :: { s with next := s.next + 1 } :: r) (up inn y (clock + 1)) (up low y (clock + 1)) (clock + 1) br (fun j => T j ∨ j = k) := by
 have hs0 := h.sd s (.head _)
 have nes : ∀ t ∈ s :: r, t.v ≠ y := fun t ht e => by have := h.sd t ht; rw [e] at this; omega
 have old : ∀ {x}, 0 < inn x → x ≠ y := fun h e => by rw [e] at h; omega
 have ev : ∀ {x}, x ≠ y → up inn y (clock + 1) x = inn x := fun h => up_ne _ _ h
 have ey : up inn y (clock + 1) y = clock + 1 := up_same _ _ _
 have pos : ∀ {x}, 0 < up inn y (clock + 1) x → x = y ∨ 0 < inn x := fun {x} hx => by
  by_cases e : x = y
  ·exact .inl e
  ·rw [ev e] at hx; exact .inr hx
 have mono : ∀ {x}, 0 < inn x → 0 < up inn y (clock + 1) x := fun hx => by rw [ev (old hx)]; exact hx
 have onway : ∀ {j z}, Inc l j y z → 0 < inn z → ∃ t ∈ s :: r, t.v = z := fun {j z} hj hz => by
  apply Classical.byContradiction
  intro hn
  have := h.fin z hz (fun t ht e => hn ⟨t, ht, e⟩) j y hj.symm
  omega
 have mem' : ∀ {z}, (∃ t ∈ s :: r, t.v = z) → ∃ t ∈ (⟨y, some k, 0⟩ :: { s with next := s.next + 1 } :: r : List St), t.v = z := by
  rintro z ⟨t, ht, rfl⟩
  rcases List.mem_cons.1 ht with rfl | ht
  ·exact ⟨_, .tail _ (.head _), rfl⟩
  ·exact ⟨t, .tail _ (.tail _ ht), rfl⟩
 have expS : ∀ j k', j < s.next + 1 → (bes s.v)[j]? = some k' → ∀ z, Inc l k' s.v z → 0 < up inn y (clock + 1) z := fun j k' hj hk' z hz => by
  rcases Nat.lt_succ_iff_lt_or_eq.1 hj with hj | rfl
  ·exact mono ((h.exp s (.head _)).2 j k' hj hk' z hz)
  ·rw [hk] at hk'
   obtain rfl := Option.some.inj hk'
   have : z = y := by
    have := g.ends _ _ _ hky
    rcases hky.ends hz with ⟨_, e⟩ | ⟨e, e2⟩
    ·exact e
    ·exact absurd e this.2.2
   rw [this, ey]; omega
 have hkl : s.next < (bes s.v).length := (List.getElem?_eq_some_iff.1 hk).1
 have Xold : ∀ t ∈ s :: r, ∀ j x z, Inc l j x z → inn t.v ≤ up inn y (clock + 1) x → 0 < up inn y (clock + 1) z → up inn y (clock + 1) z < inn t.v → ∃ t ∈ s :: r, t.v = z := by
  intro t ht j x z hj h1 h2 h3
  have hz : z ≠ y := fun e => by rw [e, ey] at h3; have := h.cl t.v; omega
  rw [ev hz] at h2 h3
  by_cases hx : x = y
  ·subst hx; exact onway hj h2
  ·rw [ev hx] at h1
   exact h.X t ht j x z hj h1 h2 h3
 refine ⟨fun x => ?_, fun x x' h1 h2 => ?_, fun x hx => ?_, ?_, ?_, fun x hx hns j z hj => ?_, ?_, ?_, ⟨⟨k, rfl, hky⟩, h.link.next _⟩, ?_, ?_, ?_, ?_, ?_⟩
 ·by_cases e : x = y
  ·rw [e, ey]; exact Nat.le_refl _
  ·rw [ev e]; have := h.cl x; omega
 ·by_cases e : x = y
  ·subst e
   rw [ey] at h2
   by_cases e' : x' = x
   ·exact e'.symm
   ·rw [ev e'] at h2; have := h.cl x'; omega
  ·rw [ev e] at h1 h2
   by_cases e' : x' = y
   ·rw [e', ey] at h2; have := h.cl x; omega
   ·rw [ev e'] at h2; exact h.inj x x' h1 h2
 ·rcases pos hx with rfl | hx
  ·exact (g.ends _ _ _ hky).2.1
  ·exact h.lt x hx
 ·intro t ht
  rcases List.mem_cons.1 ht with rfl | ht
  ·show 0 < up inn y (clock + 1) y
   rw [ey]; omega
  rcases List.mem_cons.1 ht with rfl | ht
  ·exact mono (h.sd s (.head _))
  ·exact mono (h.sd t (.tail _ ht))
 ·have hp := List.pairwise_cons.1 h.srt
  rw [List.pairwise_cons, List.pairwise_cons]
  refine ⟨fun t ht => ?_, fun t ht => ?_, hp.2.imp_of_mem fun {a b} ha hb hab => ?_⟩
  ·show up inn y (clock + 1) t.v < up inn y (clock + 1) y
   rw [ey]
   rcases List.mem_cons.1 ht with rfl | ht
   ·show up inn y (clock + 1) s.v < _
    rw [ev (nes s (.head _))]; have := h.cl s.v; omega
   ·rw [ev (nes t (.tail _ ht))]; have := h.cl t.v; omega
  ·show up inn y (clock + 1) t.v < up inn y (clock + 1) s.v
   rw [ev (nes s (.head _)), ev (nes t (.tail _ ht))]
   exact hp.1 t ht
  ·rw [ev (nes a (.tail _ ha)), ev (nes b (.tail _ hb))]; exact hab
 ·rcases pos hx with rfl | hx
  ·exact absurd rfl (hns _ (.head _))
  ·refine mono (h.fin x hx (fun t ht e => ?_) j z hj)
   obtain ⟨t', ht', e'⟩ := mem' ⟨t, ht, e⟩
   exact hns t' ht' e'
 ·intro t ht
  rcases List.mem_cons.1 ht with rfl | ht
  ·exact ⟨Nat.zero_le _, fun j _ hj => absurd hj (Nat.not_lt_zero _)⟩
  rcases List.mem_cons.1 ht with rfl | ht
  ·exact ⟨hkl, expS⟩
  ·exact ⟨(h.exp t (.tail _ ht)).1, fun j k' a b z c => mono ((h.exp t (.tail _ ht)).2 j k' a b z c)⟩
 ·intro t ht j x z hj h1 h2 h3
  rcases List.mem_cons.1 ht with rfl | ht
  ·have h1 : up inn y (clock + 1) y ≤ up inn y (clock + 1) x := h1
   have h3 : up inn y (clock + 1) z < up inn y (clock + 1) y := h3
   rw [ey] at h1 h3
   have hz : z ≠ y := fun e => by rw [e, ey] at h3; omega
   rw [ev hz] at h2
   have hx : x = y := Classical.byContradiction fun e => by rw [ev e] at h1; have := h.cl x; omega
   subst hx
   exact mem' (onway hj h2)
  rcases List.mem_cons.1 ht with rfl | ht
  ·have e : up inn y (clock + 1) s.v = inn s.v := ev (nes s (.head _))
   have h1 : up inn y (clock + 1) s.v ≤ up inn y (clock + 1) x := h1
   have h3 : up inn y (clock + 1) z < up inn y (clock + 1) s.v := h3
   rw [e] at h1 h3
   exact mem' (Xold s (.head _) j x z hj h1 h2 h3)
  ·rw [ev (nes t (.tail _ ht))] at h1 h3
   exact mem' (Xold t (.tail _ ht) j x z hj h1 h2 h3)
 ·have hv := h.lv
  refine ⟨⟨?_, fun x j z h1 h2 h3 h4 h5 => ?_, ⟨y, ?_, ?_, .inl rfl⟩, fun x h1 h2 => ?_⟩, ?_⟩
  ·show up low y (clock + 1) y ≤ up inn y (clock + 1) y
   rw [ey, up_same]; exact Nat.le_refl _
  ·have h1 : up inn y (clock + 1) y ≤ up inn y (clock + 1) x := h1
   have hx : x = y := Classical.byContradiction fun e => by rw [ev e, ey] at h1; have := h.cl x; omega
   obtain ⟨j', hj', _⟩ := h4 hx
   exact absurd hj' (Nat.not_lt_zero _)
  ·show up low y (clock + 1) y = up inn y (clock + 1) y
   rw [ey, up_same]
  ·rw [ey]; omega
  ·have h1 : up inn y (clock + 1) y ≤ up inn y (clock + 1) x := h1
   have hx : x = y := Classical.byContradiction fun e => by rw [ev e, ey] at h1; have := h.cl x; omega
   subst hx
   exact .refl _
  ·show Lv l bes (up inn y (clock + 1)) (up low y (clock + 1)) (up inn y (clock + 1) y) _
   rw [ey]
   have hf := Lv.found (c := clock + 1) hy hv h.sd (fun t _ => by have := h.cl t.v; omega) (Nat.le_refl _)
   obtain ⟨f1, f2⟩ := hf
   refine ⟨⟨f1.lo, fun x j z h1 h2 h3 h4 h5 => ?_, f1.wit, f1.con⟩, f2⟩
   by_cases hxs : x = s.v
   ·obtain ⟨j', hj', hj2⟩ := h4 hxs
    rcases Nat.lt_succ_iff_lt_or_eq.1 hj' with hj' | rfl
    ·exact f1.c x j z h1 h2 h3 (fun _ => ⟨j', hj', hj2⟩) h5
    ·have hj2 : (bes s.v)[s.next]? = some j := hj2
     rw [hk] at hj2
     obtain rfl := Option.some.inj hj2
     have hz : z = y := by
      have := g.ends _ _ _ hky
      subst hxs
      rcases hky.ends h3 with ⟨_, e⟩ | ⟨e, e2⟩
      ·exact e
      ·exact absurd e this.2.2
     show up low y (clock + 1) s.v ≤ up inn y (clock + 1) z
     rw [hz, ey, up_ne _ _ (nes s (.head _))]
     have := h.low_le; omega
   ·exact f1.c x j z h1 h2 h3 (fun e => absurd e hxs) h5
 ·intro t ht j hj
  rcases List.mem_cons.1 ht with rfl | ht
  ·exact .inr (Option.some.inj hj).symm
  rcases List.mem_cons.1 ht with rfl | ht
  ·exact .inl (h.te s (.head _) j hj)
  ·exact .inl (h.te t (.tail _ ht) j hj)
 ·rintro j (hj | rfl)
  ·rcases h.t1 j hj with ⟨t, ht, e⟩ | h2
   ·left
    rcases List.mem_cons.1 ht with rfl | ht
    ·exact ⟨_, .tail _ (.head _), e⟩
    ·exact ⟨t, .tail _ (.tail _ ht), e⟩
   ·exact .inr h2
  ·exact .inl ⟨_, .head _, rfl⟩
 ·intro j hj
  exact h.t2 j fun e => hj (.inl e)
 ·intro j x z hj hx hz
  have m : ∀ {a b}, Con (Te l T) a b → Con (Te l fun j => T j ∨ j = k) a b := fun h => h.mono fun a b ⟨j, h1, h2⟩ => ⟨j, .inl h1, h2⟩
  have way : ∀ z, (∃ t ∈ s :: r, t.v = z) → Con (Te l fun j => T j ∨ j = k) y z := by
   rintro z ⟨t, ht, rfl⟩
   have c1 : Con (Te l T) s.v t.v := Link.con (R := Te l T) h.link (fun s' hs' k' a e i _ => ⟨k', h.te s' hs' k' e, i⟩) s (.head _) t ht
   have c2 : Con (Te l fun j => T j ∨ j = k) s.v y := .one ⟨k, .inr rfl, hky⟩
   exact c2.symm.trans (m c1)
  rcases pos hx with ex | hx'
  ·rcases pos hz with ez | hz'
   ·rw [ex, ez]; exact .refl _
   ·rw [ex]; rw [ex] at hj; exact way z (onway hj hz')
  ·rcases pos hz with ez | hz'
   ·rw [ez]; rw [ez] at hj; exact (way x (onway hj.symm hx')).symm
   ·exact m (h.t3 j x z hj hx' hz')
end
end Go.Br
namespace Go.Br
open Go Go.Li
set_option linter.unusedVariables false
section
variable {l : List Ed} {n : Nat} {bes : Nat → List Nat} {st r : List St} {inn low inn' low' : Nat → Nat} {clock hi : Nat} {br : Nat → Bool} {T : Nat → Prop} {s t : St} {k y w v : Nat}
theorem up_self {α : Type} (f : Nat → α) (i : Nat) : up f i (f i) = f := by
 funext j
 unfold up
 split
 ·rename_i e; rw [e]
 ·rfl
theorem only (g : Gok l n bes) {x z : Nat} (h : Inc l k x y) (h' : Inc l k x z) : z = y := by
 have := g.ends _ _ _ h
 rcases h.ends h' with ⟨_, e⟩ | ⟨e, e2⟩
 ·exact e
 ·exact absurd e this.2.2
theorem Inv.over (g : Gok l n bes) (h : Inv l n bes (s :: r) inn low clock br T) (hk : (bes s.v)[s.next]? = some k) (hky : Inc l k s.v y) (hy : 0 < inn y) (m : Nat) (hm : m ≤ low s.v) (h1 : s.b ≠ some k → m ≤ inn y) (h2 : m = low s.v ∨ (m = inn y ∧ s.b ≠ some k)) :
  Inv l n bes ({ s with next := s.next + 1 } :: r) inn (up low s.v m) clock br T := by
 have mem' : ∀ {z}, (∃ t ∈ s :: r, t.v = z) → ∃ t ∈ ({ s with next := s.next + 1 } :: r : List St), t.v = z := by
  rintro z ⟨t, ht, rfl⟩
  rcases List.mem_cons.1 ht with rfl | ht
  ·exact ⟨_, .head _, rfl⟩
  ·exact ⟨t, .tail _ ht, rfl⟩
 have hkl : s.next < (bes s.v).length := (List.getElem?_eq_some_iff.1 hk).1
 have hp := List.pairwise_cons.1 h.srt
 obtain ⟨v1, v2⟩ := h.lv
 refine ⟨h.cl, h.inj, h.lt, ?_, List.pairwise_cons.2 ⟨hp.1, hp.2⟩, fun x hx hns => h.fin x hx fun t ht e => ?_, ?_, ?_, h.link.next _, ⟨⟨?_, fun x j z a b c d f => ?_, ?_, ?_⟩, ?_⟩, ?_, ?_, h.t2, h.t3⟩
 ·intro t ht
  rcases List.mem_cons.1 ht with rfl | ht
  ·exact h.sd s (.head _)
  ·exact h.sd t (.tail _ ht)
 ·obtain ⟨t', ht', e'⟩ := mem' ⟨t, ht, e⟩
  exact hns t' ht' e'
 ·intro t ht
  rcases List.mem_cons.1 ht with rfl | ht
  ·refine ⟨hkl, fun j k' hj hk' z hz => ?_⟩
   rcases Nat.lt_succ_iff_lt_or_eq.1 hj with hj | rfl
   ·exact (h.exp s (.head _)).2 j k' hj hk' z hz
   ·have hk' : (bes s.v)[s.next]? = some k' := hk'
    rw [hk] at hk'
    obtain rfl := Option.some.inj hk'
    have hz : Inc l k s.v z := hz
    rw [only g hky hz]; exact hy
  ·exact h.exp t (.tail _ ht)
 ·intro t ht j x z a b c d
  rcases List.mem_cons.1 ht with rfl | ht
  ·exact mem' (h.X s (.head _) j x z a b c d)
  ·exact mem' (h.X t (.tail _ ht) j x z a b c d)
 ·show up low s.v m s.v ≤ inn s.v
  rw [up_same]; exact Nat.le_trans hm v1.lo
 ·show up low s.v m s.v ≤ inn z
  rw [up_same]
  by_cases hx : x = s.v
  ·obtain ⟨j', hj', hj2⟩ := d hx
   have hj2 : (bes s.v)[j']? = some j := hj2
   rcases Nat.lt_succ_iff_lt_or_eq.1 hj' with hj' | rfl
   ·exact Nat.le_trans hm (v1.c x j z a b c (fun _ => ⟨j', hj', hj2⟩) f)
   ·rw [hk] at hj2
    obtain rfl := Option.some.inj hj2
    subst hx
    rw [only g hky c]
    exact h1 f
  ·exact Nat.le_trans hm (v1.c x j z a b c (fun e => absurd e hx) f)
 ·show ∃ y, up low s.v m s.v = inn y ∧ 0 < inn y ∧ (y = s.v ∨ ∃ x k, inn s.v ≤ inn x ∧ inn x < clock + 1 ∧ Inc l k x y ∧ s.b ≠ some k)
  rw [up_same]
  rcases h2 with rfl | ⟨rfl, hb⟩
  ·exact v1.wit
  ·exact ⟨y, rfl, hy, .inr ⟨s.v, k, Nat.le_refl _, by have := h.cl s.v; omega, hky, hb⟩⟩
 ·exact v1.con
 ·exact Lv.lows v2 fun t ht => up_ne _ _ (h.apart t ht)
 ·intro t ht j hj
  rcases List.mem_cons.1 ht with rfl | ht
  ·exact h.te s (.head _) j hj
  ·exact h.te t (.tail _ ht) j hj
 ·intro j hj
  rcases h.t1 j hj with ⟨t, ht, e⟩ | h2
  ·left
   rcases List.mem_cons.1 ht with rfl | ht
   ·exact ⟨_, .head _, e⟩
   ·exact ⟨t, .tail _ ht, e⟩
  ·exact .inr h2
theorem Link.from (h : Link l (s :: r)) (hb : s.b = some k) : ∃ t r', r = t :: r' ∧ Inc l k t.v s.v := by
 cases r with
 | nil => rw [show s.b = none from h] at hb; cases hb
 | cons t r' =>
  obtain ⟨⟨k', h1, h2⟩, _⟩ := h
  rw [hb] at h1
  obtain rfl := Option.some.inj h1
  exact ⟨t, r', rfl, h2⟩
theorem Inv.skip (g : Gok l n bes) (h : Inv l n bes (s :: r) inn low clock br T) (hk : (bes s.v)[s.next]? = some k) (hb : s.b = some k) : Inv l n bes ({ s with next := s.next + 1 } :: r) inn low clock br T := by
 obtain ⟨t, r', rfl, h1⟩ := h.link.from hb
 have := h.over g hk h1.symm (h.sd t (.tail _ (.head _))) (low s.v) (Nat.le_refl _) (fun e => absurd hb e) (.inl rfl)
 rwa [up_self] at this
theorem Inv.back (g : Gok l n bes) (h : Inv l n bes (s :: r) inn low clock br T) (hk : (bes s.v)[s.next]? = some k) (hb : s.b ≠ some k) (hky : Inc l k s.v y) (hy : 0 < inn y) :
  Inv l n bes ({ s with next := s.next + 1 } :: r) inn (up low s.v (min (low s.v) (inn y))) clock br T :=
 h.over g hk hky hy _ (Nat.min_le_left _ _) (fun _ => Nat.min_le_right _ _) (by
  rcases Nat.le_total (low s.v) (inn y) with e | e
  ·exact .inl (Nat.min_eq_left e)
  ·exact .inr ⟨Nat.min_eq_right e, hb⟩)
theorem Inv.cut (g : Gok l n bes) (h : Inv l n bes (s :: t :: r) inn low clock br T) (hn : s.next = (bes s.v).length) (hb : s.b = some k) : (inn t.v < low s.v) ↔ Bridge l k := by
 obtain ⟨⟨k', e1, hi⟩, _⟩ := h.link
 rw [hb] at e1
 obtain rfl := Option.some.inj e1
 have hp := List.pairwise_cons.1 h.srt
 have hts := hp.1 t (.head _)
 have all : ∀ x j, Inc l j s.v x → ∃ i, i < s.next ∧ (bes s.v)[i]? = some j := fun x j hj => by
  obtain ⟨i, hi, e⟩ := List.mem_iff_getElem.1 ((g.bes s.v j).2 ⟨x, hj⟩)
  exact ⟨i, by omega, by rw [List.getElem?_eq_getElem hi, e]⟩
 obtain ⟨v1, v2⟩ := h.lv
 have low_of : ∀ x j z, inn s.v ≤ inn x → Inc l j x z → j ≠ k → low s.v ≤ inn z := fun x j z hx hj hjk =>
  v1.c x j z hx (by have := h.cl x; omega) hj (fun e => by rw [e] at hj; exact all z j hj) (by rw [hb]; intro e; exact hjk (Option.some.inj e).symm)
 have below : ∀ z, 0 < inn z → inn z < inn s.v → (∃ j x, Inc l j x z ∧ inn s.v ≤ inn x) → ∃ t' ∈ t :: r, t'.v = z := fun z hz hlt ⟨j, x, hj, hx⟩ => by
  obtain ⟨t', ht', e⟩ := h.X s (.head _) j x z hj hx hz hlt
  rcases List.mem_cons.1 ht' with rfl | ht'
  ·rw [e] at hlt; omega
  ·exact ⟨t', ht', e⟩
 have le_t : ∀ t' ∈ t :: r, inn t'.v ≤ inn t.v := fun t' ht' => by
  rcases List.mem_cons.1 ht' with rfl | ht'
  ·exact Nat.le_refl _
  ·exact Nat.le_of_lt ((List.pairwise_cons.1 hp.2).1 t' ht')
 constructor
 ·intro hlow
  refine ⟨t.v, s.v, hi, fun hc => ?_⟩
  have cl : ∀ x z, Av l k x z → (inn s.v ≤ inn x ↔ inn s.v ≤ inn z) := by
   have one : ∀ x z, Av l k x z → inn s.v ≤ inn x → inn s.v ≤ inn z := by
    rintro x z ⟨j, hjk, hj⟩ hx
    have h1 := low_of x j z hx hj hjk
    apply Nat.le_of_not_lt
    intro hlt
    obtain ⟨t', ht', e⟩ := below z (by omega) hlt ⟨j, x, hj, hx⟩
    have := le_t t' ht'
    rw [e] at this
    omega
   intro x z hxz
   exact ⟨one x z hxz, one z x (by obtain ⟨j, a, b⟩ := hxz; exact ⟨j, a, b.symm⟩)⟩
  have := (hc.closed cl).2 (Nat.le_refl _)
  omega
 ·rintro ⟨a, b, hab, hno⟩
  apply Nat.lt_of_not_le
  intro hle
  have hc : Con (Av l k) t.v s.v := by
   obtain ⟨z, h1, h2, h3⟩ := v1.wit
   have hzs : z ≠ s.v := fun e => by rw [e] at h1; omega
   obtain ⟨x, j, q1, q2, q3, q4⟩ := h3.resolve_left hzs
   obtain ⟨t', ht', e⟩ := below z h2 (by omega) ⟨j, x, q3, q1⟩
   have c1 : Con (Av l k) t.v t'.v := by
    refine Link.con (R := Av l k) h.link.tail (fun s' hs' k' a' e' i' ⟨t2, ht2, e2⟩ => ⟨k', fun ek => ?_, i'⟩) t (.head _) t' ht'
    subst ek
    have n1 := le_t s' hs'
    have n2 := le_t t2 ht2
    rw [e2] at n2
    rcases hi.ends i' with ⟨_, e3⟩ | ⟨e3, e4⟩
    ·rw [e3] at n1; omega
    ·rw [e3] at n2; omega
   rw [e] at c1
   have c2 : Con (Av l k) z x := .one ⟨j, fun e => q4 (by rw [hb, e]), q3.symm⟩
   have c3 : Con (Av l k) s.v x := by
    refine (v1.con x q1 q2).mono fun a' b' ⟨u1, u2, j', u3⟩ => ⟨j', fun e => ?_, u3⟩
    subst e
    rcases hi.ends u3 with ⟨e3, _⟩ | ⟨_, e3⟩
    ·rw [e3] at u1; omega
    ·rw [e3] at u2; omega
   exact (c1.trans c2).trans c3.symm
  rcases hi.ends hab with ⟨rfl, rfl⟩ | ⟨rfl, rfl⟩
  ·exact hno hc
  ·exact hno hc.symm
theorem Inv.pop (g : Gok l n bes) (h : Inv l n bes (s :: t :: r) inn low clock br T) (hn : s.next = (bes s.v).length) (hb : s.b = some k) :
  Inv l n bes (t :: r) inn (up low t.v (min (low t.v) (low s.v))) clock (up br k (decide (inn t.v < low s.v))) T := by
 have hcut := h.cut g hn hb
 obtain ⟨⟨k', e1, hi⟩, hl2⟩ := h.link
 rw [hb] at e1
 obtain rfl := Option.some.inj e1
 have hp := List.pairwise_cons.1 h.srt
 have hts := hp.1 t (.head _)
 have hp2 := List.pairwise_cons.1 hp.2
 have all : ∀ x j, Inc l j s.v x → ∃ i, i < s.next ∧ (bes s.v)[i]? = some j := fun x j hj => by
  obtain ⟨i, hi, e⟩ := List.mem_iff_getElem.1 ((g.bes s.v j).2 ⟨x, hj⟩)
  exact ⟨i, by omega, by rw [List.getElem?_eq_getElem hi, e]⟩
 obtain ⟨v1, v2, v3⟩ := h.lv
 have tb : t.b ≠ some k := fun e => by
  obtain ⟨t2, r2, e2, i2⟩ := hl2.from e
  have := hp2.1 t2 (by rw [e2]; exact .head _)
  rcases hi.ends i2 with ⟨e3, e4⟩ | ⟨e3, e4⟩
  ·rw [e4] at hts; omega
  ·rw [e3] at this; omega
 have tbx : ∀ j x z, Inc l j x z → inn s.v ≤ inn x → t.b ≠ some j := fun j x z hj hx e => by
  obtain ⟨t2, r2, e2, i2⟩ := hl2.from e
  have := hp2.1 t2 (by rw [e2]; exact .head _)
  rcases hj.ends i2 with ⟨e3, e4⟩ | ⟨e3, e4⟩
  ·rw [e3] at this; omega
  ·rw [← e4] at hx; omega
 have hne : ∀ t' ∈ r, t'.v ≠ t.v := fun t' ht' e => by have := hp2.1 t' ht'; rw [e] at this; omega
 refine ⟨h.cl, h.inj, h.lt, fun t' ht' => h.sd t' (.tail _ ht'), hp.2, fun x hx hns j z hj => ?_, fun t' ht' => h.exp t' (.tail _ ht'), fun t' ht' j x z a b c d => ?_, hl2, ⟨⟨?_, fun x j z a b c d f => ?_, ?_, fun x a b => ?_⟩, ?_⟩, fun t' ht' => h.te t' (.tail _ ht'), fun j hj => ?_, fun j hj => ?_, h.t3⟩
 ·by_cases e : x = s.v
  ·subst e
   obtain ⟨i, hi, hj2⟩ := all z j hj
   exact (h.exp s (.head _)).2 i j hi hj2 z hj
  ·refine h.fin x hx (fun t' ht' => ?_) j z hj
   rcases List.mem_cons.1 ht' with rfl | ht'
   ·exact Ne.symm e
   ·exact hns t' ht'
 ·obtain ⟨t2, ht2, e⟩ := h.X t' (.tail _ ht') j x z a b c d
  rcases List.mem_cons.1 ht2 with rfl | ht2
  ·have := hp.1 t' ht'
   rw [e] at this; omega
  ·exact ⟨t2, ht2, e⟩
 ·rw [up_same]
  exact Nat.le_trans (Nat.min_le_left _ _) v2.lo
 ·rw [up_same]
  by_cases hx : inn x < inn s.v
  ·exact Nat.le_trans (Nat.min_le_left _ _) (v2.c x j z a hx c d f)
  ·by_cases hjk : j = k
   ·subst hjk
    have : z = t.v := by
     rcases hi.ends c with ⟨e3, e4⟩ | ⟨e3, e4⟩
     ·rw [e3] at hx; omega
     ·exact e4
    rw [this]
    exact Nat.le_trans (Nat.min_le_left _ _) v2.lo
   ·refine Nat.le_trans (Nat.min_le_right _ _) (v1.c x j z (by omega) b c (fun e => by rw [e] at c; exact all z j c) ?_)
    rw [hb]; intro e; exact hjk (Option.some.inj e).symm
 ·rw [up_same]
  rcases Nat.le_total (low t.v) (low s.v) with e | e
  ·rw [Nat.min_eq_left e]
   obtain ⟨z, h1, h2, h3⟩ := v2.wit
   refine ⟨z, h1, h2, h3.imp_right fun ⟨x, j, q1, q2, q3, q4⟩ => ⟨x, j, q1, by have := h.cl x; omega, q3, q4⟩⟩
  ·rw [Nat.min_eq_right e]
   obtain ⟨z, h1, h2, h3⟩ := v1.wit
   refine ⟨z, h1, h2, .inr ?_⟩
   rcases h3 with rfl | ⟨x, j, q1, q2, q3, q4⟩
   ·exact ⟨t.v, k, Nat.le_refl _, by have := h.cl t.v; omega, hi, tb⟩
   ·exact ⟨x, j, by omega, q2, q3, tbx j x z q3 q1⟩
 ·by_cases hx : inn x < inn s.v
  ·exact v2.con x a hx
  ·have c1 := v1.con x (by omega) b
   have c2 : Con (Up l inn (inn t.v)) s.v x := c1.mono fun a' b' ⟨u1, u2, u3⟩ => ⟨by omega, by omega, u3⟩
   exact Con.trans (.one ⟨Nat.le_refl _, by omega, k, hi⟩) c2
 ·exact Lv.lows v3 fun t' ht' => up_ne _ _ (hne t' ht')
 ·by_cases e : j = k
  ·subst e
   right
   rw [up_same, decide_eq_true_iff]
   exact hcut
  ·rw [up_ne _ _ e]
   rcases h.t1 j hj with ⟨t', ht', e'⟩ | h2
   ·left
    rcases List.mem_cons.1 ht' with rfl | ht'
    ·rw [hb] at e'
     exact absurd (Option.some.inj e').symm e
    ·exact ⟨t', ht', e'⟩
   ·exact .inr h2
 ·have e : j ≠ k := fun e => hj (by rw [e]; exact h.te s (.head _) k hb)
  rw [up_ne _ _ e]
  exact h.t2 j hj
theorem Inv.last (g : Gok l n bes) (h : Inv l n bes [s] inn low clock br T) (hn : s.next = (bes s.v).length) : Inv l n bes [] inn low clock br T := by
 have hb : s.b = none := h.link
 refine ⟨h.cl, h.inj, h.lt, nofun, .nil, fun x hx _ j z hj => ?_, nofun, nofun, trivial, trivial, nofun, fun j hj => ?_, h.t2, h.t3⟩
 ·by_cases e : x = s.v
  ·subst e
   obtain ⟨i, hi, e⟩ := List.mem_iff_getElem.1 ((g.bes s.v j).2 ⟨z, hj⟩)
   exact (h.exp s (.head _)).2 i j (by omega) (by rw [List.getElem?_eq_getElem hi, e]) z hj
  ·refine h.fin x hx (fun t' ht' => ?_) j z hj
   rw [List.mem_singleton.1 ht']
   exact Ne.symm e
 ·rcases h.t1 j hj with ⟨t', ht', e'⟩ | h2
  ·rw [List.mem_singleton.1 ht', hb] at e'; cases e'
  ·exact .inr h2
theorem Inv.start (g : Gok l n bes) (h : Inv l n bes [] inn low clock br T) (hv : inn v = 0) (hvn : v < n) :
  Inv l n bes [⟨v, none, 0⟩] (up inn v (clock + 1)) (up low v (clock + 1)) (clock + 1) br T := by
 have ev : ∀ {x}, x ≠ v → up inn v (clock + 1) x = inn x := fun h => up_ne _ _ h
 have ey : up inn v (clock + 1) v = clock + 1 := up_same _ _ _
 have noway : ∀ {j z}, Inc l j v z → 0 < inn z → False := fun {j z} hj hz => by
  have := h.fin z hz nofun j v hj.symm
  omega
 have pos : ∀ {x}, 0 < up inn v (clock + 1) x → x = v ∨ (x ≠ v ∧ 0 < inn x) := fun {x} hx => by
  by_cases e : x = v
  ·exact .inl e
  ·rw [ev e] at hx; exact .inr ⟨e, hx⟩
 have top : ∀ {x}, clock + 1 ≤ up inn v (clock + 1) x → x = v := fun {x} hx => Classical.byContradiction fun e => by rw [ev e] at hx; have := h.cl x; omega
 refine ⟨fun x => ?_, fun x x' h1 h2 => ?_, fun x hx => ?_, fun t ht => ?_, by simp, fun x hx hns j z hj => ?_, fun t ht => ?_, fun t ht j x z a b c d => ?_, rfl, ⟨⟨?_, fun x j z a b c d f => ?_, ⟨v, ?_, ?_, .inl rfl⟩, fun x a b => ?_⟩, trivial⟩, fun t ht j hj => ?_, fun j hj => ?_, h.t2, fun j x z hj hx hz => ?_⟩
 ·by_cases e : x = v
  ·rw [e, ey]; exact Nat.le_refl _
  ·rw [ev e]; have := h.cl x; omega
 ·by_cases e : x = v
  ·subst e
   rw [ey] at h2
   exact (top (by omega)).symm
  ·rw [ev e] at h1 h2
   by_cases e' : x' = v
   ·rw [e', ey] at h2; have := h.cl x; omega
   ·rw [ev e'] at h2; exact h.inj x x' h1 h2
 ·rcases pos hx with rfl | ⟨_, hx⟩
  ·exact hvn
  ·exact h.lt x hx
 ·rw [List.mem_singleton.1 ht, ey]; omega
 ·rcases pos hx with rfl | ⟨e, hx⟩
  ·exact absurd rfl (hns _ (.head _))
  ·have := h.fin x hx nofun j z hj
   rw [ev (fun e => by rw [e] at this; omega)]
   exact this
 ·rw [List.mem_singleton.1 ht]
  exact ⟨Nat.zero_le _, fun j _ hj => absurd hj (Nat.not_lt_zero _)⟩
 ·obtain rfl := List.mem_singleton.1 ht
  have b : up inn v (clock + 1) v ≤ up inn v (clock + 1) x := b
  have d : up inn v (clock + 1) z < up inn v (clock + 1) v := d
  rw [ey] at b d
  obtain rfl := top b
  rcases pos c with rfl | ⟨_, hz⟩
  ·rw [ey] at d; omega
  ·exact (noway a hz).elim
 ·show up low v (clock + 1) v ≤ up inn v (clock + 1) v
  rw [ey, up_same]; exact Nat.le_refl _
 ·have a : up inn v (clock + 1) v ≤ up inn v (clock + 1) x := a
  rw [ey] at a
  obtain ⟨j', hj', _⟩ := d (top a)
  exact absurd hj' (Nat.not_lt_zero _)
 ·show up low v (clock + 1) v = up inn v (clock + 1) v
  rw [ey, up_same]
 ·rw [ey]; omega
 ·have a : up inn v (clock + 1) v ≤ up inn v (clock + 1) x := a
  rw [ey] at a
  obtain rfl := top a
  exact .refl _
 ·rw [List.mem_singleton.1 ht] at hj; cases hj
 ·rcases h.t1 j hj with ⟨t', ht', _⟩ | h2
  ·cases ht'
  ·exact .inr h2
 ·rcases pos hx with ex | ⟨nx, hx'⟩
  ·rcases pos hz with ez | ⟨nz, hz'⟩
   ·rw [ex, ez]; exact .refl _
   ·rw [ex] at hj; exact (noway hj hz').elim
  ·rcases pos hz with ez | ⟨nz, hz'⟩
   ·rw [ez] at hj; exact (noway hj.symm hx').elim
   ·exact h.t3 j x z hj hx' hz'
theorem Inv.done (g : Gok l n bes) (h : Inv l n bes [] inn low clock br T) (hall : ∀ v, v < n → 0 < inn v) (k : Nat) : br k = true ↔ Bridge l k := by
 by_cases hk : T k
 ·rcases h.t1 k hk with ⟨t', ht', _⟩ | h2
  ·cases ht'
  ·exact h2
 ·rw [h.t2 k hk]
  refine ⟨fun e => (by cases e), fun ⟨a, b, hab, hno⟩ => ?_⟩
  obtain ⟨q1, q2, _⟩ := g.ends k a b hab
  refine absurd ((h.t3 k a b hab (hall a q1) (hall b q2)).mono fun x y ⟨j, hj, hi⟩ => ⟨j, fun e => hk (e ▸ hj), hi⟩) hno
theorem Inv.init (l : List Ed) (n : Nat) (bes : Nat → List Nat) : Inv l n bes [] (fun _ => 0) (fun _ => 0) 0 (fun _ => false) (fun _ => False) :=
 ⟨fun _ => Nat.le_refl _, fun x y h => absurd h (Nat.lt_irrefl _), fun x h => absurd h (Nat.lt_irrefl _), nofun, .nil, fun x h => absurd h (Nat.lt_irrefl _), nofun, nofun, trivial, trivial, nofun, nofun, fun _ _ => rfl, fun k x y _ h => absurd h (Nat.lt_irrefl _)⟩
end
end Go.Br
namespace Go.Br
open Go Go.Li
set_option linter.unusedVariables false
def Al (l : List Ed) (a b : Nat) : Prop := ∃ j, Inc l j a b
def Firm (l : List Ed) (a b : Nat) : Prop := ∃ j, ¬ Bridge l j ∧ Inc l j a b
def Wo (l : List Ed) (bs : List Nat) (a b : Nat) : Prop := ∃ j, j ∉ bs ∧ Inc l j a b
structure Ends (l : List Ed) (n : Nat) : Prop where
 ends : ∀ k x y, Inc l k x y → x < n ∧ y < n ∧ x ≠ y
section
variable {l : List Ed} {n : Nat} {p q : Nat → Nat} {bs : List Nat} {k u v a b : Nat}
theorem Inc.lt (h : Inc l k a b) : k < l.length := by
 obtain ⟨e, h1, _⟩ := h
 exact (List.getElem?_eq_some_iff.1 h1).1
theorem wo_cons (hk : k ∉ bs) (hi : Inc l k a b) {x y : Nat} : Con (Wo l bs) x y ↔ Con (plus (Wo l (k :: bs)) a b) x y := by
 constructor
 ·refine Con.lift fun x y ⟨j, hj, hxy⟩ => ?_
  by_cases e : j = k
  ·subst e
   rcases hi.ends hxy with ⟨rfl, rfl⟩ | ⟨rfl, rfl⟩
   ·exact .one (.inr ⟨rfl, rfl⟩)
   ·exact Con.symm (.one (.inr ⟨rfl, rfl⟩))
  ·exact .one (.inl ⟨j, by simp [e, hj], hxy⟩)
 ·refine Con.mono fun x y h => ?_
  rcases h with ⟨j, hj, hxy⟩ | ⟨rfl, rfl⟩
  ·exact ⟨j, fun e => hj (.tail _ e), hxy⟩
  ·exact ⟨k, hk, hi⟩
theorem wo_av (hk : k ∈ bs) : ∀ x y, Wo l bs x y → Av l k x y := fun x y ⟨j, hj, h⟩ => ⟨j, fun e => hj (e ▸ hk), h⟩
theorem Bridge.inc (h : Bridge l k) : ∃ a b, Inc l k a b ∧ ¬ Con (Av l k) a b := h
theorem cnt_wo (he : Ends l n) : ∀ {bs : List Nat} {p q : Nat → Nat}, bs.Nodup → (∀ k ∈ bs, Bridge l k) → Least (Wo l []) n p → Least (Wo l bs) n q → cnt n q = cnt n p + bs.length
 | [], p, q, _, _, hp, hq => by rw [hp.cnt hq]; rfl
 | k :: bs, p, q, hn, hb, hp, hq => by
  rw [List.nodup_cons] at hn
  obtain ⟨r, hr⟩ := least_exists (Wo l bs) n
  have ih := cnt_wo he hn.2 (fun k hk => hb k (.tail _ hk)) hp hr
  obtain ⟨a, b, hi, hno⟩ := hb k (.head _)
  obtain ⟨h1, h2, _⟩ := he.ends k a b hi
  obtain ⟨r', hr', hc⟩ := hq.plus_less h1 h2 fun h => hno (h.mono (wo_av (.head _)))
  have : cnt n r = cnt n r' := hr.cnt (hr'.congr fun x y _ _ => (wo_cons hn.1 hi).symm)
  rw [hc, ← this, ih, List.length_cons]
  omega
theorem wo_nil {x y : Nat} : Con (Wo l []) x y ↔ Con (Al l) x y := ⟨Con.mono fun a b ⟨j, _, h⟩ => ⟨j, h⟩, Con.mono fun a b ⟨j, h⟩ => ⟨j, by simp, h⟩⟩
theorem wo_firm (hb : ∀ k, k ∈ bs ↔ Bridge l k) {x y : Nat} : Con (Wo l bs) x y ↔ Con (Firm l) x y :=
 ⟨Con.mono fun a b ⟨j, hj, h⟩ => ⟨j, fun e => hj ((hb j).2 e), h⟩, Con.mono fun a b ⟨j, hj, h⟩ => ⟨j, fun e => hj ((hb j).1 e), h⟩⟩
theorem cnt_firm (he : Ends l n) (hn : bs.Nodup) (hb : ∀ k, k ∈ bs ↔ Bridge l k) (hp : Least (Al l) n p) (hq : Least (Firm l) n q) : cnt n q = cnt n p + bs.length :=
 cnt_wo he hn (fun k hk => (hb k).1 hk) (hp.congr fun x y _ _ => wo_nil.symm) (hq.congr fun x y _ _ => (wo_firm hb).symm)
theorem cnt_av (he : Ends l n) (hk : k < l.length) (hi : Inc l k a b) (hp : Least (Al l) n p) (hq : Least (Av l k) n q) : (Bridge l k → cnt n q = cnt n p + 1) ∧ (¬ Bridge l k → cnt n q = cnt n p) := by
 have hq' : Least (Wo l [k]) n q := hq.congr fun x y _ _ => ⟨Con.mono fun a b ⟨j, hj, h⟩ => ⟨j, by simpa using hj, h⟩, Con.mono fun a b ⟨j, hj, h⟩ => ⟨j, by simpa using hj, h⟩⟩
 have hp' : Least (Wo l []) n p := hp.congr fun x y _ _ => wo_nil.symm
 constructor
 ·intro h
  simpa using cnt_wo he (by simp) (fun j hj => by rw [List.mem_singleton.1 hj]; exact h) hp' hq'
 ·intro h
  have c : Con (Av l k) a b := Classical.byContradiction fun c => h ⟨a, b, hi, c⟩
  have c' : Con (Wo l [k]) a b := c.mono fun a b ⟨j, hj, h⟩ => ⟨j, by simpa using hj, h⟩
  exact (hq'.plus_same c').cnt (hp'.congr fun x y _ _ => wo_cons (by simp) hi)
theorem wo_down : ∀ {bs : List Nat}, bs.Nodup → (∀ k ∈ bs, Bridge l k) → Con (Wo l []) u v → (∀ k ∈ bs, Con (Av l k) u v) → Con (Wo l bs) u v
 | [], _, _, h, _ => h
 | k :: bs, hn, hb, h, hk => by
  rw [List.nodup_cons] at hn
  have ih := wo_down hn.2 (fun k hk => hb k (.tail _ hk)) h fun j hj => hk j (.tail _ hj)
  obtain ⟨a, b, hi, hno⟩ := hb k (.head _)
  have up : ∀ {x y}, Con (Wo l (k :: bs)) x y → Con (Av l k) x y := fun h => h.mono (wo_av (.head _))
  have huv := hk k (.head _)
  rcases Con.plus.1 ((wo_cons hn.1 hi).1 ih) with h1 | ⟨h1, h2⟩ | ⟨h1, h2⟩
  ·exact h1
  ·exact absurd (((up h1).symm.trans huv).trans (up h2).symm) hno
  ·exact absurd (((up h2).trans huv.symm).trans (up h1)) hno
theorem firm_iff (hn : bs.Nodup) (hb : ∀ k, k ∈ bs ↔ Bridge l k) : Con (Firm l) u v ↔ Con (Al l) u v ∧ ∀ k, k < l.length → Con (Av l k) u v := by
 constructor
 ·intro h
  refine ⟨h.mono fun a b ⟨j, _, h⟩ => ⟨j, h⟩, fun k _ => h.lift fun x y ⟨j, hj, hxy⟩ => ?_⟩
  by_cases e : j = k
  ·subst e
   exact Classical.byContradiction fun c => hj ⟨x, y, hxy, c⟩
  ·exact .one ⟨j, e, hxy⟩
 ·rintro ⟨h1, h2⟩
  refine (wo_firm hb).1 (wo_down hn (fun k hk => (hb k).1 hk) (wo_nil.2 h1) fun k hk => h2 k ?_)
  obtain ⟨a, b, hi, _⟩ := (hb k).1 hk
  exact hi.lt
theorem inc_more {e : Ed} (he : e.u = (u : Nat)) (he' : e.v = (v : Nat)) {j x y : Nat} : Inc (l ++ [e]) j x y ↔ Inc l j x y ∨ (j = l.length ∧ ((x = u ∧ y = v) ∨ (x = v ∧ y = u))) := by
 constructor
 ·rintro ⟨z, h1, h2⟩
  rcases Nat.lt_or_ge j l.length with h | h
  ·rw [List.getElem?_append_left h] at h1
   exact .inl ⟨z, h1, h2⟩
  ·rw [List.getElem?_append_right h] at h1
   have hj : j = l.length := by
    have := (List.getElem?_eq_some_iff.1 h1).1
    simp at this; omega
   subst hj
   simp at h1
   subst h1
   exact .inr ⟨rfl, by omega⟩
 ·rintro (h | ⟨rfl, h⟩)
  ·obtain ⟨z, h1, h2⟩ := h
   exact ⟨z, by rw [List.getElem?_append_left (List.getElem?_eq_some_iff.1 h1).1]; exact h1, h2⟩
  ·exact ⟨e, by simp, by omega⟩
theorem all_more {e : Ed} (he : e.u = (u : Nat)) (he' : e.v = (v : Nat)) {x y : Nat} : Con (Al (l ++ [e])) x y ↔ Con (plus (Al l) u v) x y := by
 constructor
 ·refine Con.lift fun x y ⟨j, h⟩ => ?_
  rcases (inc_more he he').1 h with h | ⟨_, ⟨rfl, rfl⟩ | ⟨rfl, rfl⟩⟩
  ·exact .one (.inl ⟨j, h⟩)
  ·exact .one (.inr ⟨rfl, rfl⟩)
  ·exact Con.symm (.one (.inr ⟨rfl, rfl⟩))
 ·refine Con.mono fun x y h => ?_
  rcases h with ⟨j, h⟩ | ⟨rfl, rfl⟩
  ·exact ⟨j, (inc_more he he').2 (.inl h)⟩
  ·exact ⟨l.length, (inc_more he he').2 (.inr ⟨rfl, .inl ⟨rfl, rfl⟩⟩)⟩
theorem av_more {e : Ed} (he : e.u = (u : Nat)) (he' : e.v = (v : Nat)) (hk : k ≠ l.length) {x y : Nat} : Con (Av (l ++ [e]) k) x y ↔ Con (plus (Av l k) u v) x y := by
 constructor
 ·refine Con.lift fun x y ⟨j, hj, h⟩ => ?_
  rcases (inc_more he he').1 h with h | ⟨_, ⟨rfl, rfl⟩ | ⟨rfl, rfl⟩⟩
  ·exact .one (.inl ⟨j, hj, h⟩)
  ·exact .one (.inr ⟨rfl, rfl⟩)
  ·exact Con.symm (.one (.inr ⟨rfl, rfl⟩))
 ·refine Con.mono fun x y h => ?_
  rcases h with ⟨j, hj, h⟩ | ⟨rfl, rfl⟩
  ·exact ⟨j, hj, (inc_more he he').2 (.inl h)⟩
  ·exact ⟨l.length, fun e => hk e.symm, (inc_more he he').2 (.inr ⟨rfl, .inl ⟨rfl, rfl⟩⟩)⟩
theorem bridge_more {e : Ed} (he : e.u = (u : Nat)) (he' : e.v = (v : Nat)) (huv : Con (Al l) u v) : Bridge (l ++ [e]) k ↔ Bridge l k ∧ Con (Av l k) u v := by
 have av_al : ∀ {x y}, Con (Al l) x y → ∀ {a b}, Inc l k a b → Con (plus (Av l k) a b) x y := fun h a b hi => h.lift fun x y ⟨j, hj⟩ => by
  by_cases ej : j = k
  ·subst ej
   rcases hi.ends hj with ⟨rfl, rfl⟩ | ⟨rfl, rfl⟩
   ·exact .one (.inr ⟨rfl, rfl⟩)
   ·exact Con.symm (.one (.inr ⟨rfl, rfl⟩))
  ·exact .one (.inl ⟨j, ej, hj⟩)
 constructor
 ·rintro ⟨a, b, hi, hno⟩
  rcases (inc_more he he').1 hi with hi | ⟨rfl, hc⟩
  ·have hk : k ≠ l.length := by have := hi.lt; omega
   rw [av_more he he' hk] at hno
   have hno' : ¬ Con (Av l k) a b := fun h => hno (Con.plus.2 (.inl h))
   refine ⟨⟨a, b, hi, hno'⟩, ?_⟩
   rcases Con.plus.1 (av_al huv hi) with h1 | ⟨h1, h2⟩ | ⟨h1, h2⟩
   ·exact h1
   ·exact absurd (Con.plus.2 (.inr (.inl ⟨h1.symm, h2.symm⟩))) hno
   ·exact absurd (Con.plus.2 (.inr (.inr ⟨h2, h1⟩))) hno
  ·have m : Con (Av (l ++ [e]) l.length) u v := huv.mono fun x y ⟨j, hj⟩ => ⟨j, by have := hj.lt; omega, (inc_more he he').2 (.inl hj)⟩
   rcases hc with ⟨rfl, rfl⟩ | ⟨rfl, rfl⟩
   ·exact absurd m hno
   ·exact absurd m.symm hno
 ·rintro ⟨⟨a, b, hi, hno⟩, h2⟩
  have hk : k ≠ l.length := by have := hi.lt; omega
  refine ⟨a, b, (inc_more he he').2 (.inl hi), fun h => ?_⟩
  rw [av_more he he' hk] at h
  rcases Con.plus.1 h with h1 | ⟨h1, h3⟩ | ⟨h1, h3⟩
  ·exact hno h1
  ·exact hno ((h1.trans h2).trans h3)
  ·exact hno ((h1.trans h2.symm).trans h3)
end
end Go.Br
namespace Go.Hp
open Go
section
variable {α : Type} {C : α → List Value} {k : Nat} {H : Heap} {B : Option Nat} {v : Value} {xs : List α}
theorem SR.set1 {g n c : Nat} (hC : ∀ x, (C x).length = k) (h : SR C k H (some g) (.slice (some ⟨g, 0, none⟩) n c) xs) {i j : Nat} {x y : α} {u : Value} (hi : xs[i]? = some x) (hj : j < k) (hy : C y = (C x).set j u) :
  okW H ⟨g, i * k + j, none⟩ ∧ SR C k (hset H ⟨g, i * k + j, none⟩ u) (some g) (.slice (some ⟨g, 0, none⟩) n c) (xs.set i y) := by
 obtain ⟨h0, h | ⟨g', c', rest, h1, h2, h3, h4, h5⟩⟩ := h
 ·cases h.1
 ·obtain rfl := Option.some.inj h1
  simp only [Value.slice.injEq] at h2
  obtain ⟨_, rfl, rfl⟩ := h2
  have hlt := (List.getElem?_eq_some_iff.1 hi).1
  have hb : i * k + j < (xs.flatMap C).length := by
   rw [srf_len hC]
   have : (i + 1) * k ≤ xs.length * k := Nat.mul_le_mul_right _ hlt
   rw [Nat.add_mul, Nat.one_mul] at this
   omega
  have e : (xs.set i y).flatMap C = (xs.flatMap C).set (i * k + j) u := by
   rw [List.flatMap_def, List.flatMap_def, Li.flat_set (rows := xs.map C) (k := k) (fun r hr => by obtain ⟨a, _, rfl⟩ := List.mem_map.1 hr; exact hC a) (r := C x) u (by rw [List.getElem?_map, hi]; rfl) hj, ← hy, List.map_set]
  refine ⟨h3.okW (by rw [List.length_append]; omega), ?_, .inr ⟨g, c, rest, rfl, ?_, ?_, ?_, ?_⟩⟩
  ·rw [e, List.length_set, List.length_set]; exact h0
  ·rw [List.length_set]
  ·have := h3.set_same (i * k + j) u
   rwa [List.set_append_left _ _ hb, ← e] at this
  ·rw [e, List.length_append, List.length_set, ← List.length_append]; exact h4
  ·rw [List.length_set]; exact h5
theorem SR.pop (hC : ∀ x, (C x).length = k) {x : α} (h : SR C k H B v (xs ++ [x])) : ∃ g c, B = some g ∧ v = .slice (some ⟨g, 0, none⟩) (xs.length + 1) c ∧ xs.length + 1 ≤ c ∧ SR C k H (some g) (.slice (some ⟨g, 0, none⟩) xs.length c) xs := by
 obtain ⟨h0, h | ⟨g, c, rest, h1, h2, h3, h4, h5⟩⟩ := h
 ·have := h.2.2; simp at this
 ·simp only [List.length_append, List.length_cons, List.length_nil] at h2 h4 h5
  have hl := srf_len hC xs
  refine ⟨g, c, h1, h2, h5, hl, .inr ⟨g, c, C x ++ rest, rfl, rfl, ?_, ?_, by omega⟩⟩
  ·rw [List.flatMap_append, List.append_assoc] at h3
   simpa using h3
  ·rw [List.flatMap_append] at h4
   simp at h4 ⊢
   omega
end
end Go.Hp
namespace Go.Br
open Go Go.Hp Go.Li
def vr {α : Type} (n : Nat) (f : Nat → α) : List α := (List.range n).map f
section
variable {α : Type} {n i : Nat} {f f' : Nat → α}
theorem vr_len : (vr n f).length = n := by simp [vr]
theorem vr_get (hi : i < n) : (vr n f)[i]? = some (f i) := by simp [vr, hi]
theorem vr_congr (h : ∀ i, i < n → f' i = f i) : vr n f' = vr n f := List.map_congr_left fun i hi => h i (List.mem_range.1 hi)
theorem vr_set (x : α) : (vr n f).set i x = vr n (up f i x) := by
 apply List.ext_getElem?
 intro k
 rw [List.getElem?_set]
 by_cases hk : i = k
 ·subst hk
  by_cases hi : i < n
  ·simp [vr, hi, up]
  ·simp [vr, hi]
 ·rw [if_neg hk]
  by_cases hkn : k < n
  ·simp [vr, hkn, up, Ne.symm hk]
  ·simp [vr, hkn]
end
def nI (f : Nat → Nat) : Nat → Int := fun v => (f v : Int)
theorem nI_up (f : Nat → Nat) (i x : Nat) : up (nI f) i ((x : Nat) : Int) = nI (up f i x) := by
 funext j
 by_cases h : j = i
 ·simp [up, nI, h]
 ·simp [up, nI, h]
def natsL (xs : List Nat) : List Int := xs.map Int.ofNat
theorem natsL_get {xs : List Nat} {i k : Nat} (h : xs[i]? = some k) : (natsL xs)[i]? = some ((k : Nat) : Int) := by simp [natsL, h]
def byI : Option Nat → Int
 | none => -1
 | some k => (k : Int)
def stC (s : St) : List Value := [.int .i64 (s.v : Nat), .int .i64 (byI s.b), .int .i64 (s.next : Nat)]
theorem stC_len (s : St) : (stC s).length = 3 := rfl
theorem stC_plain (s : St) : ∀ u ∈ stC s, plainVal u = true := by
 intro u hu
 simp only [stC, List.mem_cons, List.not_mem_nil, or_false] at hu
 rcases hu with rfl | rfl | rfl <;> rfl
theorem edC_len (x : Ed) : (Ed.cells x).length = 4 := rfl
theorem edC_plain (x : Ed) : ∀ u ∈ Ed.cells x, plainVal u = true := by
 intro u hu
 simp only [Ed.cells, List.mem_cons, List.not_mem_nil, or_false] at hu
 rcases hu with rfl | rfl | rfl | rfl <;> rfl
structure SeAt (H : Heap) (s gi gw gr : Nat) (vl vb : Value) (Bl : Option Nat) (TB : Nat → Prop) (col : Nat → Nat) (l : List Ed) (n : Nat) (bes : Nat → List Nat) (inn low : Nat → Nat) (c : Nat) (br : Nat → Bool) : Prop where
 hd : Blk H s [vl, vb, .slice (some ⟨gi, 0, none⟩) n n, .slice (some ⟨gw, 0, none⟩) n n, .int .i64 (c : Nat), .slice (some ⟨gr, 0, none⟩) l.length l.length]
 ed : SR Ed.cells 4 H Bl vl l
 be : LL (Value.int .i64) H TB vb (vr n fun v => natsL (bes v))
 fi : IR H (some gi) (.slice (some ⟨gi, 0, none⟩) n n) (vr n (nI inn))
 fw : IR H (some gw) (.slice (some ⟨gw, 0, none⟩) n n) (vr n (nI low))
 fr : BR H (some gr) (.slice (some ⟨gr, 0, none⟩) l.length l.length) (vr l.length br)
 cs : col s = 1
 ci : col gi = 2
 cw : col gw = 3
 cr : col gr = 4
 cl : ∀ b, Bl = some b → col b = 5
 cb : ∀ b, TB b → col b = 6
 co : ∀ b, col b ≠ 0 → b < H.size
section
variable {H H' : Heap} {s gi gw gr : Nat} {vl vb : Value} {Bl : Option Nat} {TB : Nat → Prop} {col : Nat → Nat} {l : List Ed} {n : Nat} {bes : Nat → List Nat} {inn low : Nat → Nat} {c : Nat} {br : Nat → Bool}
theorem SeAt.frame {T0 : Nat → Prop} (h : SeAt H s gi gw gr vl vb Bl TB col l n bes inn low c br) (hf : Fr T0 H H') (hT : ∀ b, col b ≠ 0 → ¬ T0 b) : SeAt H' s gi gw gr vl vb Bl TB col l n bes inn low c br :=
 ⟨h.hd.frame hf (hT _ (by rw [h.cs]; decide)), h.ed.frame hf fun b hb => hT _ (by rw [h.cl b hb]; decide), h.be.frame hf fun b hb => hT _ (by rw [h.cb b hb]; decide),
  h.fi.frame hf fun b hb => hT _ (by rw [← Option.some.inj hb, h.ci]; decide), h.fw.frame hf fun b hb => hT _ (by rw [← Option.some.inj hb, h.cw]; decide), h.fr.frame hf fun b hb => hT _ (by rw [← Option.some.inj hb, h.cr]; decide), h.cs, h.ci, h.cw, h.cr, h.cl, h.cb, fun b hb => Nat.lt_of_lt_of_le (h.co b hb) hf.size⟩
theorem SeAt.lt (h : SeAt H s gi gw gr vl vb Bl TB col l n bes inn low c br) : s < H.size ∧ gi < H.size ∧ gw < H.size ∧ gr < H.size := ⟨h.hd.lt, h.fi.lt rfl, h.fw.lt rfl, h.fr.lt rfl⟩
theorem SeAt.setC (h : SeAt H s gi gw gr vl vb Bl TB col l n bes inn low c br) (c' : Nat) : okW H ⟨s, 4, none⟩ ∧ SeAt (hset H ⟨s, 4, none⟩ (.int .i64 (c' : Nat))) s gi gw gr vl vb Bl TB col l n bes inn low c' br ∧ Fr (fun b => col b = 1) H (hset H ⟨s, 4, none⟩ (.int .i64 (c' : Nat))) := by
 have hf : Fr (· = s) H (hset H ⟨s, 4, none⟩ (.int .i64 (c' : Nat))) := Fr.set (S := (· = s)) (Fr.refl _ _) (.inl rfl) _
 have ne : ∀ b, col b ≠ 1 → ¬ b = s := fun b hb e => hb (by rw [e]; exact h.cs)
 exact ⟨h.hd.okW (by simp), ⟨h.hd.set_same 4 _, h.ed.frame hf fun b hb => ne b (by rw [h.cl b hb]; decide), h.be.frame hf fun b hb => ne b (by rw [h.cb b hb]; decide),
  h.fi.frame hf fun b hb => ne b (by rw [← Option.some.inj hb, h.ci]; decide), h.fw.frame hf fun b hb => ne b (by rw [← Option.some.inj hb, h.cw]; decide), h.fr.frame hf fun b hb => ne b (by rw [← Option.some.inj hb, h.cr]; decide), h.cs, h.ci, h.cw, h.cr, h.cl, h.cb, fun b hb => Nat.lt_of_lt_of_le (h.co b hb) hf.size⟩, hf.mono fun b _ e => by rw [e]; exact h.cs⟩
theorem SeAt.setI (h : SeAt H s gi gw gr vl vb Bl TB col l n bes inn low c br) {v : Nat} (hv : v < n) (x : Nat) : okW H ⟨gi, v, none⟩ ∧ SeAt (hset H ⟨gi, v, none⟩ (.int .i64 (x : Nat))) s gi gw gr vl vb Bl TB col l n bes (up inn v x) low c br ∧ Fr (fun b => col b = 2) H (hset H ⟨gi, v, none⟩ (.int .i64 (x : Nat))) := by
 obtain ⟨h1, h2⟩ := h.fi.write (i := v) (by rw [vr_len]; exact hv) ((x : Nat) : Int)
 rw [vr_set, nI_up] at h2
 have hf : Fr (· = gi) H (hset H ⟨gi, v, none⟩ (.int .i64 (x : Nat))) := Fr.set (S := (· = gi)) (Fr.refl _ _) (.inl rfl) _
 have ne : ∀ b, col b ≠ 2 → ¬ b = gi := fun b hb e => hb (by rw [e]; exact h.ci)
 exact ⟨h1, ⟨h.hd.frame hf (ne _ (by rw [h.cs]; decide)), h.ed.frame hf fun b hb => ne b (by rw [h.cl b hb]; decide), h.be.frame hf fun b hb => ne b (by rw [h.cb b hb]; decide),
  h2, h.fw.frame hf fun b hb => ne b (by rw [← Option.some.inj hb, h.cw]; decide), h.fr.frame hf fun b hb => ne b (by rw [← Option.some.inj hb, h.cr]; decide), h.cs, h.ci, h.cw, h.cr, h.cl, h.cb, fun b hb => Nat.lt_of_lt_of_le (h.co b hb) hf.size⟩, hf.mono fun b _ e => by rw [e]; exact h.ci⟩
theorem SeAt.setW (h : SeAt H s gi gw gr vl vb Bl TB col l n bes inn low c br) {v : Nat} (hv : v < n) (x : Nat) : okW H ⟨gw, v, none⟩ ∧ SeAt (hset H ⟨gw, v, none⟩ (.int .i64 (x : Nat))) s gi gw gr vl vb Bl TB col l n bes inn (up low v x) c br ∧ Fr (fun b => col b = 3) H (hset H ⟨gw, v, none⟩ (.int .i64 (x : Nat))) := by
 obtain ⟨h1, h2⟩ := h.fw.write (i := v) (by rw [vr_len]; exact hv) ((x : Nat) : Int)
 rw [vr_set, nI_up] at h2
 have hf : Fr (· = gw) H (hset H ⟨gw, v, none⟩ (.int .i64 (x : Nat))) := Fr.set (S := (· = gw)) (Fr.refl _ _) (.inl rfl) _
 have ne : ∀ b, col b ≠ 3 → ¬ b = gw := fun b hb e => hb (by rw [e]; exact h.cw)
 exact ⟨h1, ⟨h.hd.frame hf (ne _ (by rw [h.cs]; decide)), h.ed.frame hf fun b hb => ne b (by rw [h.cl b hb]; decide), h.be.frame hf fun b hb => ne b (by rw [h.cb b hb]; decide),
  h.fi.frame hf fun b hb => ne b (by rw [← Option.some.inj hb, h.ci]; decide), h2, h.fr.frame hf fun b hb => ne b (by rw [← Option.some.inj hb, h.cr]; decide), h.cs, h.ci, h.cw, h.cr, h.cl, h.cb, fun b hb => Nat.lt_of_lt_of_le (h.co b hb) hf.size⟩, hf.mono fun b _ e => by rw [e]; exact h.cw⟩
theorem SeAt.setR (h : SeAt H s gi gw gr vl vb Bl TB col l n bes inn low c br) {k : Nat} (hk : k < l.length) (x : Bool) : okW H ⟨gr, k, none⟩ ∧ SeAt (hset H ⟨gr, k, none⟩ (.bool x)) s gi gw gr vl vb Bl TB col l n bes inn low c (up br k x) ∧ Fr (fun b => col b = 4) H (hset H ⟨gr, k, none⟩ (.bool x)) := by
 obtain ⟨h1, h2⟩ := h.fr.write (i := k) (by rw [vr_len]; exact hk) x
 rw [vr_set] at h2
 have hf : Fr (· = gr) H (hset H ⟨gr, k, none⟩ (.bool x)) := Fr.set (S := (· = gr)) (Fr.refl _ _) (.inl rfl) _
 have ne : ∀ b, col b ≠ 4 → ¬ b = gr := fun b hb e => hb (by rw [e]; exact h.cr)
 exact ⟨h1, ⟨h.hd.frame hf (ne _ (by rw [h.cs]; decide)), h.ed.frame hf fun b hb => ne b (by rw [h.cl b hb]; decide), h.be.frame hf fun b hb => ne b (by rw [h.cb b hb]; decide),
  h.fi.frame hf fun b hb => ne b (by rw [← Option.some.inj hb, h.ci]; decide), h.fw.frame hf fun b hb => ne b (by rw [← Option.some.inj hb, h.cw]; decide), h2, h.cs, h.ci, h.cw, h.cr, h.cl, h.cb, fun b hb => Nat.lt_of_lt_of_le (h.co b hb) hf.size⟩, hf.mono fun b _ e => by rw [e]; exact h.cr⟩
theorem SeAt.ic (h : SeAt H s gi gw gr vl vb Bl TB col l n bes inn low c br) {v : Nat} (hv : v < n) : hcell H ⟨gi, v, none⟩ = some (.int .i64 (inn v : Nat)) := h.fi.cell (vr_get hv)
theorem SeAt.wc (h : SeAt H s gi gw gr vl vb Bl TB col l n bes inn low c br) {v : Nat} (hv : v < n) : hcell H ⟨gw, v, none⟩ = some (.int .i64 (low v : Nat)) := h.fw.cell (vr_get hv)
theorem SeAt.rc (h : SeAt H s gi gw gr vl vb Bl TB col l n bes inn low c br) {k : Nat} (hk : k < l.length) : hcell H ⟨gr, k, none⟩ = some (.bool (br k)) := h.fr.cell (vr_get hk)
theorem SeAt.bc (h : SeAt H s gi gw gr vl vb Bl TB col l n bes inn low c br) {v : Nat} (hv : v < n) : ∃ g cc a ca, vb = .slice (some ⟨g, 0, none⟩) n cc ∧ hcell H ⟨g, v, none⟩ = some (.slice a (bes v).length ca) ∧ (∀ i k, (bes v)[i]? = some k → ∃ b, a = some ⟨b, 0, none⟩ ∧ hcell H ⟨b, i, none⟩ = some (.int .i64 (k : Nat))) ∧ TB g := by
 obtain ⟨g, cc, B, w, h1, h2, h3, h4, _⟩ := h.be.at (vr_get (f := fun v => natsL (bes v)) hv)
 rw [vr_len] at h1
 obtain ⟨a, ca, rfl⟩ := h3.slice
 have hlen : (natsL (bes v)).length = (bes v).length := by simp [natsL]
 refine ⟨g, cc, a, ca, h1, by rw [← hlen]; exact h2, fun i k hk => ?_, h4⟩
 obtain ⟨b, c', rfl, hb, hc⟩ := IR.read (H := H) (B := B) (v := .slice a (natsL (bes v)).length ca) (xs := natsL (bes v)) h3 (natsL_get hk)
 simp only [Value.slice.injEq] at hb
 exact ⟨b, hb.1, hc⟩
end
end Go.Br
namespace Go.Proofs.Ytpeaogldojepnaa
open Go Go.Hp Go.Li Go.Br
set_option linter.all false
set_option maxRecDepth 100000
set_option maxHeartbeats 1600000
section
variable {H H' : Heap} {s gi gw gr : Nat} {vl vb : Value} {Bl : Option Nat} {TB : Nat → Prop} {col : Nat → Nat} {l : List Ed} {n : Nat} {bes : Nat → List Nat} {inn low : Nat → Nat} {c : Nat} {br : Nat → Bool} {L : Value → Heap → Prop}
theorem store3 {H : Heap} {b : Nat} {x0 x1 x2 : Value} (hb : Blk H b [x0, x1, x2]) (v0 v1 v2 : Value) :
  Blk (hset (hset (hset H ⟨b, 0, none⟩ v0) ⟨b, 1, none⟩ v1) ⟨b, 2, none⟩ v2) b [v0, v1, v2] ∧ Fr (· = b) H (hset (hset (hset H ⟨b, 0, none⟩ v0) ⟨b, 1, none⟩ v1) ⟨b, 2, none⟩ v2) :=
 ⟨((hb.set_same 0 _).set_same 1 _).set_same 2 _, Fr.set (S := (· = b)) (a := ⟨b, 2, none⟩) (Fr.set (S := (· = b)) (a := ⟨b, 1, none⟩) (Fr.set (S := (· = b)) (a := ⟨b, 0, none⟩) (Fr.refl _ _) (.inl rfl) _) (.inl rfl) _) (.inl rfl) _⟩
def Wr (col : Nat → Nat) (b : Nat) : Prop := col b = 1 ∨ col b = 2 ∨ col b = 3 ∨ col b = 4
theorem enter_ok {v : Nat} {w : Int} (h : SeAt H s gi gw gr vl vb Bl TB col l n bes inn low c br) (hv : v < n) (hc : c ≤ 1000)
  (fin : ∀ H', SeAt H' s gi gw gr vl vb Bl TB col l n bes (up inn v (c + 1)) (up low v (c + 1)) (c + 1) br → Fr (Wr col) H H' → L (.agg #[.int .i64 (v : Nat), .int .i64 w, .int .i64 0]) H') :
  CallsH Try.prog 35 #[.pointer (some ⟨s, 0, none⟩), .int .i64 (v : Nat), .int .i64 w] H L := by
 have hlt := h.lt
 have ew : IntKind.i64.wrap ((c : Int) + 1) = ((c + 1 : Nat) : Int) := by rw [wrap_i64] <;> omega
 have f0 : Fr (fun _ => False) H (H.push (.cells #[.int .i64 0, .int .i64 0, .int .i64 0] 73)) := (Fr.refl _ _).push _
 have b0 := Blk.new H [.int .i64 0, .int .i64 0, .int .i64 0] 73
 have h1 := h.frame f0 fun _ _ h => h
 refine call35 (by simp) ?_
 simp only [Try.f35, Option.getD_some]
 repeat' (first|(with_reducible first|refine jA ?_|(refine hK _ _ ?_;clear hK K)|refine jJ fun K hK=>?_|refine jK ?_|refine jL ?_|refine jM ?_|refine jN ?_|refine jO ?_|refine jP ?_|refine jQ ?_|(refine jB ?_;clear hK K)|(refine jC ?_;clear hK K)|refine jD ?_|refine jE ?_|refine jG ?_|refine jH ?_|refine jI ?_)|((with_reducible refine jR ?hq ?_);case hq=>rfl)|((first|(with_reducible first|refine jS fun K hK=>?_|refine jT ?_|refine jU ?_)|((with_reducible refine jV ?hy fun K hK=>?_);case hy=>rfl));simp only [go_sem, Nat.reduceEqDiff, Nat.reduceAdd, Nat.reduceMul, Nat.reduceLeDiff, Nat.reduceLT, Int.reduceLT, Int.reduceLE, Int.reduceEq, Int.reduceNeg, Int.reduceToNat, Nat.reducePow, reduceIte, reduceCtorEq])|((with_reducible first|refine jW ?hy ?_|refine jY ?hy ?_);case hy=>rfl)|((with_reducible first|refine jX ?hy ?_|refine jZ ?hy ?_);case hy=>rfl)|((with_reducible refine jF ?hy ?_);case hy=>decide))
 generalize hH1 : H.push _ = H1 at b0 f0 h1 ⊢
 have c4 := h1.hd.cellOf (i := 4) rfl
 obtain ⟨w4, h2, f2⟩ := h1.setC (c + 1)
 simp only [go_sem, Nat.reduceEqDiff, Nat.reduceAdd, Nat.reduceMul, Nat.reduceLeDiff, Nat.reduceLT, Int.reduceLT, Int.reduceLE, Int.reduceEq, Int.reduceNeg, Int.reduceToNat, Nat.reducePow, reduceIte, reduceCtorEq, c4]
 repeat' (first|(with_reducible first|refine jA ?_|(refine hK _ _ ?_;clear hK K)|refine jJ fun K hK=>?_|refine jK ?_|refine jL ?_|refine jM ?_|refine jN ?_|refine jO ?_|refine jP ?_|refine jQ ?_|(refine jB ?_;clear hK K)|(refine jC ?_;clear hK K)|refine jD ?_|refine jE ?_|refine jG ?_|refine jH ?_|refine jI ?_)|((with_reducible refine jR ?hq ?_);case hq=>rfl)|((first|(with_reducible first|refine jS fun K hK=>?_|refine jT ?_|refine jU ?_)|((with_reducible refine jV ?hy fun K hK=>?_);case hy=>rfl));simp only [go_sem, Nat.reduceEqDiff, Nat.reduceAdd, Nat.reduceMul, Nat.reduceLeDiff, Nat.reduceLT, Int.reduceLT, Int.reduceLE, Int.reduceEq, Int.reduceNeg, Int.reduceToNat, Nat.reducePow, reduceIte, reduceCtorEq, ew, w4])|((with_reducible first|refine jW ?hy ?_|refine jY ?hy ?_);case hy=>rfl)|((with_reducible first|refine jX ?hy ?_|refine jZ ?hy ?_);case hy=>rfl)|((with_reducible refine jF ?hy ?_);case hy=>decide))
 generalize hH2 : hset H1 _ _ = H2 at h2 f2 ⊢
 have c2 := h2.hd.cellOf (i := 2) rfl
 have c3 := h2.hd.cellOf (i := 3) rfl
 have c4 := h2.hd.cellOf (i := 4) rfl
 obtain ⟨wi, h3, f3⟩ := h2.setI hv (c + 1)
 have t0 : (v < n) = True := eq_true hv
 simp only [go_sem, Nat.reduceEqDiff, Nat.reduceAdd, Nat.reduceMul, Nat.reduceLeDiff, Nat.reduceLT, Int.reduceLT, Int.reduceLE, Int.reduceEq, Int.reduceNeg, Int.reduceToNat, Nat.reducePow, reduceIte, reduceCtorEq, c2]
 repeat' (first|(with_reducible first|refine jA ?_|(refine hK _ _ ?_;clear hK K)|refine jJ fun K hK=>?_|refine jK ?_|refine jL ?_|refine jM ?_|refine jN ?_|refine jO ?_|refine jP ?_|refine jQ ?_|(refine jB ?_;clear hK K)|(refine jC ?_;clear hK K)|refine jD ?_|refine jE ?_|refine jG ?_|refine jH ?_|refine jI ?_)|((with_reducible refine jR ?hq ?_);case hq=>rfl)|((first|(with_reducible first|refine jS fun K hK=>?_|refine jT ?_|refine jU ?_)|((with_reducible refine jV ?hy fun K hK=>?_);case hy=>rfl));simp only [go_sem, Nat.reduceEqDiff, Nat.reduceAdd, Nat.reduceMul, Nat.reduceLeDiff, Nat.reduceLT, Int.reduceLT, Int.reduceLE, Int.reduceEq, Int.reduceNeg, Int.reduceToNat, Nat.reducePow, reduceIte, reduceCtorEq, c2, c3, c4, t0, wi])|((with_reducible first|refine jW ?hy ?_|refine jY ?hy ?_);case hy=>rfl)|((with_reducible first|refine jX ?hy ?_|refine jZ ?hy ?_);case hy=>rfl)|((with_reducible refine jF ?hy ?_);case hy=>decide))
 generalize hH3 : hset H2 _ _ = H3 at h3 f3 ⊢
 obtain ⟨ww, h4, f4⟩ := h3.setW hv (c + 1)
 refine ⟨ww, ?_⟩
 generalize hH4 : hset H3 _ _ = H4 at h4 f4 ⊢
 have f14 : Fr (Wr col) H1 H4 := ((f2.mono fun b _ h => .inl h).trans (f3.mono fun b _ h => .inr (.inl h))).trans (f4.mono fun b _ h => .inr (.inr (.inl h)))
 have c0 : col H.size = 0 := Decidable.byContradiction fun e => Nat.lt_irrefl _ (h.co _ e)
 have nW : ¬ Wr col H.size := by unfold Wr; rw [c0]; decide
 have b4 := b0.frame f14 nW
 have w0 := b4.okW (i := 0) (by simp)
 have w1 := b4.okW (i := 1) (by simp)
 have w2 := b4.okW (i := 2) (by simp)
 repeat' (first|(with_reducible first|refine jA ?_|(refine hK _ _ ?_;clear hK K)|refine jJ fun K hK=>?_|refine jK ?_|refine jL ?_|refine jM ?_|refine jN ?_|refine jO ?_|refine jP ?_|refine jQ ?_|(refine jB ?_;clear hK K)|(refine jC ?_;clear hK K)|refine jD ?_|refine jE ?_|refine jG ?_|refine jH ?_|refine jI ?_)|((with_reducible refine jR ?hq ?_);case hq=>rfl)|((first|(with_reducible first|refine jS fun K hK=>?_|refine jT ?_|refine jU ?_)|((with_reducible refine jV ?hy fun K hK=>?_);case hy=>rfl));simp only [go_sem, Nat.reduceEqDiff, Nat.reduceAdd, Nat.reduceMul, Nat.reduceLeDiff, Nat.reduceLT, Int.reduceLT, Int.reduceLE, Int.reduceEq, Int.reduceNeg, Int.reduceToNat, Nat.reducePow, reduceIte, reduceCtorEq, w0, w1, w2, okW_hset, hcell_push, hcell_top, okW_push, okW_top, hcell_hset_ne, hcell_hset_off, hcell_hset_eq, okW_hset, hset_size, Array.size_push, Nat.lt_add_one, ne_add_one, add_one_ne, Nat.add_assoc, add_same, add_lt_same, Nat.reduceEqDiff, lt_add_k, add_k_ne, ne_add_k])|((with_reducible first|refine jW ?hy ?_|refine jY ?hy ?_);case hy=>rfl)|((with_reducible first|refine jX ?hy ?_|refine jZ ?hy ?_);case hy=>rfl)|((with_reducible refine jF ?hy ?_);case hy=>decide))
 have b5 := ((b4.set_same 0 (.int .i64 (v : Nat))).set_same 1 (.int .i64 w)).set_same 2 (.int .i64 0)
 have f5 : Fr (· = H.size) H4 (hset (hset (hset H4 ⟨H.size, 0, none⟩ (.int .i64 (v : Nat))) ⟨H.size, 1, none⟩ (.int .i64 w)) ⟨H.size, 2, none⟩ (.int .i64 0)) :=
  Fr.set (S := (· = H.size)) (a := ⟨H.size, 2, none⟩) (Fr.set (S := (· = H.size)) (a := ⟨H.size, 1, none⟩) (Fr.set (S := (· = H.size)) (a := ⟨H.size, 0, none⟩) (Fr.refl _ _) (.inl rfl) _) (.inl rfl) _) (.inl rfl) _
 generalize hset _ _ _ = H5 at b5 f5 ⊢
 refine fin _ (h4.frame f5 fun b hb e => hb (by rw [e]; exact c0)) ?_
 exact ((f0.mono fun _ _ h => h.elim).trans f14).trans' f5 fun b hb e => by omega
end
end Go.Proofs.Ytpeaogldojepnaa
namespace Go.Br
open Go Go.Hp Go.Li
def und (n : Nat) (inn : Nat → Nat) : Nat := ((List.range n).filter fun v => decide (inn v = 0)).length
theorem und_up {n : Nat} {inn : Nat → Nat} {y c : Nat} (hy : y < n) (h0 : inn y = 0) (hc : 0 < c) : und n (up inn y c) + 1 = und n inn := by
 unfold und
 rw [filter_less List.nodup_range (fun v => decide (inn v = 0)) (M := y) (List.mem_range.2 hy) (by simp [h0])]
 congr 2
 refine List.filter_congr fun v _ => ?_
 by_cases e : v = y
 ·subst e; rw [up_same]; simp; omega
 ·rw [up_ne _ _ e]; simp [e]
theorem srt_len {inn : Nat → Nat} : ∀ {st : List St}, st.Pairwise (fun s t => inn t.v < inn s.v) → (∀ s ∈ st, 0 < inn s.v) → ∀ s r, st = s :: r → r.length < inn s.v
 | [], _, _, s, r, e => by cases e
 | a :: st, hp, h0, s, r, e => by
  obtain ⟨rfl, rfl⟩ := List.cons.inj e
  rw [List.pairwise_cons] at hp
  cases st with
  | nil => exact h0 a (.head _)
  | cons b st =>
   have ih := srt_len hp.2 (fun s hs => h0 s (.tail _ hs)) b st rfl
   have := hp.1 b (.head _)
   simp only [List.length_cons]
   omega
theorem Inv.len {l : List Ed} {n : Nat} {bes : Nat → List Nat} {s : St} {r : List St} {inn low : Nat → Nat} {c : Nat} {br : Nat → Bool} {T : Nat → Prop} (h : Inv l n bes (s :: r) inn low c br T) : r.length < c + 1 := by
 have h1 := srt_len h.srt h.sd s r rfl
 have := h.cl s.v
 omega
end Go.Br
namespace Go.Proofs.Ytpeaogldojepnaa
open Go Go.Hp Go.Li Go.Br
set_option linter.all false
set_option maxRecDepth 100000
set_option maxHeartbeats 3200000
section
variable {H H' : Heap} {s gi gw gr : Nat} {vl vb : Value} {Bl : Option Nat} {TB : Nat → Prop} {col : Nat → Nat} {l : List Ed} {n : Nat} {bes : Nat → List Nat} {inn low : Nat → Nat} {c : Nat} {br : Nat → Bool} {T : Nat → Prop} {L : Value → Heap → Prop}
theorem walk_ok {v : Nat} (g : Gok l n bes) (hn : n ≤ 64) (hll : l.length ≤ 192) (hdg : ∀ v, v < n → (bes v).length ≤ 100000) (h : SeAt H s gi gw gr vl vb Bl TB col l n bes inn low c br) (hI : Inv l n bes [] inn low c br T) (hv : v < n) (hv0 : inn v = 0) (hc : c + und n inn ≤ 900)
  (fin : ∀ H' inn' low' c' br' T', SeAt H' s gi gw gr vl vb Bl TB col l n bes inn' low' c' br' → Inv l n bes [] inn' low' c' br' T' → (∀ x, 0 < inn x → 0 < inn' x) → 0 < inn' v → c' + und n inn' ≤ 900 → Fr (Wr col) H H' → L (.tuple #[]) H') :
  CallsH Try.prog 24 #[.pointer (some ⟨s, 0, none⟩), .int .i64 (v : Nat)] H L := by
 have hu := und_up (c := c + 1) hv hv0 (by omega)
 refine call24 (by simp) ?_
 simp only [Try.f24, Option.getD_some]
 repeat' (first|(with_reducible first|refine jA ?_|(refine hK _ _ ?_;clear hK K)|refine jJ fun K hK=>?_|refine jK ?_|refine jL ?_|refine jM ?_|refine jN ?_|refine jO ?_|refine jP ?_|refine jQ ?_|(refine jB ?_;clear hK K)|(refine jC ?_;clear hK K)|refine jD ?_|refine jE ?_|refine jG ?_|refine jH ?_|refine jI ?_)|((with_reducible refine jR ?hq ?_);case hq=>rfl)|((first|(with_reducible first|refine jS fun K hK=>?_|refine jT ?_|refine jU ?_)|((with_reducible refine jV ?hy fun K hK=>?_);case hy=>rfl));simp only [go_sem, Nat.reduceEqDiff, Nat.reduceAdd, Nat.reduceMul, Nat.reduceLeDiff, Nat.reduceLT, Int.reduceLT, Int.reduceLE, Int.reduceEq, Int.reduceNeg, Int.reduceToNat, Nat.reducePow, reduceIte, reduceCtorEq])|((with_reducible first|refine jW ?hy ?_|refine jY ?hy ?_);case hy=>rfl)|((with_reducible first|refine jX ?hy ?_|refine jZ ?hy ?_);case hy=>rfl)|((with_reducible refine jF ?hy ?_);case hy=>decide))
 refine enter_ok h hv (by omega) fun H1 h1 f1 => ?_
 have hI1 := hI.start g hv0 hv
 repeat' (first|(with_reducible first|refine jA ?_|(refine hK _ _ ?_;clear hK K)|refine jJ fun K hK=>?_|refine jK ?_|refine jL ?_|refine jM ?_|refine jN ?_|refine jO ?_|refine jP ?_|refine jQ ?_|(refine jB ?_;clear hK K)|(refine jC ?_;clear hK K)|refine jD ?_|refine jE ?_|refine jG ?_|refine jH ?_|refine jI ?_)|((with_reducible refine jR ?hq ?_);case hq=>rfl)|((first|(with_reducible first|refine jS fun K hK=>?_|refine jT ?_|refine jU ?_)|((with_reducible refine jV ?hy fun K hK=>?_);case hy=>rfl));simp only [go_sem, Nat.reduceEqDiff, Nat.reduceAdd, Nat.reduceMul, Nat.reduceLeDiff, Nat.reduceLT, Int.reduceLT, Int.reduceLE, Int.reduceEq, Int.reduceNeg, Int.reduceToNat, Nat.reducePow, reduceIte, reduceCtorEq])|((with_reducible first|refine jW ?hy ?_|refine jY ?hy ?_);case hy=>rfl)|((with_reducible first|refine jX ?hy ?_|refine jZ ?hy ?_);case hy=>rfl)|((with_reducible refine jF ?hy ?_);case hy=>decide))
 generalize hH2 : H1.push _ = H2
 have f12 : Fr (fun _ => False) H1 H2 := by rw [← hH2]; exact (Fr.refl _ _).push _
 have b2 : Blk H2 H1.size (stC ⟨v, none, 0⟩) := by rw [← hH2]; exact Blk.new H1 (stC ⟨v, none, 0⟩) _
 have s2 : H2.size = H1.size + 1 := by rw [← hH2]; simp
 clear hH2
 have h2 := h1.frame f12 fun _ _ h => h
 have hs2 : SR stC 3 H2 (some H1.size) (.slice (some ⟨H1.size, 0, none⟩) 1 1) ([(⟨v, none, 0⟩ : St)].reverse) := ⟨rfl, .inr ⟨H1.size, 1, [], rfl, rfl, b2, rfl, Nat.le_refl _⟩⟩
 have c1 : col H1.size = 0 := Decidable.byContradiction fun e => Nat.lt_irrefl _ (h1.co _ e)
 refine x_loop (fun m e' H' => ∃ (st : List St) (inn' low' : Nat → Nat) (c' : Nat) (br' : Nat → Bool) (T' : Nat → Prop) (Bs : Option Nat) (vs : Value), e' 4 = vs ∧ SR stC 3 H' Bs vs st.reverse ∧ SeAt H' s gi gw gr vl vb Bl TB col l n bes inn' low' c' br' ∧ Inv l n bes st inn' low' c' br' T' ∧
   (∀ b, Bs = some b → col b = 0 ∧ H.size ≤ b) ∧ Fr (Wr col) H H' ∧ (∀ x, 0 < inn x → 0 < inn' x) ∧ 0 < inn' v ∧ c' + und n inn' ≤ 900 ∧ m = 2 * und n inn' + st.length) (2 * und n (up inn v (c + 1)) + 1)
  ⟨[⟨v, none, 0⟩], _, _, _, _, _, _, _, rfl, hs2, h2, hI1, fun b hb => by obtain rfl := Option.some.inj hb; exact ⟨c1, f1.size⟩, f1.trans (f12.mono fun _ _ h => h.elim), fun x hx => by
   by_cases e : x = v
   ·rw [e, up_same]; omega
   ·rw [up_ne _ _ e]; exact hx, by rw [up_same]; omega, by omega, rfl⟩ ?_
 rintro m e1 H3 ⟨st, inn3, low3, c3, br3, T3, Bs, vs, i4, hs3, h3, hI3, hB3, f3, hm3, hv3, hc3, hm⟩ hoff
 have i0 : e1 0 = .pointer (some ⟨s, 0, none⟩) := (hoff 0 rfl).trans rfl
 clear hoff h1 h2 hs2 b2 hI1 hI
 cases st with
 | nil =>
  obtain ⟨a, ca, rfl⟩ := hs3.slice
  have t1 : ((0 : Int) < 0) = False := by simp
  repeat' (first|(with_reducible first|refine jA ?_|(refine hK _ _ ?_;clear hK K)|refine jJ fun K hK=>?_|refine jK ?_|refine jL ?_|refine jM ?_|refine jN ?_|refine jO ?_|refine jP ?_|refine jQ ?_|(refine jB ?_;clear hK K)|(refine jC ?_;clear hK K)|refine jD ?_|refine jE ?_|refine jG ?_|refine jH ?_|refine jI ?_)|((with_reducible refine jR ?hq ?_);case hq=>rfl)|((first|(with_reducible first|refine jS fun K hK=>?_|refine jT ?_|refine jU ?_)|((with_reducible refine jV ?hy fun K hK=>?_);case hy=>rfl));simp only [go_sem, Nat.reduceEqDiff, Nat.reduceAdd, Nat.reduceMul, Nat.reduceLeDiff, Nat.reduceLT, Int.reduceLT, Int.reduceLE, Int.reduceEq, Int.reduceNeg, Int.reduceToNat, Nat.reducePow, reduceIte, reduceCtorEq, i4, t1])|((with_reducible first|refine jW ?hy ?_|refine jY ?hy ?_);case hy=>rfl)|((with_reducible first|refine jX ?hy ?_|refine jZ ?hy ?_);case hy=>rfl)|((with_reducible refine jF ?hy ?_);case hy=>decide))
  exact fin _ _ _ _ _ _ h3 hI3 hm3 hv3 hc3 f3
 | cons x r =>
  have hlen := hI3.len
  rw [List.reverse_cons] at hs3
  obtain ⟨gs, cs, rfl, rfl, hcs, _⟩ := hs3.pop stC_len
  simp only [List.length_reverse] at hcs i4 hs3
  obtain ⟨cgs, hgs⟩ := hB3 gs rfl
  have t1 : (0 < ((r.length + 1 : Nat) : Int)) = True := eq_true (by omega)
  have e1' : IntKind.i64.wrap (((r.length + 1 : Nat) : Int) - 1) = (r.length : Int) := by rw [wrap_i64] <;> omega
  have t2 : (r.length < r.length + 1) = True := eq_true (by omega)
  repeat' (first|(with_reducible first|refine jA ?_|(refine hK _ _ ?_;clear hK K)|refine jJ fun K hK=>?_|refine jK ?_|refine jL ?_|refine jM ?_|refine jN ?_|refine jO ?_|refine jP ?_|refine jQ ?_|(refine jB ?_;clear hK K)|(refine jC ?_;clear hK K)|refine jD ?_|refine jE ?_|refine jG ?_|refine jH ?_|refine jI ?_)|((with_reducible refine jR ?hq ?_);case hq=>rfl)|((first|(with_reducible first|refine jS fun K hK=>?_|refine jT ?_|refine jU ?_)|((with_reducible refine jV ?hy fun K hK=>?_);case hy=>rfl));simp only [go_sem, Nat.reduceEqDiff, Nat.reduceAdd, Nat.reduceMul, Nat.reduceLeDiff, Nat.reduceLT, Int.reduceLT, Int.reduceLE, Int.reduceEq, Int.reduceNeg, Int.reduceToNat, Nat.reducePow, reduceIte, reduceCtorEq, i4, t1, e1', t2])|((with_reducible first|refine jW ?hy ?_|refine jY ?hy ?_);case hy=>rfl)|((with_reducible first|refine jX ?hy ?_|refine jZ ?hy ?_);case hy=>rfl)|((with_reducible refine jF ?hy ?_);case hy=>decide))
  have xat : ∀ (H' : Heap) (x' : St), SR stC 3 H' (some gs) (.slice (some ⟨gs, 0, none⟩) (r.reverse ++ [x']).length cs) (r.reverse ++ [x']) → ∀ j u, (stC x')[j]? = some u → hcell H' ⟨gs, r.length * 3 + j, none⟩ = some u := fun H' x' hs j u hj => hs.cell stC_len (by rw [List.getElem?_append_right (by simp)]; simp) hj
  have nW : ∀ b, col b = 0 → ¬ Wr col b := fun b hb => by unfold Wr; rw [hb]; decide
  have hgs0 : ∀ b, col b ≠ 0 → ¬ b = gs := fun b hb e => hb (by rw [e]; exact cgs)
  have tail : ∀ (e' : Env) (H4 : Heap) (x' : St) (low4 : Nat → Nat), e' 0 = .pointer (some ⟨s, 0, none⟩) → e' 4 = .slice (some ⟨gs, 0, none⟩) (r.length + 1) cs → e' 5 = .pointer (some ⟨gs, r.length * 3, none⟩) →
    SR stC 3 H4 (some gs) (.slice (some ⟨gs, 0, none⟩) (r.length + 1) cs) (r.reverse ++ [x']) → SeAt H4 s gi gw gr vl vb Bl TB col l n bes inn3 low4 c3 br3 → Inv l n bes (x' :: r) inn3 low4 c3 br3 T3 → x'.next = (bes x'.v).length → Fr (Wr col) H H4 → K e' H4 := by
   intro e' H4 x' low4 j0 j4 j5 hs4 h4 hI4 hnx f4
   refine hK _ _ ?_
   clear hK K
   have hxat := xat H4 x' (by simpa using hs4)
   have d0 := hxat 0 _ rfl
   have d1 := hxat 1 _ rfl
   have d2 := hxat 2 _ rfl
   rw [Nat.add_zero] at d0
   repeat' (first|(with_reducible first|refine jA ?_|(refine hK _ _ ?_;clear hK K)|refine jJ fun K hK=>?_|refine jK ?_|refine jL ?_|refine jM ?_|refine jN ?_|refine jO ?_|refine jP ?_|refine jQ ?_|(refine jB ?_;clear hK K)|(refine jC ?_;clear hK K)|refine jD ?_|refine jE ?_|refine jG ?_|refine jH ?_|refine jI ?_)|((with_reducible refine jR ?hq ?_);case hq=>rfl)|((first|(with_reducible first|refine jS fun K hK=>?_|refine jT ?_|refine jU ?_)|((with_reducible refine jV ?hy fun K hK=>?_);case hy=>rfl));simp only [go_sem, Nat.reduceEqDiff, Nat.reduceAdd, Nat.reduceMul, Nat.reduceLeDiff, Nat.reduceLT, Int.reduceLT, Int.reduceLE, Int.reduceEq, Int.reduceNeg, Int.reduceToNat, Nat.reducePow, reduceIte, reduceCtorEq, j5, d0, d1, d2, hcell_push, hcell_top, okW_push, okW_top, hcell_hset_ne, hcell_hset_off, hcell_hset_eq, okW_hset, hset_size, Array.size_push, Nat.lt_add_one, ne_add_one, add_one_ne, Nat.add_assoc, add_same, add_lt_same, Nat.reduceEqDiff, lt_add_k, add_k_ne, ne_add_k])|((with_reducible first|refine jW ?hy ?_|refine jY ?hy ?_);case hy=>rfl)|((with_reducible first|refine jX ?hy ?_|refine jZ ?hy ?_);case hy=>rfl)|((with_reducible refine jF ?hy ?_);case hy=>decide))
   obtain ⟨b5, f5⟩ := store3 (Blk.new H4 [.int .i64 0, .int .i64 0, .int .i64 0] 73) (.int .i64 (x'.v : Nat)) (.int .i64 (byI x'.b)) (.int .i64 (x'.next : Nat))
   have f45 : Fr (fun _ => False) H4 _ := (show Fr (fun _ => False) H4 (H4.push (.cells #[.int .i64 0, .int .i64 0, .int .i64 0] 73)) from (Fr.refl _ _).push _).trans' f5 fun b hb e => by have : b = H4.size := e; omega
   generalize hset _ _ _ = H5 at b5 f45 ⊢
   clear f5
   have h5 := h4.frame f45 fun _ _ h => h
   obtain ⟨g', c', q1, q2, _, hs5⟩ := (hs4.frame f45 fun _ _ h => h).pop stC_len
   simp only [List.length_reverse] at q2 hs5
   simp only [Value.slice.injEq] at q2
   obtain ⟨q2, _, rfl⟩ := q2
   obtain rfl := Option.some.inj q1
   have t3 : (r.length ≤ cs) = True := eq_true (by omega)
   have f5' : Fr (Wr col) H H5 := f4.trans (f45.mono fun _ _ h => h.elim)
   simp only [j4]
   rcases (show r = [] ∨ ∃ t r', r = t :: r' by cases r with | nil => exact .inl rfl | cons t r' => exact .inr ⟨t, r', rfl⟩) with hr | ⟨t, r', hr⟩
   ·have t4 : ((r.length : Int) == 0) = true := by simp [hr]
    rw [hr] at hI4
    repeat' (first|(with_reducible first|refine jA ?_|(refine hK _ _ ?_;clear hK K)|refine jJ fun K hK=>?_|refine jK ?_|refine jL ?_|refine jM ?_|refine jN ?_|refine jO ?_|refine jP ?_|refine jQ ?_|(refine jB ?_;clear hK K)|(refine jC ?_;clear hK K)|refine jD ?_|refine jE ?_|refine jG ?_|refine jH ?_|refine jI ?_)|((with_reducible refine jR ?hq ?_);case hq=>rfl)|((first|(with_reducible first|refine jS fun K hK=>?_|refine jT ?_|refine jU ?_)|((with_reducible refine jV ?hy fun K hK=>?_);case hy=>rfl));simp only [go_sem, Nat.reduceEqDiff, Nat.reduceAdd, Nat.reduceMul, Nat.reduceLeDiff, Nat.reduceLT, Int.reduceLT, Int.reduceLE, Int.reduceEq, Int.reduceNeg, Int.reduceToNat, Nat.reducePow, reduceIte, reduceCtorEq, j4, t3, e1', t4, Nat.sub_zero, ite_self])|((with_reducible first|refine jW ?hy ?_|refine jY ?hy ?_);case hy=>rfl)|((with_reducible first|refine jX ?hy ?_|refine jZ ?hy ?_);case hy=>rfl)|((with_reducible refine jF ?hy ?_);case hy=>decide))
    exact fin _ _ _ _ _ _ h5 (hI4.last g hnx) hm3 hv3 hc3 f5'
   ·have hlr : r.length = r'.length + 1 := by simp [hr]
    have t4 : ((r.length : Int) == 0) = false := beq_false_of_ne (by omega)
    have hI5 := hI4
    rw [hr] at hI5
    obtain ⟨⟨k, hb, hink⟩, _⟩ := hI5.link
    have htn : t.v < n := hI5.lt _ (hI5.sd t (.tail _ (.head _)))
    have hxn : x'.v < n := hI5.lt _ (hI5.sd x' (.head _))
    have hkl : k < l.length := hink.lt
    have e2' : IntKind.i64.wrap ((r.length : Int) - 1) = (r'.length : Int) := by rw [wrap_i64] <;> omega
    have t5 : (r'.length < r.length) = True := eq_true (by omega)
    have hta : hcell H5 ⟨gs, r'.length * 3, none⟩ = some (.int .i64 (t.v : Nat)) := by
     have := hs5.cell (j := 0) stC_len (i := r'.length) (x := t) (by rw [hr, List.reverse_cons, List.getElem?_append_right (by simp)]; simp) rfl
     rwa [Nat.add_zero] at this
    have c3' := h5.hd.cellOf (i := 3) rfl
    have wt := h5.wc htn
    have wx := h5.wc hxn
    have z0 := b5.cellOf (i := 0) rfl
    have z1 := b5.cellOf (i := 1) rfl
    have emin : (if ((low4 x'.v : Nat) : Int) < ((low4 t.v : Nat) : Int) then ((low4 x'.v : Nat) : Int) else ((low4 t.v : Nat) : Int)) = ((min (low4 t.v) (low4 x'.v) : Nat) : Int) := by
     split <;> omega
    have emin' : (if low4 x'.v < low4 t.v then ((low4 x'.v : Nat) : Int) else ((low4 t.v : Nat) : Int)) = ((min (low4 t.v) (low4 x'.v) : Nat) : Int) := by
     split <;> omega
    obtain ⟨ww, h6, f6⟩ := h5.setW htn (min (low4 t.v) (low4 x'.v))
    have t6 : (t.v < n) = True := eq_true htn
    have t7 : (x'.v < n) = True := eq_true hxn
    repeat' (first|(with_reducible first|refine jA ?_|(refine hK _ _ ?_;clear hK K)|refine jJ fun K hK=>?_|refine jK ?_|refine jL ?_|refine jM ?_|refine jN ?_|refine jO ?_|refine jP ?_|refine jQ ?_|(refine jB ?_;clear hK K)|(refine jC ?_;clear hK K)|refine jD ?_|refine jE ?_|refine jG ?_|refine jH ?_|refine jI ?_)|((with_reducible refine jR ?hq ?_);case hq=>rfl)|((first|(with_reducible first|refine jS fun K hK=>?_|refine jT ?_|refine jU ?_)|((with_reducible refine jV ?hy fun K hK=>?_);case hy=>rfl));simp only [go_sem, Nat.reduceEqDiff, Nat.reduceAdd, Nat.reduceMul, Nat.reduceLeDiff, Nat.reduceLT, Int.reduceLT, Int.reduceLE, Int.reduceEq, Int.reduceNeg, Int.reduceToNat, Nat.reducePow, reduceIte, reduceCtorEq, j0, j4, t3, e1', t4, e2', t5, hta, c3', wt, wx, z0, z1, t6, t7, emin, emin', ww, Nat.sub_zero, ite_self])|((with_reducible first|refine jW ?hy ?_|refine jY ?hy ?_);case hy=>rfl)|((with_reducible first|refine jX ?hy ?_|refine jZ ?hy ?_);case hy=>rfl)|((with_reducible refine jF ?hy ?_);case hy=>decide))
    generalize hset H5 _ _ = H6 at h6 f6 ⊢
    have nW5 : ¬ col H4.size = 3 := fun e => by have := h4.co H4.size (by rw [e]; decide); omega
    have b6 := b5.frame f6 nW5
    have hs6 := hs5.frame f6 fun b hb e => by rw [← Option.some.inj hb, cgs] at e; cases e
    have c5 := h6.hd.cellOf (i := 5) rfl
    have c3' := h6.hd.cellOf (i := 3) rfl
    have c2' := h6.hd.cellOf (i := 2) rfl
    have z0 := b6.cellOf (i := 0) rfl
    have z1 := b6.cellOf (i := 1) rfl
    rw [hb] at z1
    simp only [byI] at z1
    have nxt : x'.v ≠ t.v := fun e => (hI5.apart t (.head _)) e.symm
    have wx := h6.wc hxn
    rw [up_ne _ _ nxt] at wx
    have it := h6.ic htn
    have t8 : (k < l.length) = True := eq_true hkl
    obtain ⟨wr, h7, f7⟩ := h6.setR hkl (decide (inn3 t.v < low4 x'.v))
    have tz : ((inn3 t.v : Int) < (low4 x'.v : Int)) = (inn3 t.v < low4 x'.v) := by simp
    have hI7 := hI5.pop g hnx hb
    simp only [go_sem, Nat.reduceEqDiff, Nat.reduceAdd, Nat.reduceMul, Nat.reduceLeDiff, Nat.reduceLT, Int.reduceLT, Int.reduceLE, Int.reduceEq, Int.reduceNeg, Int.reduceToNat, Nat.reducePow, reduceIte, reduceCtorEq, c5]
    repeat' (first|(with_reducible first|refine jA ?_|(refine hK _ _ ?_;clear hK K)|refine jJ fun K hK=>?_|refine jK ?_|refine jL ?_|refine jM ?_|refine jN ?_|refine jO ?_|refine jP ?_|refine jQ ?_|(refine jB ?_;clear hK K)|(refine jC ?_;clear hK K)|refine jD ?_|refine jE ?_|refine jG ?_|refine jH ?_|refine jI ?_)|((with_reducible refine jR ?hq ?_);case hq=>rfl)|((first|(with_reducible first|refine jS fun K hK=>?_|refine jT ?_|refine jU ?_)|((with_reducible refine jV ?hy fun K hK=>?_);case hy=>rfl));simp only [go_sem, Nat.reduceEqDiff, Nat.reduceAdd, Nat.reduceMul, Nat.reduceLeDiff, Nat.reduceLT, Int.reduceLT, Int.reduceLE, Int.reduceEq, Int.reduceNeg, Int.reduceToNat, Nat.reducePow, reduceIte, reduceCtorEq, j0, c5, c3', c2', z0, z1, t6, t7, t8, wx, it, tz, wr])|((with_reducible first|refine jW ?hy ?_|refine jY ?hy ?_);case hy=>rfl)|((with_reducible first|refine jX ?hy ?_|refine jZ ?hy ?_);case hy=>rfl)|((with_reducible refine jF ?hy ?_);case hy=>decide))
    generalize hset H6 _ _ = H7 at h7 f7 ⊢
    have hs7 := hs6.frame f7 fun b hb e => by rw [← Option.some.inj hb, cgs] at e; cases e
    refine loop_normal (m' := 2 * und n inn3 + (t :: r').length) (by simp [hm]; omega) ⟨t :: r', inn3, _, c3, _, T3, some gs, .slice (some ⟨gs, 0, none⟩) r.length cs, rfl, ?_, h7, hI7, hB3, ?_, hm3, hv3, hc3, rfl⟩
    ·rw [← hr]; exact hs7
    ·exact (f5'.trans (f6.mono fun b _ h => .inr (.inr (.inl h)))).trans (f7.mono fun b _ h => .inr (.inr (.inr h)))
  refine x_loop (fun m' e' H' => ∃ (x' : St) (low4 : Nat → Nat), e' 4 = .slice (some ⟨gs, 0, none⟩) (r.length + 1) cs ∧ x'.v = x.v ∧ x'.b = x.b ∧ SR stC 3 H' (some gs) (.slice (some ⟨gs, 0, none⟩) (r.length + 1) cs) (r.reverse ++ [x']) ∧ SeAt H' s gi gw gr vl vb Bl TB col l n bes inn3 low4 c3 br3 ∧ Inv l n bes (x' :: r) inn3 low4 c3 br3 T3 ∧
    Fr (Wr col) H H' ∧ m' = (bes x.v).length - x'.next) ((bes x.v).length - x.next) ⟨x, low3, i4, rfl, rfl, by simpa using hs3, h3, hI3, f3, rfl⟩ ?_
  rintro m' e2 H4 ⟨x', low4, j4, hxv, hxb, hs4, h4, hI4, f4, hm'⟩ hoff
  have j0 : e2 0 = .pointer (some ⟨s, 0, none⟩) := (hoff 0 rfl).trans i0
  have j5 : e2 5 = .pointer (some ⟨gs, r.length * 3, none⟩) := (hoff 5 rfl).trans rfl
  clear hoff
  have hxat := xat H4 x' (by simpa using hs4)
  have d0 := hxat 0 _ rfl
  have d1 := hxat 1 _ rfl
  have d2 := hxat 2 _ rfl
  rw [Nat.add_zero] at d0
  have hxn : x'.v < n := hI4.lt _ (hI4.sd x' (.head _))
  have t6 : (x'.v < n) = True := eq_true hxn
  obtain ⟨gB, cB, aI, cI, hvb, hcB, hcI, hTB⟩ := h4.bc hxn
  have e1c := h4.hd.cellOf (i := 1) rfl
  rw [hvb] at e1c
  by_cases hnx : x'.next < (bes x'.v).length
  ·have t7 : (x'.next < (bes x'.v).length) = True := eq_true hnx
   obtain ⟨k, hk⟩ : ∃ k, (bes x'.v)[x'.next]? = some k := ⟨_, List.getElem?_eq_getElem hnx⟩
   obtain ⟨bI, rfl, hkc⟩ := hcI _ _ hk
   obtain ⟨y, hky⟩ := (g.bes x'.v k).1 (List.mem_of_getElem? hk)
   obtain ⟨_, hyn, hne⟩ := g.ends k _ _ hky
   have hkl : k < l.length := hky.lt
   have hdeg : (bes x'.v).length ≤ 100000 := hdg x'.v hxn
   have ewn : IntKind.i64.wrap ((x'.next : Int) + 1) = ((x'.next + 1 : Nat) : Int) := by rw [wrap_i64] <;> omega
   obtain ⟨wn, hs5⟩ := hs4.set1 (j := 2) stC_len (i := r.length) (x := x') (y := { x' with next := x'.next + 1 }) (u := .int .i64 ((x'.next + 1 : Nat) : Int)) (by rw [List.getElem?_append_right (by simp)]; simp) (by decide) rfl
   have f45 : Fr (· = gs) H4 (hset H4 ⟨gs, r.length * 3 + 2, none⟩ (.int .i64 ((x'.next + 1 : Nat) : Int))) := Fr.set (S := (· = gs)) (Fr.refl _ _) (.inl rfl) _
   repeat' (first|(with_reducible first|refine jA ?_|(refine hK _ _ ?_;clear hK K)|refine jJ fun K hK=>?_|refine jK ?_|refine jL ?_|refine jM ?_|refine jN ?_|refine jO ?_|refine jP ?_|refine jQ ?_|(refine jB ?_;clear hK K)|(refine jC ?_;clear hK K)|refine jD ?_|refine jE ?_|refine jG ?_|refine jH ?_|refine jI ?_)|((with_reducible refine jR ?hq ?_);case hq=>rfl)|((first|(with_reducible first|refine jS fun K hK=>?_|refine jT ?_|refine jU ?_)|((with_reducible refine jV ?hy fun K hK=>?_);case hy=>rfl));simp only [go_sem, Nat.reduceEqDiff, Nat.reduceAdd, Nat.reduceMul, Nat.reduceLeDiff, Nat.reduceLT, Int.reduceLT, Int.reduceLE, Int.reduceEq, Int.reduceNeg, Int.reduceToNat, Nat.reducePow, reduceIte, reduceCtorEq, j0, j5, d0, d1, d2, t6, e1c, hcB, t7, hkc, ewn, wn])|((with_reducible first|refine jW ?hy ?_|refine jY ?hy ?_);case hy=>rfl)|((with_reducible first|refine jX ?hy ?_|refine jZ ?hy ?_);case hy=>rfl)|((with_reducible refine jF ?hy ?_);case hy=>decide))
   generalize hset H4 _ _ = H5 at hs5 f45 ⊢
   have es : (r.reverse ++ [x']).set r.length { x' with next := x'.next + 1 } = r.reverse ++ [{ x' with next := x'.next + 1 }] := by
    rw [List.set_append_right _ _ (by simp)]; simp
   rw [es] at hs5
   have h5 := h4.frame f45 fun b hb e => hb (by rw [e]; exact cgs)
   have f5 : Fr (Wr col) H H5 := f4.trans' f45 fun b hb e => by rw [e] at hb; omega
   have hxat := xat H5 { x' with next := x'.next + 1 } (by simpa using hs5)
   have d0 := hxat 0 _ rfl
   have d1 := hxat 1 _ rfl
   rw [Nat.add_zero] at d0
   simp only [] at d0 d1
   have hIx : ∀ {low' : Nat → Nat}, Inv l n bes ({ x' with next := x'.next + 1 } :: r) inn3 low' c3 br3 T3 → Inv l n bes ({ x' with next := x'.next + 1 } :: r) inn3 low' c3 br3 T3 := fun h => h
   have hms : (bes x.v).length - (x'.next + 1) < m' := by rw [hm', ← hxv]; omega
   by_cases hb : x'.b = some k
   ·have u1 : ((k : Int) == byI x'.b) = true := by rw [hb]; simp [byI]
    simp only [go_sem, Nat.reduceEqDiff, Nat.reduceAdd, Nat.reduceMul, Nat.reduceLeDiff, Nat.reduceLT, Int.reduceLT, Int.reduceLE, Int.reduceEq, Int.reduceNeg, Int.reduceToNat, Nat.reducePow, reduceIte, reduceCtorEq, d1]
    repeat' (first|(with_reducible first|refine jA ?_|(refine hK _ _ ?_;clear hK K)|refine jJ fun K hK=>?_|refine jK ?_|refine jL ?_|refine jM ?_|refine jN ?_|refine jO ?_|refine jP ?_|refine jQ ?_|(refine jB ?_;clear hK K)|(refine jC ?_;clear hK K)|refine jD ?_|refine jE ?_|refine jG ?_|refine jH ?_|refine jI ?_)|((with_reducible refine jR ?hq ?_);case hq=>rfl)|((first|(with_reducible first|refine jS fun K hK=>?_|refine jT ?_|refine jU ?_)|((with_reducible refine jV ?hy fun K hK=>?_);case hy=>rfl));simp only [go_sem, Nat.reduceEqDiff, Nat.reduceAdd, Nat.reduceMul, Nat.reduceLeDiff, Nat.reduceLT, Int.reduceLT, Int.reduceLE, Int.reduceEq, Int.reduceNeg, Int.reduceToNat, Nat.reducePow, reduceIte, reduceCtorEq, j5, u1])|((with_reducible first|refine jW ?hy ?_|refine jY ?hy ?_);case hy=>rfl)|((with_reducible first|refine jX ?hy ?_|refine jZ ?hy ?_);case hy=>rfl)|((with_reducible refine jF ?hy ?_);case hy=>decide))
    exact loop_normal hms ⟨{ x' with next := x'.next + 1 }, low4, j4, hxv, hxb, hs5, h5, hI4.skip g hk hb, f5, rfl⟩
   ·have u1 : ((k : Int) == byI x'.b) = false := by
     refine beq_false_of_ne fun e => hb ?_
     cases hx : x'.b with
     | none => rw [hx] at e; simp only [byI] at e; omega
     | some k' => rw [hx] at e; simp only [byI] at e; rw [Int.ofNat.inj e]
    obtain ⟨ed, hed, hends⟩ := hky
    obtain ⟨gl, cl', hBl, hvl, _, hce⟩ := h5.ed.at edC_len hed
    have e0c := h5.hd.cellOf (i := 0) rfl
    have e2c := h5.hd.cellOf (i := 2) rfl
    rw [hvl] at e0c
    have t8 : (k < l.length) = True := eq_true hkl
    have q1 := hce 1 _ rfl
    have q2 := hce 2 _ rfl
    have ewA : IntKind.i64.wrap (ed.u + ed.v) = ed.u + ed.v := by rw [wrap_i64] <;> omega
    have ewB : IntKind.i64.wrap (ed.u + ed.v - (x'.v : Int)) = (y : Int) := by rw [wrap_i64] <;> omega
    have hyc := h5.ic hyn
    have t9 : (y < n) = True := eq_true hyn
    by_cases hy0 : inn3 y = 0
    ·have u2 : (((inn3 y : Nat) : Int) == 0) = true := by rw [hy0]; rfl
     simp only [go_sem, Nat.reduceEqDiff, Nat.reduceAdd, Nat.reduceMul, Nat.reduceLeDiff, Nat.reduceLT, Int.reduceLT, Int.reduceLE, Int.reduceEq, Int.reduceNeg, Int.reduceToNat, Nat.reducePow, reduceIte, reduceCtorEq, d1]
     repeat' (first|(with_reducible first|refine jA ?_|(refine hK _ _ ?_;clear hK K)|refine jJ fun K hK=>?_|refine jK ?_|refine jL ?_|refine jM ?_|refine jN ?_|refine jO ?_|refine jP ?_|refine jQ ?_|(refine jB ?_;clear hK K)|(refine jC ?_;clear hK K)|refine jD ?_|refine jE ?_|refine jG ?_|refine jH ?_|refine jI ?_)|((with_reducible refine jR ?hq ?_);case hq=>rfl)|((first|(with_reducible first|refine jS fun K hK=>?_|refine jT ?_|refine jU ?_)|((with_reducible refine jV ?hy fun K hK=>?_);case hy=>rfl));simp only [go_sem, Nat.reduceEqDiff, Nat.reduceAdd, Nat.reduceMul, Nat.reduceLeDiff, Nat.reduceLT, Int.reduceLT, Int.reduceLE, Int.reduceEq, Int.reduceNeg, Int.reduceToNat, Nat.reducePow, reduceIte, reduceCtorEq, j0, j5, u1, e0c, e2c, t8, q1, q2, d0, ewA, ewB, hyc, t9, u2])|((with_reducible first|refine jW ?hy ?_|refine jY ?hy ?_);case hy=>rfl)|((with_reducible first|refine jX ?hy ?_|refine jZ ?hy ?_);case hy=>rfl)|((with_reducible refine jF ?hy ?_);case hy=>decide))
     have hcb : c3 + und n inn3 ≤ 900 := hc3
     refine enter_ok h5 hyn (by omega) fun H6 h6 f6 => ?_
     have hs6 := hs5.frame f6 fun b hb e => nW b (by rw [← Option.some.inj hb]; exact cgs) e
     have hund := und_up (c := c3 + 1) hyn hy0 (by omega)
     have hbs : 2 * ((r.reverse ++ [{ x' with next := x'.next + 1 }]).length + 1) * 24 ≤ 2 ^ 48 := by simp; omega
     repeat' (first|(with_reducible first|refine jA ?_|(refine hK _ _ ?_;clear hK K)|refine jJ fun K hK=>?_|refine jK ?_|refine jL ?_|refine jM ?_|refine jN ?_|refine jO ?_|refine jP ?_|refine jQ ?_|(refine jB ?_;clear hK K)|(refine jC ?_;clear hK K)|refine jD ?_|refine jE ?_|refine jG ?_|refine jH ?_|refine jI ?_)|((with_reducible refine jR ?hq ?_);case hq=>rfl)|((first|(with_reducible first|refine jS fun K hK=>?_|refine jT ?_|refine jU ?_)|((with_reducible refine jV ?hy fun K hK=>?_);case hy=>rfl));simp only [go_sem, Nat.reduceEqDiff, Nat.reduceAdd, Nat.reduceMul, Nat.reduceLeDiff, Nat.reduceLT, Int.reduceLT, Int.reduceLE, Int.reduceEq, Int.reduceNeg, Int.reduceToNat, Nat.reducePow, reduceIte, reduceCtorEq, j4])|((with_reducible first|refine jW ?hy ?_|refine jY ?hy ?_);case hy=>rfl)|((with_reducible first|refine jX ?hy ?_|refine jZ ?hy ?_);case hy=>rfl)|((with_reducible refine jF ?hy ?_);case hy=>decide))
     refine append_sr (x := (⟨y, some k, 0⟩ : St)) stC_len stC_plain elems75 tl73 hs6 rfl (by decide) hbs rfl ?_
     intro v' H7 B' hs7 f7 hB7
     have h7 := h6.frame f7 fun b hb e => hgs0 b hb (Option.some.inj e).symm
     clear tail
     repeat' (first|(with_reducible first|refine jA ?_|(refine hK _ _ ?_;clear hK K)|refine jJ fun K hK=>?_|refine jK ?_|refine jL ?_|refine jM ?_|refine jN ?_|refine jO ?_|refine jP ?_|refine jQ ?_|(refine jB ?_;clear hK K)|(refine jC ?_;clear hK K)|refine jD ?_|refine jE ?_|refine jG ?_|refine jH ?_|refine jI ?_)|((with_reducible refine jR ?hq ?_);case hq=>rfl)|((first|(with_reducible first|refine jS fun K hK=>?_|refine jT ?_|refine jU ?_)|((with_reducible refine jV ?hy fun K hK=>?_);case hy=>rfl));simp only [go_sem, Nat.reduceEqDiff, Nat.reduceAdd, Nat.reduceMul, Nat.reduceLeDiff, Nat.reduceLT, Int.reduceLT, Int.reduceLE, Int.reduceEq, Int.reduceNeg, Int.reduceToNat, Nat.reducePow, reduceIte, reduceCtorEq])|((with_reducible first|refine jW ?hy ?_|refine jY ?hy ?_);case hy=>rfl)|((with_reducible first|refine jX ?hy ?_|refine jZ ?hy ?_);case hy=>rfl)|((with_reducible refine jF ?hy ?_);case hy=>decide))
     refine loop_normal (m' := 2 * und n (up inn3 y (c3 + 1)) + (r.length + 2)) (by simp at hm; omega) ⟨⟨y, some k, 0⟩ :: { x' with next := x'.next + 1 } :: r, _, _, _, br3, _, B', v', rfl, ?_, h7, hI4.push g hk ⟨ed, hed, hends⟩ hy0, fun b hb => ?_, ?_, fun z hz => ?_, ?_, by omega, rfl⟩
     ·simpa using hs7
     ·rcases hB7 with e | ⟨gq, e1, e2⟩
      ·rw [e] at hb; exact hB3 b hb
      ·rw [e1] at hb
       obtain rfl := Option.some.inj hb
       have := f5.size; have := f6.size
       exact ⟨Decidable.byContradiction fun e => by have := h6.co _ e; omega, by omega⟩
     ·exact (f5.trans f6).trans' f7 fun b hb e => by
       have := (hB3 b e).2
       omega
     ·by_cases e : z = y
      ·rw [e, up_same]; omega
      ·rw [up_ne _ _ e]; exact hm3 z hz
     ·by_cases e : v = y
      ·rw [e, up_same]; omega
      ·rw [up_ne _ _ e]; exact hv3
    ·have u2 : (((inn3 y : Nat) : Int) == 0) = false := beq_false_of_ne (by omega)
     have hyp : 0 < inn3 y := by omega
     have e3c := h5.hd.cellOf (i := 3) rfl
     have wx := h5.wc hxn
     have emin : (if ((inn3 y : Nat) : Int) < ((low4 x'.v : Nat) : Int) then ((inn3 y : Nat) : Int) else ((low4 x'.v : Nat) : Int)) = ((min (low4 x'.v) (inn3 y) : Nat) : Int) := by
      split <;> omega
     have emin' : (if inn3 y < low4 x'.v then ((inn3 y : Nat) : Int) else ((low4 x'.v : Nat) : Int)) = ((min (low4 x'.v) (inn3 y) : Nat) : Int) := by
      split <;> omega
     obtain ⟨ww, h6, f6⟩ := h5.setW hxn (min (low4 x'.v) (inn3 y))
     simp only [go_sem, Nat.reduceEqDiff, Nat.reduceAdd, Nat.reduceMul, Nat.reduceLeDiff, Nat.reduceLT, Int.reduceLT, Int.reduceLE, Int.reduceEq, Int.reduceNeg, Int.reduceToNat, Nat.reducePow, reduceIte, reduceCtorEq, d1]
     repeat' (first|(with_reducible first|refine jA ?_|(refine hK _ _ ?_;clear hK K)|refine jJ fun K hK=>?_|refine jK ?_|refine jL ?_|refine jM ?_|refine jN ?_|refine jO ?_|refine jP ?_|refine jQ ?_|(refine jB ?_;clear hK K)|(refine jC ?_;clear hK K)|refine jD ?_|refine jE ?_|refine jG ?_|refine jH ?_|refine jI ?_)|((with_reducible refine jR ?hq ?_);case hq=>rfl)|((first|(with_reducible first|refine jS fun K hK=>?_|refine jT ?_|refine jU ?_)|((with_reducible refine jV ?hy fun K hK=>?_);case hy=>rfl));simp only [go_sem, Nat.reduceEqDiff, Nat.reduceAdd, Nat.reduceMul, Nat.reduceLeDiff, Nat.reduceLT, Int.reduceLT, Int.reduceLE, Int.reduceEq, Int.reduceNeg, Int.reduceToNat, Nat.reducePow, reduceIte, reduceCtorEq, j0, j5, u1, e0c, e2c, e3c, t6, t8, q1, q2, d0, ewA, ewB, hyc, t9, u2, wx, emin, emin', ww])|((with_reducible first|refine jW ?hy ?_|refine jY ?hy ?_);case hy=>rfl)|((with_reducible first|refine jX ?hy ?_|refine jZ ?hy ?_);case hy=>rfl)|((with_reducible refine jF ?hy ?_);case hy=>decide))
     generalize hset H5 _ _ = H6 at h6 f6 ⊢
     have hs6 := hs5.frame f6 fun b hb e => by rw [← Option.some.inj hb, cgs] at e; cases e
     exact loop_normal hms ⟨{ x' with next := x'.next + 1 }, _, j4, hxv, hxb, hs6, h6, hI4.back g hk hb ⟨ed, hed, hends⟩ hyp, f5.trans (f6.mono fun b _ h => .inr (.inr (.inl h))), rfl⟩
  ·have t7 : (x'.next < (bes x'.v).length) = False := eq_false hnx
   repeat' (first|(with_reducible first|refine jA ?_|(refine hK _ _ ?_;clear hK K)|refine jJ fun K hK=>?_|refine jK ?_|refine jL ?_|refine jM ?_|refine jN ?_|refine jO ?_|refine jP ?_|refine jQ ?_|(refine jB ?_;clear hK K)|(refine jC ?_;clear hK K)|refine jD ?_|refine jE ?_|refine jG ?_|refine jH ?_|refine jI ?_)|((with_reducible refine jR ?hq ?_);case hq=>rfl)|((first|(with_reducible first|refine jS fun K hK=>?_|refine jT ?_|refine jU ?_)|((with_reducible refine jV ?hy fun K hK=>?_);case hy=>rfl));simp only [go_sem, Nat.reduceEqDiff, Nat.reduceAdd, Nat.reduceMul, Nat.reduceLeDiff, Nat.reduceLT, Int.reduceLT, Int.reduceLE, Int.reduceEq, Int.reduceNeg, Int.reduceToNat, Nat.reducePow, reduceIte, reduceCtorEq, j0, j5, d0, d2, t6, e1c, hcB, t7])|((with_reducible first|refine jW ?hy ?_|refine jY ?hy ?_);case hy=>rfl)|((with_reducible first|refine jX ?hy ?_|refine jZ ?hy ?_);case hy=>rfl)|((with_reducible refine jF ?hy ?_);case hy=>decide))
   exact tail _ _ _ _ j0 j4 j5 hs4 h4 hI4 (Nat.le_antisymm (hI4.exp x' (.head _)).1 (by omega)) f4
end
end Go.Proofs.Ytpeaogldojepnaa
namespace Go.Br
open Go Go.Li
set_option linter.unusedVariables false
def Ok1 (l : List Ed) (n : Nat) (out : Nat → Int) : Prop := ∀ x, x < n → 0 ≤ out x → ∃ q : Nat, out x = q ∧ q < n ∧ Con (Firm l) x q ∧ ∀ w, w < n → Con (Firm l) x w → q ≤ w
def Cl1 (l : List Ed) (out : Nat → Int) : Prop := ∀ x y, (Firm l x y ∨ Firm l y x) → 0 ≤ out x → out y = out x
structure Fl (l : List Ed) (n : Nat) (bes : Nat → List Nat) (out0 : Nat → Int) (v : Nat) (out : Nat → Int) (st : List Nat) (cur : Option (Nat × Nat)) : Prop where
 m : ∀ x, out x = out0 x ∨ (out0 x < 0 ∧ out x = v ∧ Con (Firm l) v x)
 v0 : out0 v < 0 ∧ out v = v
 stk : ∀ x ∈ st, x < n ∧ out x = v ∧ out0 x < 0
 cu : ∀ u j, cur = some (u, j) → u < n ∧ out u = v ∧ out0 u < 0
 ex : ∀ x, out0 x < 0 → out x = v → x ∉ st → ∀ k y, Inc l k x y → ¬ Bridge l k → (∀ u j, cur = some (u, j) → x = u → ∃ i, i < j ∧ (bes u)[i]? = some k) → 0 ≤ out y
section
variable {l : List Ed} {n : Nat} {bes : Nat → List Nat} {out0 out : Nat → Int} {v u j k y : Nat} {st : List Nat} {cur : Option (Nat × Nat)}
theorem Fl.start (h0 : out0 v < 0) (hv : v < n) : Fl l n bes out0 v (up out0 v (v : Int)) [v] none where
 m x := by
  by_cases e : x = v
  ·subst e; rw [up_same]; exact .inr ⟨h0, rfl, .refl _⟩
  ·rw [up_ne _ _ e]; exact .inl rfl
 v0 := ⟨h0, up_same _ _ _⟩
 stk x hx := by obtain rfl := List.mem_singleton.1 hx; exact ⟨hv, up_same _ _ _, h0⟩
 cu u j h := by cases h
 ex x h1 h2 h3 := by
  have e : x ≠ v := fun e => h3 (by rw [e]; exact .head _)
  rw [up_ne _ _ e] at h2
  omega
theorem Fl.take (h : Fl l n bes out0 v out (u :: st) none) : Fl l n bes out0 v out st (some (u, 0)) where
 m := h.m
 v0 := h.v0
 stk x hx := h.stk x (.tail _ hx)
 cu u' j' e := by
  simp only [Option.some.injEq, Prod.mk.injEq] at e
  obtain ⟨rfl, rfl⟩ := e
  exact h.stk u (.head _)
 ex x h1 h2 h3 k y h4 h5 h6 := by
  by_cases e : x = u
  ·obtain ⟨i, hi, _⟩ := h6 u 0 rfl e
   exact absurd hi (Nat.not_lt_zero _)
  ·exact h.ex x h1 h2 (fun hm => (List.mem_cons.1 hm).elim e h3) k y h4 h5 fun _ _ h => by cases h
theorem Fl.next (g : Gok l n bes) (h : Fl l n bes out0 v out st (some (u, j))) (hk : (bes u)[j]? = some k) (hky : Inc l k u y) (hy : ¬ Bridge l k → 0 ≤ out y) : Fl l n bes out0 v out st (some (u, j + 1)) where
 m := h.m
 v0 := h.v0
 stk := h.stk
 cu u' j' e := by
  simp only [Option.some.injEq, Prod.mk.injEq] at e
  obtain ⟨rfl, rfl⟩ := e
  exact h.cu _ _ rfl
 ex x h1 h2 h3 k' z h4 h5 h6 := by
  by_cases e : x = u
  ·obtain ⟨i, hi, hb⟩ := h6 u (j + 1) rfl e
   rcases Nat.lt_succ_iff_lt_or_eq.1 hi with hi | rfl
   ·exact h.ex x h1 h2 h3 k' z h4 h5 fun u' j' e' _ => by
     simp only [Option.some.injEq, Prod.mk.injEq] at e'
     obtain ⟨rfl, rfl⟩ := e'
     exact ⟨i, hi, hb⟩
   ·rw [hk] at hb
    obtain rfl := Option.some.inj hb
    subst e
    rw [only g hky h4]
    exact hy h5
  ·exact h.ex x h1 h2 h3 k' z h4 h5 fun u' j' e' ex => by
    simp only [Option.some.injEq, Prod.mk.injEq] at e'
    exact absurd (ex.trans e'.1.symm) e
theorem Fl.mark (g : Gok l n bes) (h : Fl l n bes out0 v out st (some (u, j))) (hk : (bes u)[j]? = some k) (hky : Inc l k u y) (hb : ¬ Bridge l k) (hy : out y < 0) : Fl l n bes out0 v (up out y (v : Int)) (y :: st) (some (u, j + 1)) := by
 have hcu := h.cu u j rfl
 have hy0 : out0 y < 0 := by
  rcases h.m y with e | ⟨e, _⟩
  ·rw [← e]; exact hy
  ·exact e
 have nv : ∀ {x}, out x = v → x ≠ y := fun hx e => by rw [e] at hx; omega
 have con : Con (Firm l) v y := by
  rcases h.m u with e | ⟨_, _, c⟩
  ·rw [e] at hcu; omega
  ·exact .snoc c (.inl ⟨k, hb, hky⟩)
 have h' := fun hyy => (h.next g hk hky hyy)
 refine ⟨fun x => ?_, ⟨h.v0.1, ?_⟩, fun x hx => ?_, fun u' j' e => ?_, fun x h1 h2 h3 k' z h4 h5 h6 => ?_⟩
 ·by_cases e : x = y
  ·subst e; rw [up_same]; exact .inr ⟨hy0, rfl, con⟩
  ·rw [up_ne _ _ e]; exact h.m x
 ·rw [up_ne _ _ (nv h.v0.2)]; exact h.v0.2
 ·rcases List.mem_cons.1 hx with rfl | hx
  ·exact ⟨(g.ends _ _ _ hky).2.1, up_same _ _ _, hy0⟩
  ·have := h.stk x hx
   exact ⟨this.1, by rw [up_ne _ _ (nv this.2.1)]; exact this.2.1, this.2.2⟩
 ·simp only [Option.some.injEq, Prod.mk.injEq] at e
  obtain ⟨rfl, rfl⟩ := e
  exact ⟨hcu.1, by rw [up_ne _ _ (nv hcu.2.1)]; exact hcu.2.1, hcu.2.2⟩
 ·have hxy : x ≠ y := fun e => h3 (by rw [e]; exact .head _)
  rw [up_ne _ _ hxy] at h2
  by_cases hz : z = y
  ·rw [hz, up_same]; omega
  ·rw [up_ne _ _ hz]
   by_cases e : x = u
   ·obtain ⟨i, hi, hb2⟩ := h6 u (j + 1) rfl e
    rcases Nat.lt_succ_iff_lt_or_eq.1 hi with hi | rfl
    ·exact h.ex x h1 h2 (fun hm => h3 (.tail _ hm)) k' z h4 h5 fun u' j' e' _ => by
      simp only [Option.some.injEq, Prod.mk.injEq] at e'
      obtain ⟨rfl, rfl⟩ := e'
      exact ⟨i, hi, hb2⟩
    ·rw [hk] at hb2
     obtain rfl := Option.some.inj hb2
     subst e
     exact absurd (only g hky h4) hz
   ·exact h.ex x h1 h2 (fun hm => h3 (.tail _ hm)) k' z h4 h5 fun u' j' e' ex => by
     simp only [Option.some.injEq, Prod.mk.injEq] at e'
     exact absurd (ex.trans e'.1.symm) e
theorem Fl.leave (g : Gok l n bes) (h : Fl l n bes out0 v out st (some (u, j))) (hj : (bes u).length ≤ j) : Fl l n bes out0 v out st none where
 m := h.m
 v0 := h.v0
 stk := h.stk
 cu u j e := by cases e
 ex x h1 h2 h3 k y h4 h5 _ := h.ex x h1 h2 h3 k y h4 h5 fun u' j' e ex => by
  simp only [Option.some.injEq, Prod.mk.injEq] at e
  obtain ⟨rfl, rfl⟩ := e
  subst ex
  obtain ⟨i, hi, e⟩ := List.mem_iff_getElem.1 ((g.bes x k).2 ⟨y, h4⟩)
  exact ⟨i, by omega, by rw [List.getElem?_eq_getElem hi, e]⟩
theorem Cl1.con {x : Nat} (hc : Cl1 l out) (h : Con (Firm l) x y) (hx : 0 ≤ out x) : out y = out x := by
 induction h with
 | refl => rfl
 | snoc _ e ih => rw [hc _ _ e (by rw [ih]; exact hx), ih]
theorem Fl.fin (g : Gok l n bes) (h : Fl l n bes out0 v out [] none) (hv : v < n) (h1 : Ok1 l n out0) (h2 : Cl1 l out0) (h3 : ∀ w, w < v → 0 ≤ out0 w) : Ok1 l n out ∧ Cl1 l out ∧ ∀ w, w < v + 1 → 0 ≤ out w := by
 have keep : ∀ x, 0 ≤ out0 x → out x = out0 x := fun x hx => (h.m x).resolve_right fun e => by omega
 refine ⟨fun x hx h0 => ?_, fun x y hxy h0 => ?_, fun w hw => ?_⟩
 ·rcases h.m x with e | ⟨e1, e2, e3⟩
  ·rw [e] at h0 ⊢; exact h1 x hx h0
  ·refine ⟨v, e2, hv, e3.symm, fun w hw c => Nat.le_of_not_lt fun hlt => ?_⟩
   have := h2.con (c.symm.trans e3.symm) (h3 w hlt)
   have := h3 w hlt
   have := h.v0.1
   omega
 ·rcases h.m x with e | ⟨e1, e2, e3⟩
  ·rw [e] at h0
   have := h2 x y hxy h0
   rw [e, ← this]
   exact keep y (by omega)
  ·have hy : 0 ≤ out y := by
    rcases hxy with ⟨k, a, b⟩ | ⟨k, a, b⟩
    ·exact h.ex x e1 e2 (by simp) k y b a fun _ _ h => by cases h
    ·exact h.ex x e1 e2 (by simp) k y b.symm a fun _ _ h => by cases h
   rcases h.m y with f | ⟨f1, f2, f3⟩
   ·rw [f] at hy
    have := h2 y x hxy.symm hy
    omega
   ·rw [f2, e2]
 ·by_cases e : w = v
  ·rw [e, h.v0.2]; omega
  ·have := h3 w (by omega)
   rw [keep w this]; exact this
theorem blocks_least (h1 : Ok1 l n out) (h2 : ∀ w, w < n → 0 ≤ out w) : ∃ p : Nat → Nat, Least (Firm l) n p ∧ (∀ v, v < n → p v < n) ∧ ∀ v, v < n → out v = (p v : Int) := by
 refine ⟨fun v => (out v).toNat, ⟨fun v hv => ?_, fun v w hv hw c => ?_⟩, fun v hv => ?_, fun v hv => ?_⟩
 ·obtain ⟨q, e, _, c, _⟩ := h1 v hv (h2 v hv)
  show Con _ v (out v).toNat
  rw [e]; exact c
 ·obtain ⟨q, e, _, _, m⟩ := h1 v hv (h2 v hv)
  show (out v).toNat ≤ w
  rw [e]; exact m w hw c
 ·obtain ⟨q, e, hq, _⟩ := h1 v hv (h2 v hv)
  show (out v).toNat < n
  rw [e]; exact hq
 ·show out v = ((out v).toNat : Int)
  have := h2 v hv
  omega
end
end Go.Br
