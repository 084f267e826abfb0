/-
  Splay forests as plain data: nodes, and what each inner function of the package does to them.
-/
import Derived.Test.YtndkbhlfbeiniaaArP
namespace Go.Sp
open Go Go.Hp
set_option linter.unusedVariables false

def w64 (x : Int) : Int := IntKind.i64.wrap x
def or64 (a b : Int) : Int := bitOr .i64 a b
structure Item where
  value : Int
  counts : Bool
  flags : Int
  deriving DecidableEq
structure Agg where
  count : Int
  sum : Int
  least : Int
  most : Int
  flags : Int
  deriving DecidableEq
def Item.cells (x : Item) : List Value := [.int .i64 x.value, .bool x.counts, .int .i64 x.flags]
def Item.val (x : Item) : Value := .agg #[.int .i64 x.value, .bool x.counts, .int .i64 x.flags]
def Agg.val (a : Agg) : Value := .agg #[.int .i64 a.count, .int .i64 a.sum, .int .i64 a.least, .int .i64 a.most, .int .i64 a.flags]
def Agg.zero : Agg := ⟨0, 0, 0, 0, 0⟩
def Item.zero : Item := ⟨0, false, 0⟩
def minI (a b : Int) : Int := if b < a then b else a
def maxI (a b : Int) : Int := if b > a then b else a
def plusA (a b : Agg) : Agg where
  count := w64 (a.count + b.count)
  sum := w64 (a.sum + b.sum)
  least := if a.count = 0 then b.least else if b.count = 0 then a.least else minI a.least b.least
  most := if a.count = 0 then b.most else if b.count = 0 then a.most else maxI a.most b.most
  flags := or64 a.flags b.flags
def ownA (x : Item) : Agg := if x.counts then ⟨1, x.value, x.value, x.value, x.flags⟩ else ⟨0, 0, 0, 0, x.flags⟩
structure Rec where
  item : Item
  up : Nat
  l : Nat
  r : Nat
  many : Int
  total : Agg
def Rec.cells (r : Rec) : List Value :=
  [.int .i64 r.item.value, .bool r.item.counts, .int .i64 r.item.flags, .int .i64 r.up, .int .i64 r.l, .int .i64 r.r, .int .i64 r.many,
    .int .i64 r.total.count, .int .i64 r.total.sum, .int .i64 r.total.least, .int .i64 r.total.most, .int .i64 r.total.flags]
def Rec.kid (r : Rec) (s : Nat) : Nat := if s = 0 then r.l else r.r
def Rec.setKid (r : Rec) (s x : Nat) : Rec := if s = 0 then { r with l := x } else { r with r := x }
abbrev Nodes := Nat → Rec
def upd (N : Nodes) (h : Nat) (r : Rec) : Nodes := fun i => if i = h then r else N i
theorem upd_same (N : Nodes) (h : Nat) (r : Rec) : upd N h r h = r := if_pos rfl
theorem upd_ne (N : Nodes) {h i : Nat} (r : Rec) (hi : i ≠ h) : upd N h r i = N i := if_neg hi
def belowN (N : Nodes) (k : Nat) : Int × Agg := if k = 0 then (0, Agg.zero) else ((N k).many, (N k).total)
def pullR (N : Nodes) (h : Nat) : Rec :=
  { N h with many := w64 (w64 ((belowN N (N h).l).1 + 1) + (belowN N (N h).r).1), total := plusA (plusA (belowN N (N h).l).2 (ownA (N h).item)) (belowN N (N h).r).2 }
def pullN (N : Nodes) (h : Nat) : Nodes := upd N h (pullR N h)
def hangN (N : Nodes) (up s h : Nat) : Nodes :=
  if h = 0 then upd N up ((N up).setKid s h) else upd (upd N up ((N up).setKid s h)) h { upd N up ((N up).setKid s h) h with up := up }
def sideN (N : Nodes) (up h : Nat) : Nat := if (N up).r = h then 1 else 0
def turn2 (N1 : Nodes) (top up h : Nat) : Nodes := if top = 0 then N1 else upd N1 top ((N1 top).setKid (sideN N1 top up) h)
def setUp (N : Nodes) (h top : Nat) : Nodes := upd N h { N h with up := top }
def turnN (N : Nodes) (h : Nat) : Nodes :=
  pullN (pullN (hangN (setUp (turn2 (hangN N (N h).up (sideN N (N h).up h) ((N h).kid (1 - sideN N (N h).up h))) (N (N h).up).up (N h).up h) h (N (N h).up).up) h (1 - sideN N (N h).up h) (N h).up) (N h).up) h
def stepN (N : Nodes) (h : Nat) : Nodes :=
  if (N (N h).up).up = 0 then turnN N h
  else if sideN N (N (N h).up).up (N h).up = sideN N (N h).up h then turnN (turnN N (N h).up) h
  else turnN (turnN N h) h
/-- The first turn of a step, and what there must be for the second. -/
def first (N : Nodes) (k : Nat) : Nodes := if sideN N (N (N k).up).up (N k).up = sideN N (N k).up k then turnN N (N k).up else turnN N k
def stepOk (N : Nodes) (k : Nat) : Prop := (N k).up ≠ 0 ∧ ((N (N k).up).up ≠ 0 → (first N k k).up ≠ 0)
/-- Whatever hangs anywhere is a node in use. -/
structure Cl (U : Nat → Prop) (N : Nodes) : Prop where
  up : ∀ h, U h → (N h).up = 0 ∨ U (N h).up
  l : ∀ h, U h → (N h).l = 0 ∨ U (N h).l
  r : ∀ h, U h → (N h).r = 0 ∨ U (N h).r
theorem Cl.upd {U : Nat → Prop} {N : Nodes} (h : Cl U N) {i : Nat} {r : Rec} (h1 : r.up = 0 ∨ U r.up) (h2 : r.l = 0 ∨ U r.l) (h3 : r.r = 0 ∨ U r.r) : Cl U (upd N i r) where
  up := fun k hk => by unfold Sp.upd; by_cases e : k = i <;> simp only [e, if_true, if_false]; · exact h1
                       exact h.up k hk
  l := fun k hk => by unfold Sp.upd; by_cases e : k = i <;> simp only [e, if_true, if_false]; · exact h2
                      exact h.l k hk
  r := fun k hk => by unfold Sp.upd; by_cases e : k = i <;> simp only [e, if_true, if_false]; · exact h3
                      exact h.r k hk
theorem Cl.kid {U : Nat → Prop} {N : Nodes} (h : Cl U N) {k s : Nat} (hk : U k) : (N k).kid s = 0 ∨ U ((N k).kid s) := by
  unfold Rec.kid
  split
  · exact h.l k hk
  · exact h.r k hk
theorem Cl.pull {U : Nat → Prop} {N : Nodes} (h : Cl U N) {k : Nat} (hk : U k) : Cl U (pullN N k) := h.upd (h.up k hk) (h.l k hk) (h.r k hk)
theorem Cl.setKid {U : Nat → Prop} {N : Nodes} (h : Cl U N) {k s x : Nat} (hk : U k) (hx : x = 0 ∨ U x) : Cl U (Sp.upd N k ((N k).setKid s x)) := by
  unfold Rec.setKid
  split
  · exact h.upd (h.up k hk) hx (h.r k hk)
  · exact h.upd (h.up k hk) (h.l k hk) hx
theorem Cl.setUp {U : Nat → Prop} {N : Nodes} (h : Cl U N) {k x : Nat} (hk : U k) (hx : x = 0 ∨ U x) : Cl U (setUp N k x) := h.upd hx (h.l k hk) (h.r k hk)
theorem Cl.hang {U : Nat → Prop} {N : Nodes} (h : Cl U N) {k s x : Nat} (hk : U k) (hx : x = 0 ∨ U x) : Cl U (hangN N k s x) := by
  unfold hangN
  split
  · exact h.setKid hk hx
  · rename_i h0
    have hU := hx.resolve_left h0
    have h' := h.setKid (s := s) hk hx
    exact h'.upd (.inr hk) (h'.l x hU) (h'.r x hU)
theorem Cl.turn2 {U : Nat → Prop} {N : Nodes} (h : Cl U N) {top up k : Nat} (ht : top = 0 ∨ U top) (hk : U k) : Cl U (turn2 N top up k) := by
  unfold Sp.turn2
  split
  · exact h
  · rename_i h0
    exact h.setKid (ht.resolve_left h0) (.inr hk)
theorem Cl.turn {U : Nat → Prop} {N : Nodes} (h : Cl U N) {k : Nat} (hk : U k) (hu : U (N k).up) : Cl U (turnN N k) := by
  unfold turnN
  refine Cl.pull (Cl.pull (Cl.hang (Cl.setUp (Cl.turn2 (h.hang hu (h.kid hk)) (h.up _ hu) hk) hk (h.up _ hu)) hk (.inr hu)) hu) hk
end Go.Sp
