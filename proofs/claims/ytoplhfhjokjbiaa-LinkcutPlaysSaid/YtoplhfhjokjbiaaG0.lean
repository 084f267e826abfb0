/-
  Linked trees as plain nodes, and what each inner function of the package does to them.
  Linked trees in memory: turn, has, top, heavier, pull, push.
  Linked trees in memory: top, heavier, pull, push, slices.Index, rotate.
  Linked trees in memory: pull, push, slices.Index over two, rotate.
  Linked trees in memory: slices.Index over two kids; rotate.
  Linked trees, plain: a path's tree with turns that are still to be handed on; its heaviest edge; pushes.
-/
import Derived.Test.YtoplhfhjokjbiaaHpX
import Derived.Test.YtoplhfhjokjbiaaHpL
import Derived.Test.YtoplhfhjokjbiaaHpFk
import Derived.Test.YtoplhfhjokjbiaaHpMa
import Derived.Test.YtoplhfhjokjbiaaTabM
namespace Go.Li
open Go Go.Hp
set_option linter.unusedVariables false

structure Ed where
 id : Int
 u : Int
 v : Int
 w : Int
 deriving DecidableEq
def Ed.zero : Ed := ⟨0, 0, 0, 0⟩
def Ed.val (x : Ed) : Value := .agg #[.int .i64 x.id, .int .i64 x.u, .int .i64 x.v, .int .i64 x.w]
def Ed.cells (x : Ed) : List Value := [.int .i64 x.id, .int .i64 x.u, .int .i64 x.v, .int .i64 x.w]
def heavy (a b : Ed) : Bool := decide (a.w > b.w) || (decide (a.w = b.w) && decide (a.id > b.id))
structure Nd where
 up : Nat
 l : Nat
 r : Nat
 turned : Bool
 isEdge : Bool
 e : Ed
 best : Nat
def Nd.zero : Nd := ⟨0, 0, 0, false, false, Ed.zero, 0⟩
def Nd.cells (x : Nd) : List Value :=
 [.int .i64 x.up, .int .i64 x.l, .int .i64 x.r, .bool x.turned, .bool x.isEdge, .int .i64 x.e.id, .int .i64 x.e.u, .int .i64 x.e.v, .int .i64 x.e.w, .int .i64 x.best]
def Nd.kid (r : Nd) (s : Bool) : Nat := if s then r.r else r.l
def Nd.setKid (r : Nd) (s : Bool) (x : Nat) : Nd := if s then { r with r := x } else { r with l := x }
def Nd.flip (r : Nd) : Nd := { r with l := r.r, r := r.l, turned := !r.turned }
abbrev Nodes := Nat → Nd
def upd (N : Nodes) (h : Nat) (r : Nd) : Nodes := fun i => if i = h then r else N i
theorem upd_same (N : Nodes) (h : Nat) (r : Nd) : upd N h r h = r := if_pos rfl
theorem upd_ne (N : Nodes) {h i : Nat} (r : Nd) (hi : i ≠ h) : upd N h r i = N i := if_neg hi
def heavN (N : Nodes) (a b : Nat) : Nat := if a = 0 then b else if b = 0 then a else if heavy (N a).e (N b).e then a else b
def pull1 (N : Nodes) (h : Nat) : Nodes := upd N h { N h with best := heavN N (N (N h).l).best (N (N h).r).best }
def pullN (N : Nodes) (h : Nat) : Nodes := if (N h).isEdge then upd (pull1 N h) h { pull1 N h h with best := heavN (pull1 N h) (pull1 N h h).best h } else pull1 N h
def flipK (N : Nodes) (k : Nat) : Nodes := if k = 0 then N else upd N k (N k).flip
def pushN (N : Nodes) (h : Nat) : Nodes := if (N h).turned then flipK (flipK (upd N h { N h with turned := false }) (N h).l) (N h).r else N
def hasK (r : Nd) (h : Nat) : Bool := decide (r.l = h) || decide (r.r = h)
def topB (N : Nodes) (h : Nat) : Bool := decide ((N h).up = 0) || !hasK (N (N h).up) h
def sideN (N : Nodes) (up h : Nat) : Bool := decide ((N up).r = h)
def Nd.swap (r : Nd) (x h : Nat) : Nd := if r.l = x then { r with l := h } else { r with r := h }
def rot1 (N : Nodes) (up h : Nat) : Nodes := if topB N up then N else upd N (N up).up ((N (N up).up).swap up h)
def rot2 (N : Nodes) (up h : Nat) : Nodes := upd (rot1 N up h) h { rot1 N up h h with up := (rot1 N up h up).up }
def rot3 (N : Nodes) (up h : Nat) (s : Bool) (k : Nat) : Nodes := upd (rot2 N up h) up ((rot2 N up h up).setKid s k)
def rot4 (N : Nodes) (up h : Nat) (s : Bool) (k : Nat) : Nodes := if k = 0 then rot3 N up h s k else upd (rot3 N up h s k) k { rot3 N up h s k k with up := up }
def rot5 (N : Nodes) (up h : Nat) (s : Bool) (k : Nat) : Nodes := upd (rot4 N up h s k) h ((rot4 N up h s k h).setKid (!s) up)
def rot6 (N : Nodes) (up h : Nat) (s : Bool) (k : Nat) : Nodes := upd (rot5 N up h s k) up { rot5 N up h s k up with up := h }
def rotN (N : Nodes) (h : Nat) : Nodes :=
 pullN (pullN (rot6 N (N h).up h (sideN N (N h).up h) ((rot2 N (N h).up h h).kid (!sideN N (N h).up h))) (N h).up) h
structure Cl (len : Nat) (N : Nodes) : Prop where
 up : ∀ h, h < len → (N h).up < len
 l : ∀ h, h < len → (N h).l < len
 r : ∀ h, h < len → (N h).r < len
 best : ∀ h, h < len → (N h).best < len
theorem Cl.upd {len : Nat} {N : Nodes} (h : Cl len N) {i : Nat} {r : Nd} (h1 : r.up < len) (h2 : r.l < len) (h3 : r.r < len) (h4 : r.best < len) : Cl len (upd N i r) where
 up := fun k hk => by unfold Li.upd; split; exact h1; exact h.up k hk
 l := fun k hk => by unfold Li.upd; split; exact h2; exact h.l k hk
 r := fun k hk => by unfold Li.upd; split; exact h3; exact h.r k hk
 best := fun k hk => by unfold Li.upd; split; exact h4; exact h.best k hk
theorem Cl.kid {len : Nat} {N : Nodes} (h : Cl len N) {k : Nat} {s : Bool} (hk : k < len) : (N k).kid s < len := by
 unfold Nd.kid
 split
 ·exact h.r k hk
 ·exact h.l k hk
theorem heavN_lt {len : Nat} {N : Nodes} {a b : Nat} (ha : a < len) (hb : b < len) : heavN N a b < len := by
 unfold heavN
 split
 ·exact hb
 ·split
  ·exact ha
  ·split
   ·exact ha
   ·exact hb
theorem Cl.pull1 {len : Nat} {N : Nodes} (h : Cl len N) {k : Nat} (hk : k < len) : Cl len (pull1 N k) :=
 h.upd (h.up k hk) (h.l k hk) (h.r k hk) (heavN_lt (h.best _ (h.l k hk)) (h.best _ (h.r k hk)))
theorem Cl.pull {len : Nat} {N : Nodes} (h : Cl len N) {k : Nat} (hk : k < len) : Cl len (pullN N k) := by
 have h1 := h.pull1 hk
 unfold pullN
 split
 ·exact h1.upd (h1.up k hk) (h1.l k hk) (h1.r k hk) (heavN_lt (h1.best k hk) hk)
 ·exact h1
theorem Cl.flipK {len : Nat} {N : Nodes} (h : Cl len N) {k : Nat} (hk : k < len) : Cl len (flipK N k) := by
 unfold Li.flipK
 split
 ·exact h
 ·exact h.upd (h.up k hk) (h.r k hk) (h.l k hk) (h.best k hk)
theorem Cl.push {len : Nat} {N : Nodes} (h : Cl len N) {k : Nat} (hk : k < len) : Cl len (pushN N k) := by
 unfold pushN
 split
 ·have h1 : Cl len (Li.upd N k { N k with turned := false }) := h.upd (h.up k hk) (h.l k hk) (h.r k hk) (h.best k hk)
  exact (h1.flipK (h.l k hk)).flipK (h.r k hk)
 ·exact h
theorem Cl.setKid {len : Nat} {N : Nodes} (h : Cl len N) {k x : Nat} {s : Bool} (hk : k < len) (hx : x < len) : Cl len (Li.upd N k ((N k).setKid s x)) := by
 unfold Nd.setKid
 split
 ·exact h.upd (h.up k hk) (h.l k hk) hx (h.best k hk)
 ·exact h.upd (h.up k hk) hx (h.r k hk) (h.best k hk)
theorem Cl.setUp {len : Nat} {N : Nodes} (h : Cl len N) {k x : Nat} (hk : k < len) (hx : x < len) : Cl len (Li.upd N k { N k with up := x }) := h.upd hx (h.l k hk) (h.r k hk) (h.best k hk)
theorem Cl.rot1 {len : Nat} {N : Nodes} (h : Cl len N) {up k : Nat} (hu : up < len) (hk : k < len) : Cl len (rot1 N up k) := by
 unfold Li.rot1
 split
 ·exact h
 ·have ht := h.up up hu
  unfold Nd.swap
  split
  ·exact h.upd (h.up _ ht) hk (h.r _ ht) (h.best _ ht)
  ·exact h.upd (h.up _ ht) (h.l _ ht) hk (h.best _ ht)
theorem Cl.rot2 {len : Nat} {N : Nodes} (h : Cl len N) {up k : Nat} (hu : up < len) (hk : k < len) : Cl len (rot2 N up k) := by
 have h1 := h.rot1 hu hk
 exact h1.setUp hk (h1.up up hu)
theorem Cl.rot4 {len : Nat} {N : Nodes} (h : Cl len N) {up k x : Nat} {s : Bool} (hu : up < len) (hk : k < len) (hx : x < len) : Cl len (rot4 N up k s x) := by
 have h3 := (h.rot2 hu hk).setKid (s := s) hu hx
 unfold Li.rot4
 split
 ·exact h3
 ·exact h3.setUp hx hu
theorem Cl.rot6 {len : Nat} {N : Nodes} (h : Cl len N) {up k x : Nat} {s : Bool} (hu : up < len) (hk : k < len) (hx : x < len) : Cl len (rot6 N up k s x) :=
 (((h.rot4 (s := s) hu hk hx).setKid (s := !s) hk hu).setUp hu hk)
theorem Cl.rot {len : Nat} {N : Nodes} (h : Cl len N) {k : Nat} (hk : k < len) : Cl len (rotN N k) := by
 have hu := h.up k hk
 unfold rotN
 exact ((h.rot6 hu hk ((h.rot2 hu hk).kid hk)).pull hu).pull hk
def rowsN (N : Nodes) (len : Nat) : List Value := (List.range len).flatMap fun i => (N i).cells
theorem flat_set {α : Type} {k : Nat} : ∀ {rows : List (List α)}, (∀ r ∈ rows, r.length = k) → ∀ {i j : Nat} {r : List α} (v : α), rows[i]? = some r → j < k → rows.flatten.set (i * k + j) v = (rows.set i (r.set j v)).flatten
 | [], _, i, j, r, v, h, _ => by cases h
 | x :: rows, hl, 0, j, r, v, h, hj => by
  have e : x = r := by simpa using h
  subst e
  have hx := hl x (.head _)
  simp only [List.flatten_cons, List.set_cons_zero]
  rw [Nat.zero_mul, Nat.zero_add, List.set_append_left _ _ (by omega)]
 | x :: rows, hl, i + 1, j, r, v, h, hj => by
  have hx := hl x (.head _)
  have ih := flat_set (fun r hr => hl r (.tail _ hr)) (i := i) (j := j) v (by simpa using h) hj
  simp only [List.flatten_cons, List.set_cons_succ]
  rw [List.set_append_right _ _ (by rw [hx, Nat.succ_mul]; omega), ← ih]
  congr 2
  rw [hx, Nat.succ_mul]; omega
theorem flat_get {α : Type} {k : Nat} : ∀ {rows : List (List α)}, (∀ r ∈ rows, r.length = k) → ∀ {i j : Nat} {r : List α}, rows[i]? = some r → j < k → rows.flatten[i * k + j]? = r[j]?
 | [], _, i, j, r, h, _ => by cases h
 | x :: rows, hl, 0, j, r, h, hj => by
  have e : x = r := by simpa using h
  subst e
  have hx := hl x (.head _)
  simp only [List.flatten_cons]
  rw [Nat.zero_mul, Nat.zero_add, List.getElem?_append_left (by omega)]
 | x :: rows, hl, i + 1, j, r, h, hj => by
  have hx := hl x (.head _)
  have ih := flat_get (fun r hr => hl r (.tail _ hr)) (i := i) (j := j) (r := r) (by simpa using h) hj
  simp only [List.flatten_cons]
  rw [List.getElem?_append_right (by rw [hx, Nat.succ_mul]; omega), ← ih]
  congr 1
  rw [hx, Nat.succ_mul]; omega
theorem rowsN_eq (N : Nodes) (len : Nat) : rowsN N len = ((List.range len).map fun i => (N i).cells).flatten := by unfold rowsN; rw [List.flatMap_def]
theorem rowsN_len (N : Nodes) (len : Nat) : (rowsN N len).length = len * 10 := by
 unfold rowsN
 induction len with
 | zero => rfl
 | succ n ih => rw [List.range_succ, List.flatMap_append, List.length_append, ih]; simp [Nd.cells]; omega
theorem rowsN_get (N : Nodes) {len i j : Nat} (hi : i < len) (hj : j < 10) : (rowsN N len)[i * 10 + j]? = (N i).cells[j]? := by
 rw [rowsN_eq]
 exact flat_get (k := 10) (fun r hr => by obtain ⟨a, _, rfl⟩ := List.mem_map.1 hr; rfl) (by simp [hi]) hj
theorem rowsN_set (N : Nodes) {len i j : Nat} (hi : i < len) (hj : j < 10) {v : Value} {r : Nd} (hr : r.cells = (N i).cells.set j v) : (rowsN N len).set (i * 10 + j) v = rowsN (upd N i r) len := by
 rw [rowsN_eq, rowsN_eq, flat_set (k := 10) (fun r hr => by obtain ⟨a, _, rfl⟩ := List.mem_map.1 hr; rfl) (r := (N i).cells) v (by simp [hi]) hj, ← hr]
 congr 1
 apply List.ext_getElem?
 intro k
 rw [List.getElem?_set]
 by_cases hk : i = k
 ·subst hk
  simp [hi, upd]
 ·rw [if_neg hk]
  simp only [List.getElem?_map]
  by_cases hkl : k < len
  ·rw [List.getElem?_range hkl]
   simp [upd, Ne.symm hk]
  ·rw [List.getElem?_eq_none (by simp; omega)]; rfl
theorem rowsN_congr {N N' : Nodes} {len : Nat} (h : ∀ i, i < len → N' i = N i) : rowsN N' len = rowsN N len := by
 rw [rowsN_eq, rowsN_eq]
 congr 1
 exact List.map_congr_left fun i hi => by rw [h i (List.mem_range.1 hi)]
end Go.Li
namespace Go.Proofs.Ytoplhfhjokjbiaa
open Go Go.Hp Go.Li
set_option linter.all false
set_option maxRecDepth 100000
set_option maxHeartbeats 1600000

structure NA (H : Heap) (t g c len : Nat) (N : Nodes) : Prop where
 hd : hcell H ⟨t, 1, none⟩ = some (.slice (some ⟨g, 0, none⟩) len c)
 nd : ∃ rest, Blk H g (rowsN N len ++ rest) ∧ len * 10 + rest.length = c * 10 ∧ len ≤ c
 ne : t ≠ g
 cl : Cl len N
 z : 0 < len ∧ len < 4096
section
variable {H H' : Heap} {t g c len : Nat} {N : Nodes} {K : Value → Heap → Prop}
theorem NA.lt (h : NA H t g c len N) : t < H.size ∧ g < H.size := by
 obtain ⟨rest, h1, _⟩ := h.nd
 exact ⟨hcell_lt h.hd, h1.lt⟩
theorem NA.frame {S : Nat → Prop} (h : NA H t g c len N) (hf : Fr S H H') (ht : ¬ S t) (hg : ¬ S g) : NA H' t g c len N := by
 obtain ⟨rest, h1, h2⟩ := h.nd
 exact ⟨by rw [hf.cell (hcell_lt h.hd) ht]; exact h.hd, ⟨rest, h1.frame hf hg, h2⟩, h.ne, h.cl, h.z⟩
theorem NA.grow (h : NA H t g c len N) (hf : Fr (fun _ => False) H H') : NA H' t g c len N := h.frame hf (fun h => h) (fun h => h)
theorem NA.cell (h : NA H t g c len N) {i j : Nat} (hi : i < len) {v : Value} (hv : (N i).cells[j]? = some v) : hcell H ⟨g, i * 10 + j, none⟩ = some v := by
 obtain ⟨rest, h1, _⟩ := h.nd
 have hj : j < 10 := by
  have := (List.getElem?_eq_some_iff.1 hv).1
  simpa [Nd.cells] using this
 refine h1.cellOf ?_
 rw [List.getElem?_append_left (by rw [rowsN_len]; omega), rowsN_get N hi hj]
 exact hv
theorem NA.cell0 (h : NA H t g c len N) {i : Nat} (hi : i < len) : hcell H ⟨g, i * 10, none⟩ = some (.int .i64 (N i).up) := h.cell (j := 0) hi rfl
theorem NA.okw (h : NA H t g c len N) {i : Nat} (hi : i < len) (j : Nat) (hj : j < 10) : okW H ⟨g, i * 10 + j, none⟩ := by
 obtain ⟨rest, h1, _⟩ := h.nd
 exact h1.okW (by rw [List.length_append, rowsN_len]; omega)
theorem NA.okw0 (h : NA H t g c len N) {i : Nat} (hi : i < len) : okW H ⟨g, i * 10, none⟩ := h.okw hi 0 (by omega)
theorem NA.set (h : NA H t g c len N) {i j : Nat} (hi : i < len) (hj : j < 10) {v : Value} {r : Nd} (hr : r.cells = (N i).cells.set j v) (hc : Cl len (upd N i r)) : NA (hset H ⟨g, i * 10 + j, none⟩ v) t g c len (upd N i r) := by
 obtain ⟨rest, h1, h2⟩ := h.nd
 refine ⟨by rw [hcell_hset_ne h.ne]; exact h.hd, ⟨rest, ?_, h2⟩, h.ne, hc, h.z⟩
 have := h1.set_same (i * 10 + j) v
 rw [List.set_append_left _ _ (by rw [rowsN_len]; omega), rowsN_set N hi hj hr] at this
 exact this
theorem NA.set0 (h : NA H t g c len N) {i : Nat} (hi : i < len) {v : Value} {r : Nd} (hr : r.cells = (N i).cells.set 0 v) (hc : Cl len (upd N i r)) : NA (hset H ⟨g, i * 10, none⟩ v) t g c len (upd N i r) := h.set (j := 0) hi (by omega) hr hc
theorem hset_fr (H : Heap) (g o : Nat) (v : Value) : Fr (· = g) H (hset H ⟨g, o, none⟩ v) := Fr.set (S := (· = g)) (a := ⟨g, o, none⟩) (Fr.refl _ H) (.inl rfl) v
theorem has_link {k h : Nat} (hN : NA H t g c len N) (hk : k < len) (fin : K (.bool (hasK (N k) h)) H) :
  CallsH Try.prog 60 #[.pointer (some ⟨g, k * 10, none⟩), .int .i64 (h : Nat)] H K := by
 have c1 := hN.cell (j := 1) hk rfl
 have c2 := hN.cell (j := 2) hk rfl
 unfold hasK at fin
 refine call60 (by simp) ?_
 simp only [Try.f60, Option.getD_some]
 by_cases h1 : (N k).l = h
 ·have t1 : (((N k).l : Int) == (h : Int)) = true := by simp [h1]
  simp only [h1, decide_true, Bool.true_or] at fin
  repeat' (first|(with_reducible first|refine jA ?_|(refine hK _ _ ?_;clear hK K)|refine jJ fun K hK=>?_|refine jK ?_|refine jL ?_|refine jM ?_|refine jN ?_|refine jO ?_|refine jP ?_|refine jQ ?_|(refine jB ?_;clear hK K)|(refine jC ?_;clear hK K)|refine jD ?_|refine jE ?_|refine jG ?_|refine jH ?_|refine jI ?_)|((with_reducible refine jR ?hq ?_);case hq=>rfl)|((first|(with_reducible first|refine jS fun K hK=>?_|refine jT ?_|refine jU ?_)|((with_reducible refine jV ?hy fun K hK=>?_);case hy=>rfl));simp only [go_sem, Nat.reduceEqDiff, Nat.reduceAdd, Nat.reduceMul, Nat.reduceLeDiff, Nat.reduceLT, Int.reduceLT, Int.reduceLE, Int.reduceEq, Int.reduceNeg, Int.reduceToNat, Nat.reducePow, reduceIte, reduceCtorEq, c1, c2, t1])|((with_reducible first|refine jW ?hy ?_|refine jY ?hy ?_);case hy=>rfl)|((with_reducible first|refine jX ?hy ?_|refine jZ ?hy ?_);case hy=>rfl)|((with_reducible refine jF ?hy ?_);case hy=>decide))
  exact fin
 ·have t1 : (((N k).l : Int) == (h : Int)) = false := by simp; omega
  have t2 : (((N k).r : Int) == (h : Int)) = decide ((N k).r = h) := by
   rw [Bool.eq_iff_iff]; simp; omega
  simp only [h1, decide_false, Bool.false_or] at fin
  repeat' (first|(with_reducible first|refine jA ?_|(refine hK _ _ ?_;clear hK K)|refine jJ fun K hK=>?_|refine jK ?_|refine jL ?_|refine jM ?_|refine jN ?_|refine jO ?_|refine jP ?_|refine jQ ?_|(refine jB ?_;clear hK K)|(refine jC ?_;clear hK K)|refine jD ?_|refine jE ?_|refine jG ?_|refine jH ?_|refine jI ?_)|((with_reducible refine jR ?hq ?_);case hq=>rfl)|((first|(with_reducible first|refine jS fun K hK=>?_|refine jT ?_|refine jU ?_)|((with_reducible refine jV ?hy fun K hK=>?_);case hy=>rfl));simp only [go_sem, Nat.reduceEqDiff, Nat.reduceAdd, Nat.reduceMul, Nat.reduceLeDiff, Nat.reduceLT, Int.reduceLT, Int.reduceLE, Int.reduceEq, Int.reduceNeg, Int.reduceToNat, Nat.reducePow, reduceIte, reduceCtorEq, c1, c2, t1, t2])|((with_reducible first|refine jW ?hy ?_|refine jY ?hy ?_);case hy=>rfl)|((with_reducible first|refine jX ?hy ?_|refine jZ ?hy ?_);case hy=>rfl)|((with_reducible refine jF ?hy ?_);case hy=>decide))
  exact fin
theorem turn_link {k : Nat} (hN : NA H t g c len N) (hk : k < len) (fin : ∀ H', NA H' t g c len (upd N k (N k).flip) → Fr (· = g) H H' → K (.tuple #[]) H') :
  CallsH Try.prog 44 #[.pointer (some ⟨g, k * 10, none⟩)] H K := by
 have c1 := hN.cell (j := 1) hk rfl
 have c2 := hN.cell (j := 2) hk rfl
 have w1 := hN.okw hk 1 (by omega)
 have w2 := hN.okw hk 2 (by omega)
 have w3 := hN.okw hk 3 (by omega)
 have q0 : Cells [(g, k * 10 + 1, .int .i64 (N k).l), (g, k * 10 + 2, .int .i64 (N k).r)] H := ⟨c1, c2, trivial⟩
 have n1 := hN.set (j := 1) (v := .int .i64 (N k).r) (r := { N k with l := (N k).r }) hk (by omega) rfl (hN.cl.upd (hN.cl.up k hk) (hN.cl.r k hk) (hN.cl.r k hk) (hN.cl.best k hk))
 have n2 := n1.set (j := 2) (v := .int .i64 (N k).l) (r := { N k with l := (N k).r, r := (N k).l }) hk (by omega) (by rw [upd_same]; rfl) (n1.cl.upd (hN.cl.up k hk) (hN.cl.r k hk) (hN.cl.l k hk) (hN.cl.best k hk))
 have n3 := n2.set (j := 3) (v := .bool (!(N k).turned)) (r := (N k).flip) hk (by omega) (by rw [upd_same]; rfl) (n2.cl.upd (hN.cl.up k hk) (hN.cl.r k hk) (hN.cl.l k hk) (hN.cl.best k hk))
 have e : upd (upd (upd N k { N k with l := (N k).r }) k { N k with l := (N k).r, r := (N k).l }) k (N k).flip = upd N k (N k).flip := by
  funext i; unfold upd; split <;> rfl
 rw [e] at n3
 have f3 := ((hset_fr H g (k * 10 + 1) (.int .i64 (N k).r)).trans (hset_fr _ g (k * 10 + 2) (.int .i64 (N k).l))).trans (hset_fr _ g (k * 10 + 3) (.bool (!(N k).turned)))
 have c3 := n2.cell (j := 3) hk rfl
 rw [upd_same] at c3
 refine call44 (by simp) ?_
 simp only [Try.f44, Option.getD_some]
 refine x_drawG [15, 18, 19] [1, 16, 17] [1, 16, 17, 0, 2, 3, 4, 5, 6, 7, 8, 9, 10, 11, 12, 13, 14, 15, 18, 19] rfl (by kernel_rfl) (Cells _) q0 ?_
 repeat' (first|(with_reducible refine xg_nil ?_)|((with_reducible apply xg_free);(case hi=>rfl);(case hg=>rfl);(case h1=>intro H'; simp only [go_sem, Nat.reduceEqDiff, Nat.reduceAdd, Nat.reduceMul, Nat.reduceLeDiff, Nat.reduceLT, Int.reduceLT, Int.reduceLE, Int.reduceEq, Int.reduceNeg, Int.reduceToNat, Nat.reducePow, reduceIte, reduceCtorEq, w1, w2, okW_hset, c3, w3]; rfl))|((with_reducible apply xg_rd);(case hi=>rfl);(case hg=>rfl);(case hr=>rfl);(case h1=>intro H' hS'; (try simp only [Cells, and_true] at hS');simp only [go_sem, Nat.reduceEqDiff, Nat.reduceAdd, Nat.reduceMul, Nat.reduceLeDiff, Nat.reduceLT, Int.reduceLT, Int.reduceLE, Int.reduceEq, Int.reduceNeg, Int.reduceToNat, Nat.reducePow, reduceIte, reduceCtorEq, w1, w2, okW_hset, c3, w3, hS']; rfl))|((with_reducible refine xg_tail ?hz ?_);case hz=>rfl)|((with_reducible refine xg_keep ?hz ?_);case hz=>first|(with_reducible assumption)|(simp only [go_sem, Nat.reduceEqDiff, Nat.reduceAdd, Nat.reduceMul, Nat.reduceLeDiff, Nat.reduceLT, Int.reduceLT, Int.reduceLE, Int.reduceEq, Int.reduceNeg, Int.reduceToNat, Nat.reducePow, reduceIte, reduceCtorEq, Cells, and_true, w1, w2, okW_hset, c3, w3]; done)|assumption)|((with_reducible apply xg_op);(case hi=>rfl);(case hg=>rfl);(case hr=>rfl);intro K hK; simp only [go_sem, Nat.reduceEqDiff, Nat.reduceAdd, Nat.reduceMul, Nat.reduceLeDiff, Nat.reduceLT, Int.reduceLT, Int.reduceLE, Int.reduceEq, Int.reduceNeg, Int.reduceToNat, Nat.reducePow, reduceIte, reduceCtorEq, w1, w2, okW_hset, c3, w3])|(with_reducible first|refine jA ?_|(refine hK _ _ ?_;clear hK K)|refine jJ fun K hK=>?_|refine jK ?_|refine jL ?_|refine jM ?_|refine jN ?_|refine jO ?_|refine jP ?_|refine jQ ?_|(refine jB ?_;clear hK K)|(refine jC ?_;clear hK K)|refine jD ?_|refine jE ?_|refine jG ?_|refine jH ?_|refine jI ?_)|((with_reducible refine jR ?hq ?_);case hq=>rfl)|((first|(with_reducible first|refine jS fun K hK=>?_|refine jT ?_|refine jU ?_)|((with_reducible refine jV ?hy fun K hK=>?_);case hy=>rfl));simp only [go_sem, Nat.reduceEqDiff, Nat.reduceAdd, Nat.reduceMul, Nat.reduceLeDiff, Nat.reduceLT, Int.reduceLT, Int.reduceLE, Int.reduceEq, Int.reduceNeg, Int.reduceToNat, Nat.reducePow, reduceIte, reduceCtorEq, w1, w2, okW_hset, c3, w3])|((with_reducible first|refine jW ?hy ?_|refine jY ?hy ?_);case hy=>rfl)|((with_reducible first|refine jX ?hy ?_|refine jZ ?hy ?_);case hy=>rfl)|((with_reducible refine jF ?hy ?_);case hy=>decide))
 exact fin _ n3 f3
end
section
variable {H H' : Heap} {t g c len : Nat} {N : Nodes} {K : Value → Heap → Prop}
theorem top_ok {h : Nat} (hN : NA H t g c len N) (hh : h < len) (fin : K (.bool (topB N h)) H) :
  CallsH Try.prog 55 #[.pointer (some ⟨t, 0, none⟩), .int .i64 (h : Nat)] H K := by
 have hd := hN.hd
 have c0 := hN.cell0 hh
 have hu := hN.cl.up h hh
 unfold topB at fin
 refine call55 (by simp) ?_
 simp only [Try.f55, Option.getD_some]
 by_cases h0 : (N h).up = 0
 ·have t1 : (((N h).up : Int) == 0) = true := by simp [h0]
  simp only [h0, decide_true, Bool.true_or] at fin
  repeat' (first|(with_reducible first|refine jA ?_|(refine hK _ _ ?_;clear hK K)|refine jJ fun K hK=>?_|refine jK ?_|refine jL ?_|refine jM ?_|refine jN ?_|refine jO ?_|refine jP ?_|refine jQ ?_|(refine jB ?_;clear hK K)|(refine jC ?_;clear hK K)|refine jD ?_|refine jE ?_|refine jG ?_|refine jH ?_|refine jI ?_)|((with_reducible refine jR ?hq ?_);case hq=>rfl)|((first|(with_reducible first|refine jS fun K hK=>?_|refine jT ?_|refine jU ?_)|((with_reducible refine jV ?hy fun K hK=>?_);case hy=>rfl));simp only [go_sem, Nat.reduceEqDiff, Nat.reduceAdd, Nat.reduceMul, Nat.reduceLeDiff, Nat.reduceLT, Int.reduceLT, Int.reduceLE, Int.reduceEq, Int.reduceNeg, Int.reduceToNat, Nat.reducePow, reduceIte, reduceCtorEq, hd, c0, hh, t1])|((with_reducible first|refine jW ?hy ?_|refine jY ?hy ?_);case hy=>rfl)|((with_reducible first|refine jX ?hy ?_|refine jZ ?hy ?_);case hy=>rfl)|((with_reducible refine jF ?hy ?_);case hy=>decide))
  exact fin
 ·have t1 : (((N h).up : Int) == 0) = false := by simp [h0]
  simp only [h0, decide_false, Bool.false_or] at fin
  repeat' (first|(with_reducible first|refine jA ?_|(refine hK _ _ ?_;clear hK K)|refine jJ fun K hK=>?_|refine jK ?_|refine jL ?_|refine jM ?_|refine jN ?_|refine jO ?_|refine jP ?_|refine jQ ?_|(refine jB ?_;clear hK K)|(refine jC ?_;clear hK K)|refine jD ?_|refine jE ?_|refine jG ?_|refine jH ?_|refine jI ?_)|((with_reducible refine jR ?hq ?_);case hq=>rfl)|((first|(with_reducible first|refine jS fun K hK=>?_|refine jT ?_|refine jU ?_)|((with_reducible refine jV ?hy fun K hK=>?_);case hy=>rfl));simp only [go_sem, Nat.reduceEqDiff, Nat.reduceAdd, Nat.reduceMul, Nat.reduceLeDiff, Nat.reduceLT, Int.reduceLT, Int.reduceLE, Int.reduceEq, Int.reduceNeg, Int.reduceToNat, Nat.reducePow, reduceIte, reduceCtorEq, hd, c0, hh, t1, hu])|((with_reducible first|refine jW ?hy ?_|refine jY ?hy ?_);case hy=>rfl)|((with_reducible first|refine jX ?hy ?_|refine jZ ?hy ?_);case hy=>rfl)|((with_reducible refine jF ?hy ?_);case hy=>decide))
  refine has_link hN hu ?_
  repeat' (first|(with_reducible first|refine jA ?_|(refine hK _ _ ?_;clear hK K)|refine jJ fun K hK=>?_|refine jK ?_|refine jL ?_|refine jM ?_|refine jN ?_|refine jO ?_|refine jP ?_|refine jQ ?_|(refine jB ?_;clear hK K)|(refine jC ?_;clear hK K)|refine jD ?_|refine jE ?_|refine jG ?_|refine jH ?_|refine jI ?_)|((with_reducible refine jR ?hq ?_);case hq=>rfl)|((first|(with_reducible first|refine jS fun K hK=>?_|refine jT ?_|refine jU ?_)|((with_reducible refine jV ?hy fun K hK=>?_);case hy=>rfl));simp only [go_sem, Nat.reduceEqDiff, Nat.reduceAdd, Nat.reduceMul, Nat.reduceLeDiff, Nat.reduceLT, Int.reduceLT, Int.reduceLE, Int.reduceEq, Int.reduceNeg, Int.reduceToNat, Nat.reducePow, reduceIte, reduceCtorEq])|((with_reducible first|refine jW ?hy ?_|refine jY ?hy ?_);case hy=>rfl)|((with_reducible first|refine jX ?hy ?_|refine jZ ?hy ?_);case hy=>rfl)|((with_reducible refine jF ?hy ?_);case hy=>decide))
  exact fin
theorem heavier_ok {L : Value → Heap → Prop} {a b : Nat} (hN : NA H t g c len N) (ha : a < len) (hb : b < len) (fin : ∀ H', Fr (fun _ => False) H H' → L (.int .i64 (heavN N a b : Nat)) H') :
  CallsH Try.prog 59 #[.pointer (some ⟨t, 0, none⟩), .int .i64 (a : Nat), .int .i64 (b : Nat)] H L := by
 have hd := hN.hd
 have a5 := hN.cell (j := 5) ha rfl
 have a6 := hN.cell (j := 6) ha rfl
 have a7 := hN.cell (j := 7) ha rfl
 have a8 := hN.cell (j := 8) ha rfl
 have b5 := hN.cell (j := 5) hb rfl
 have b6 := hN.cell (j := 6) hb rfl
 have b7 := hN.cell (j := 7) hb rfl
 have b8 := hN.cell (j := 8) hb rfl
 have q0 : Cells [(t, 1, .slice (some ⟨g, 0, none⟩) len c), (g, a * 10 + 5, .int .i64 (N a).e.id), (g, a * 10 + 6, .int .i64 (N a).e.u), (g, a * 10 + 7, .int .i64 (N a).e.v), (g, a * 10 + 8, .int .i64 (N a).e.w),
  (g, b * 10 + 5, .int .i64 (N b).e.id), (g, b * 10 + 6, .int .i64 (N b).e.u), (g, b * 10 + 7, .int .i64 (N b).e.v), (g, b * 10 + 8, .int .i64 (N b).e.w)] H := ⟨hd, a5, a6, a7, a8, b5, b6, b7, b8, trivial⟩
 have ht := hN.lt.1
 have hg := hN.lt.2
 have n1 : ¬ H.size = t := by omega
 have n2 : ¬ H.size = g := by omega
 have n3 : ¬ t = H.size := by omega
 have n4 : ¬ g = H.size := by omega
 have n5 : ¬ t = H.size + 1 := by omega
 have n6 : ¬ g = H.size + 1 := by omega
 have l5 : t < H.size + 1 := by omega
 have l6 : g < H.size + 1 := by omega
 refine call59 (by simp) ?_
 simp only [Try.f59, Option.getD_some]
 repeat' (first|(with_reducible first|refine jA ?_|(refine hK _ _ ?_;clear hK K)|refine jJ fun K hK=>?_|refine jK ?_|refine jL ?_|refine jM ?_|refine jN ?_|refine jO ?_|refine jP ?_|refine jQ ?_|(refine jB ?_;clear hK K)|(refine jC ?_;clear hK K)|refine jD ?_|refine jE ?_|refine jG ?_|refine jH ?_|refine jI ?_)|((with_reducible refine jR ?hq ?_);case hq=>rfl)|((first|(with_reducible first|refine jS fun K hK=>?_|refine jT ?_|refine jU ?_)|((with_reducible refine jV ?hy fun K hK=>?_);case hy=>rfl));simp only [go_sem, Nat.reduceEqDiff, Nat.reduceAdd, Nat.reduceMul, Nat.reduceLeDiff, Nat.reduceLT, Int.reduceLT, Int.reduceLE, Int.reduceEq, Int.reduceNeg, Int.reduceToNat, Nat.reducePow, reduceIte, reduceCtorEq])|((with_reducible first|refine jW ?hy ?_|refine jY ?hy ?_);case hy=>rfl)|((with_reducible first|refine jX ?hy ?_|refine jZ ?hy ?_);case hy=>rfl)|((with_reducible refine jF ?hy ?_);case hy=>decide))
 have tail : ∀ (p q : Nat) (e' : Env) (H2 : Heap), e' 1 = .int .i64 (a : Nat) → e' 2 = .int .i64 (b : Nat) → e' 7 = .pointer (some ⟨p, 0, none⟩) → e' 8 = .pointer (some ⟨q, 0, none⟩) → Fr (fun _ => False) H H2 →
   Cells [(p, 0, .int .i64 (N a).e.id), (p, 3, .int .i64 (N a).e.w), (q, 0, .int .i64 (N b).e.id), (q, 3, .int .i64 (N b).e.w)] H2 → K e' H2 := by
  intro p q e' H2 i1 i2 i7 i8 hf hq
  refine hK _ _ ?_
  clear hK K
  simp only [Cells, and_true] at hq
  obtain ⟨p0, p3, q0, q3⟩ := hq
  have fin' := fin H2 hf
  unfold heavN at fin'
  by_cases ha0 : a = 0
  ·have t1 : ((a : Int) == 0) = true := by simp [ha0]
   rw [if_pos ha0] at fin'
   repeat' (first|(with_reducible first|refine jA ?_|(refine hK _ _ ?_;clear hK K)|refine jJ fun K hK=>?_|refine jK ?_|refine jL ?_|refine jM ?_|refine jN ?_|refine jO ?_|refine jP ?_|refine jQ ?_|(refine jB ?_;clear hK K)|(refine jC ?_;clear hK K)|refine jD ?_|refine jE ?_|refine jG ?_|refine jH ?_|refine jI ?_)|((with_reducible refine jR ?hq ?_);case hq=>rfl)|((first|(with_reducible first|refine jS fun K hK=>?_|refine jT ?_|refine jU ?_)|((with_reducible refine jV ?hy fun K hK=>?_);case hy=>rfl));simp only [go_sem, Nat.reduceEqDiff, Nat.reduceAdd, Nat.reduceMul, Nat.reduceLeDiff, Nat.reduceLT, Int.reduceLT, Int.reduceLE, Int.reduceEq, Int.reduceNeg, Int.reduceToNat, Nat.reducePow, reduceIte, reduceCtorEq, i1, i2, i7, i8, t1])|((with_reducible first|refine jW ?hy ?_|refine jY ?hy ?_);case hy=>rfl)|((with_reducible first|refine jX ?hy ?_|refine jZ ?hy ?_);case hy=>rfl)|((with_reducible refine jF ?hy ?_);case hy=>decide))
   exact fin'
  ·have t1 : ((a : Int) == 0) = false := by simp [ha0]
   rw [if_neg ha0] at fin'
   by_cases hb0 : b = 0
   ·have t2 : ((b : Int) == 0) = true := by simp [hb0]
    rw [if_pos hb0] at fin'
    repeat' (first|(with_reducible first|refine jA ?_|(refine hK _ _ ?_;clear hK K)|refine jJ fun K hK=>?_|refine jK ?_|refine jL ?_|refine jM ?_|refine jN ?_|refine jO ?_|refine jP ?_|refine jQ ?_|(refine jB ?_;clear hK K)|(refine jC ?_;clear hK K)|refine jD ?_|refine jE ?_|refine jG ?_|refine jH ?_|refine jI ?_)|((with_reducible refine jR ?hq ?_);case hq=>rfl)|((first|(with_reducible first|refine jS fun K hK=>?_|refine jT ?_|refine jU ?_)|((with_reducible refine jV ?hy fun K hK=>?_);case hy=>rfl));simp only [go_sem, Nat.reduceEqDiff, Nat.reduceAdd, Nat.reduceMul, Nat.reduceLeDiff, Nat.reduceLT, Int.reduceLT, Int.reduceLE, Int.reduceEq, Int.reduceNeg, Int.reduceToNat, Nat.reducePow, reduceIte, reduceCtorEq, i1, i2, i7, i8, t1, t2])|((with_reducible first|refine jW ?hy ?_|refine jY ?hy ?_);case hy=>rfl)|((with_reducible first|refine jX ?hy ?_|refine jZ ?hy ?_);case hy=>rfl)|((with_reducible refine jF ?hy ?_);case hy=>decide))
    exact fin'
   ·have t2 : ((b : Int) == 0) = false := by simp [hb0]
    rw [if_neg hb0] at fin'
    by_cases h1 : (N a).e.w > (N b).e.w
    ·have s1 : ((N b).e.w < (N a).e.w) = True := by simp; omega
     have e1 : heavy (N a).e (N b).e = true := by unfold heavy; simp [h1]
     rw [e1, if_pos rfl] at fin'
     repeat' (first|(with_reducible first|refine jA ?_|(refine hK _ _ ?_;clear hK K)|refine jJ fun K hK=>?_|refine jK ?_|refine jL ?_|refine jM ?_|refine jN ?_|refine jO ?_|refine jP ?_|refine jQ ?_|(refine jB ?_;clear hK K)|(refine jC ?_;clear hK K)|refine jD ?_|refine jE ?_|refine jG ?_|refine jH ?_|refine jI ?_)|((with_reducible refine jR ?hq ?_);case hq=>rfl)|((first|(with_reducible first|refine jS fun K hK=>?_|refine jT ?_|refine jU ?_)|((with_reducible refine jV ?hy fun K hK=>?_);case hy=>rfl));simp only [go_sem, Nat.reduceEqDiff, Nat.reduceAdd, Nat.reduceMul, Nat.reduceLeDiff, Nat.reduceLT, Int.reduceLT, Int.reduceLE, Int.reduceEq, Int.reduceNeg, Int.reduceToNat, Nat.reducePow, reduceIte, reduceCtorEq, i1, i2, i7, i8, t1, t2, p0, p3, q0, q3, s1])|((with_reducible first|refine jW ?hy ?_|refine jY ?hy ?_);case hy=>rfl)|((with_reducible first|refine jX ?hy ?_|refine jZ ?hy ?_);case hy=>rfl)|((with_reducible refine jF ?hy ?_);case hy=>decide))
     exact fin'
    ·have s1 : ((N b).e.w < (N a).e.w) = False := by simp; omega
     by_cases h2 : (N a).e.w = (N b).e.w
     ·have s2 : ((N a).e.w == (N b).e.w) = true := by simp [h2]
      by_cases h3 : (N a).e.id > (N b).e.id
      ·have s3 : ((N b).e.id < (N a).e.id) = True := by simp; omega
       have e1 : heavy (N a).e (N b).e = true := by unfold heavy; simp [h2, h3]
       rw [e1, if_pos rfl] at fin'
       repeat' (first|(with_reducible first|refine jA ?_|(refine hK _ _ ?_;clear hK K)|refine jJ fun K hK=>?_|refine jK ?_|refine jL ?_|refine jM ?_|refine jN ?_|refine jO ?_|refine jP ?_|refine jQ ?_|(refine jB ?_;clear hK K)|(refine jC ?_;clear hK K)|refine jD ?_|refine jE ?_|refine jG ?_|refine jH ?_|refine jI ?_)|((with_reducible refine jR ?hq ?_);case hq=>rfl)|((first|(with_reducible first|refine jS fun K hK=>?_|refine jT ?_|refine jU ?_)|((with_reducible refine jV ?hy fun K hK=>?_);case hy=>rfl));simp only [go_sem, Nat.reduceEqDiff, Nat.reduceAdd, Nat.reduceMul, Nat.reduceLeDiff, Nat.reduceLT, Int.reduceLT, Int.reduceLE, Int.reduceEq, Int.reduceNeg, Int.reduceToNat, Nat.reducePow, reduceIte, reduceCtorEq, i1, i2, i7, i8, t1, t2, p0, p3, q0, q3, s1, s2, s3])|((with_reducible first|refine jW ?hy ?_|refine jY ?hy ?_);case hy=>rfl)|((with_reducible first|refine jX ?hy ?_|refine jZ ?hy ?_);case hy=>rfl)|((with_reducible refine jF ?hy ?_);case hy=>decide))
       exact fin'
      ·have s3 : ((N b).e.id < (N a).e.id) = False := by simp; omega
       have e1 : heavy (N a).e (N b).e = false := by unfold heavy; simp [h2, h3]
       rw [e1, if_neg (by simp)] at fin'
       repeat' (first|(with_reducible first|refine jA ?_|(refine hK _ _ ?_;clear hK K)|refine jJ fun K hK=>?_|refine jK ?_|refine jL ?_|refine jM ?_|refine jN ?_|refine jO ?_|refine jP ?_|refine jQ ?_|(refine jB ?_;clear hK K)|(refine jC ?_;clear hK K)|refine jD ?_|refine jE ?_|refine jG ?_|refine jH ?_|refine jI ?_)|((with_reducible refine jR ?hq ?_);case hq=>rfl)|((first|(with_reducible first|refine jS fun K hK=>?_|refine jT ?_|refine jU ?_)|((with_reducible refine jV ?hy fun K hK=>?_);case hy=>rfl));simp only [go_sem, Nat.reduceEqDiff, Nat.reduceAdd, Nat.reduceMul, Nat.reduceLeDiff, Nat.reduceLT, Int.reduceLT, Int.reduceLE, Int.reduceEq, Int.reduceNeg, Int.reduceToNat, Nat.reducePow, reduceIte, reduceCtorEq, i1, i2, i7, i8, t1, t2, p0, p3, q0, q3, s1, s2, s3])|((with_reducible first|refine jW ?hy ?_|refine jY ?hy ?_);case hy=>rfl)|((with_reducible first|refine jX ?hy ?_|refine jZ ?hy ?_);case hy=>rfl)|((with_reducible refine jF ?hy ?_);case hy=>decide))
       exact fin'
     ·have s2 : ((N a).e.w == (N b).e.w) = false := by simp [h2]
      have e1 : heavy (N a).e (N b).e = false := by unfold heavy; simp [h1, h2]
      rw [e1, if_neg (by simp)] at fin'
      repeat' (first|(with_reducible first|refine jA ?_|(refine hK _ _ ?_;clear hK K)|refine jJ fun K hK=>?_|refine jK ?_|refine jL ?_|refine jM ?_|refine jN ?_|refine jO ?_|refine jP ?_|refine jQ ?_|(refine jB ?_;clear hK K)|(refine jC ?_;clear hK K)|refine jD ?_|refine jE ?_|refine jG ?_|refine jH ?_|refine jI ?_)|((with_reducible refine jR ?hq ?_);case hq=>rfl)|((first|(with_reducible first|refine jS fun K hK=>?_|refine jT ?_|refine jU ?_)|((with_reducible refine jV ?hy fun K hK=>?_);case hy=>rfl));simp only [go_sem, Nat.reduceEqDiff, Nat.reduceAdd, Nat.reduceMul, Nat.reduceLeDiff, Nat.reduceLT, Int.reduceLT, Int.reduceLE, Int.reduceEq, Int.reduceNeg, Int.reduceToNat, Nat.reducePow, reduceIte, reduceCtorEq, i1, i2, i7, i8, t1, t2, p0, p3, q0, q3, s1, s2])|((with_reducible first|refine jW ?hy ?_|refine jY ?hy ?_);case hy=>rfl)|((with_reducible first|refine jX ?hy ?_|refine jZ ?hy ?_);case hy=>rfl)|((with_reducible refine jF ?hy ?_);case hy=>decide))
      exact fin'
 refine x_drawF (.fork [0, 1, 2, 3, 4, 5, 6, 7, 8, 9, 10, 11, 12, 13, 14, 15] 16 (.lin [] [17, 18, 19]) 17 (.lin [] [16, 18, 19])) rfl (by kernel_rfl) (Cells _) q0 ?_
 refine xf_fork ?_
 have qq := q0
 simp only [Cells, and_true] at qq
 repeat' (first|(with_reducible refine xs_nil ?_)|((first|((with_reducible apply xs_rd);case hi=>rfl)|((with_reducible apply xs_guard_yes);(case hi=>rfl);(case hy=>rfl)));(case hr=>rfl);(case h1=>intro H' hS'; (try simp only [Cells, and_true] at hS');simp only [go_sem, Nat.reduceEqDiff, Nat.reduceAdd, Nat.reduceMul, Nat.reduceLeDiff, Nat.reduceLT, Int.reduceLT, Int.reduceLE, Int.reduceEq, Int.reduceNeg, Int.reduceToNat, Nat.reducePow, reduceIte, reduceCtorEq, ha, hb, hS']; rfl))|((with_reducible refine xs_tail ?hz ?_);case hz=>rfl)|((with_reducible refine xs_keep ?hz ?_);case hz=>first|(with_reducible assumption)|(simp only [go_sem, Nat.reduceEqDiff, Nat.reduceAdd, Nat.reduceMul, Nat.reduceLeDiff, Nat.reduceLT, Int.reduceLT, Int.reduceLE, Int.reduceEq, Int.reduceNeg, Int.reduceToNat, Nat.reducePow, reduceIte, reduceCtorEq, Cells, and_true, ha, hb]; done)|assumption)|((with_reducible apply xs_guard_no);(case hi=>rfl);(case hy=>rfl);(case hS=>assumption))|((first|((with_reducible apply xs_op);(case hi=>rfl))|((with_reducible apply xs_op_yes);(case hi=>rfl);(case hy=>rfl)));(case hr=>rfl);intro K hK; simp only [go_sem, Nat.reduceEqDiff, Nat.reduceAdd, Nat.reduceMul, Nat.reduceLeDiff, Nat.reduceLT, Int.reduceLT, Int.reduceLE, Int.reduceEq, Int.reduceNeg, Int.reduceToNat, Nat.reducePow, reduceIte, reduceCtorEq, ha, hb])|(with_reducible first|refine jA ?_|(refine hK _ _ ?_;clear hK K)|refine jJ fun K hK=>?_|refine jK ?_|refine jL ?_|refine jM ?_|refine jN ?_|refine jO ?_|refine jP ?_|refine jQ ?_|(refine jB ?_;clear hK K)|(refine jC ?_;clear hK K)|refine jD ?_|refine jE ?_|refine jG ?_|refine jH ?_|refine jI ?_)|((with_reducible refine jR ?hq ?_);case hq=>rfl)|((first|(with_reducible first|refine jS fun K hK=>?_|refine jT ?_|refine jU ?_)|((with_reducible refine jV ?hy fun K hK=>?_);case hy=>rfl));simp only [go_sem, Nat.reduceEqDiff, Nat.reduceAdd, Nat.reduceMul, Nat.reduceLeDiff, Nat.reduceLT, Int.reduceLT, Int.reduceLE, Int.reduceEq, Int.reduceNeg, Int.reduceToNat, Nat.reducePow, reduceIte, reduceCtorEq, ha, hb])|((with_reducible first|refine jW ?hy ?_|refine jY ?hy ?_);case hy=>rfl)|((with_reducible first|refine jX ?hy ?_|refine jZ ?hy ?_);case hy=>rfl)|((with_reducible refine jF ?hy ?_);case hy=>decide))
 refine ⟨?_, ?_⟩
 ·repeat' (first|(with_reducible refine xs_nil ?_)|((first|((with_reducible apply xs_rd);case hi=>rfl)|((with_reducible apply xs_guard_yes);(case hi=>rfl);(case hy=>rfl)));(case hr=>rfl);(case h1=>intro H' hS'; (try simp only [Cells, and_true] at hS');simp only [go_sem, Nat.reduceEqDiff, Nat.reduceAdd, Nat.reduceMul, Nat.reduceLeDiff, Nat.reduceLT, Int.reduceLT, Int.reduceLE, Int.reduceEq, Int.reduceNeg, Int.reduceToNat, Nat.reducePow, reduceIte, reduceCtorEq, n1, n2, n3, n4, n5, n6, l5, l6, ht, hg, qq, hcell_push, hcell_top, okW_push, okW_top, hcell_hset_ne, hcell_hset_off, hcell_hset_eq, okW_hset, hset_size, Array.size_push, Nat.lt_add_one, ne_add_one, add_one_ne, Nat.add_assoc, add_same, add_lt_same, Nat.reduceEqDiff, lt_add_k, add_k_ne, ne_add_k, hS']; rfl))|((with_reducible refine xs_tail ?hz ?_);case hz=>rfl)|((with_reducible refine xs_keep ?hz ?_);case hz=>first|(with_reducible assumption)|(simp only [go_sem, Nat.reduceEqDiff, Nat.reduceAdd, Nat.reduceMul, Nat.reduceLeDiff, Nat.reduceLT, Int.reduceLT, Int.reduceLE, Int.reduceEq, Int.reduceNeg, Int.reduceToNat, Nat.reducePow, reduceIte, reduceCtorEq, Cells, and_true, n1, n2, n3, n4, n5, n6, l5, l6, ht, hg, qq, hcell_push, hcell_top, okW_push, okW_top, hcell_hset_ne, hcell_hset_off, hcell_hset_eq, okW_hset, hset_size, Array.size_push, Nat.lt_add_one, ne_add_one, add_one_ne, Nat.add_assoc, add_same, add_lt_same, Nat.reduceEqDiff, lt_add_k, add_k_ne, ne_add_k]; done)|assumption)|((with_reducible apply xs_guard_no);(case hi=>rfl);(case hy=>rfl);(case hS=>assumption))|((first|((with_reducible apply xs_op);(case hi=>rfl))|((with_reducible apply xs_op_yes);(case hi=>rfl);(case hy=>rfl)));(case hr=>rfl);intro K hK; simp only [go_sem, Nat.reduceEqDiff, Nat.reduceAdd, Nat.reduceMul, Nat.reduceLeDiff, Nat.reduceLT, Int.reduceLT, Int.reduceLE, Int.reduceEq, Int.reduceNeg, Int.reduceToNat, Nat.reducePow, reduceIte, reduceCtorEq, n1, n2, n3, n4, n5, n6, l5, l6, ht, hg, qq, hcell_push, hcell_top, okW_push, okW_top, hcell_hset_ne, hcell_hset_off, hcell_hset_eq, okW_hset, hset_size, Array.size_push, Nat.lt_add_one, ne_add_one, add_one_ne, Nat.add_assoc, add_same, add_lt_same, Nat.reduceEqDiff, lt_add_k, add_k_ne, ne_add_k])|(with_reducible first|refine jA ?_|(refine hK _ _ ?_;clear hK K)|refine jJ fun K hK=>?_|refine jK ?_|refine jL ?_|refine jM ?_|refine jN ?_|refine jO ?_|refine jP ?_|refine jQ ?_|(refine jB ?_;clear hK K)|(refine jC ?_;clear hK K)|refine jD ?_|refine jE ?_|refine jG ?_|refine jH ?_|refine jI ?_)|((with_reducible refine jR ?hq ?_);case hq=>rfl)|((first|(with_reducible first|refine jS fun K hK=>?_|refine jT ?_|refine jU ?_)|((with_reducible refine jV ?hy fun K hK=>?_);case hy=>rfl));simp only [go_sem, Nat.reduceEqDiff, Nat.reduceAdd, Nat.reduceMul, Nat.reduceLeDiff, Nat.reduceLT, Int.reduceLT, Int.reduceLE, Int.reduceEq, Int.reduceNeg, Int.reduceToNat, Nat.reducePow, reduceIte, reduceCtorEq, n1, n2, n3, n4, n5, n6, l5, l6, ht, hg, qq, hcell_push, hcell_top, okW_push, okW_top, hcell_hset_ne, hcell_hset_off, hcell_hset_eq, okW_hset, hset_size, Array.size_push, Nat.lt_add_one, ne_add_one, add_one_ne, Nat.add_assoc, add_same, add_lt_same, Nat.reduceEqDiff, lt_add_k, add_k_ne, ne_add_k])|((with_reducible first|refine jW ?hy ?_|refine jY ?hy ?_);case hy=>rfl)|((with_reducible first|refine jX ?hy ?_|refine jZ ?hy ?_);case hy=>rfl)|((with_reducible refine jF ?hy ?_);case hy=>decide))
  refine xf_lin ?_
  repeat' (first|(with_reducible refine xs_nil ?_)|((first|((with_reducible apply xs_rd);case hi=>rfl)|((with_reducible apply xs_guard_yes);(case hi=>rfl);(case hy=>rfl)));(case hr=>rfl);(case h1=>intro H' hS'; (try simp only [Cells, and_true] at hS');simp only [go_sem, Nat.reduceEqDiff, Nat.reduceAdd, Nat.reduceMul, Nat.reduceLeDiff, Nat.reduceLT, Int.reduceLT, Int.reduceLE, Int.reduceEq, Int.reduceNeg, Int.reduceToNat, Nat.reducePow, reduceIte, reduceCtorEq, qq, n1, n2, n3, n4, n5, n6, l5, l6, ht, hg, hcell_push, hcell_top, okW_push, okW_top, hcell_hset_ne, hcell_hset_off, hcell_hset_eq, okW_hset, hset_size, Array.size_push, Nat.lt_add_one, ne_add_one, add_one_ne, Nat.add_assoc, add_same, add_lt_same, Nat.reduceEqDiff, lt_add_k, add_k_ne, ne_add_k, hS']; rfl))|((with_reducible refine xs_tail ?hz ?_);case hz=>rfl)|((with_reducible refine xs_keep ?hz ?_);case hz=>first|(with_reducible assumption)|(simp only [go_sem, Nat.reduceEqDiff, Nat.reduceAdd, Nat.reduceMul, Nat.reduceLeDiff, Nat.reduceLT, Int.reduceLT, Int.reduceLE, Int.reduceEq, Int.reduceNeg, Int.reduceToNat, Nat.reducePow, reduceIte, reduceCtorEq, Cells, and_true, qq, n1, n2, n3, n4, n5, n6, l5, l6, ht, hg, hcell_push, hcell_top, okW_push, okW_top, hcell_hset_ne, hcell_hset_off, hcell_hset_eq, okW_hset, hset_size, Array.size_push, Nat.lt_add_one, ne_add_one, add_one_ne, Nat.add_assoc, add_same, add_lt_same, Nat.reduceEqDiff, lt_add_k, add_k_ne, ne_add_k]; done)|assumption)|((with_reducible apply xs_guard_no);(case hi=>rfl);(case hy=>rfl);(case hS=>assumption))|((first|((with_reducible apply xs_op);(case hi=>rfl))|((with_reducible apply xs_op_yes);(case hi=>rfl);(case hy=>rfl)));(case hr=>rfl);intro K hK; simp only [go_sem, Nat.reduceEqDiff, Nat.reduceAdd, Nat.reduceMul, Nat.reduceLeDiff, Nat.reduceLT, Int.reduceLT, Int.reduceLE, Int.reduceEq, Int.reduceNeg, Int.reduceToNat, Nat.reducePow, reduceIte, reduceCtorEq, qq, n1, n2, n3, n4, n5, n6, l5, l6, ht, hg, hcell_push, hcell_top, okW_push, okW_top, hcell_hset_ne, hcell_hset_off, hcell_hset_eq, okW_hset, hset_size, Array.size_push, Nat.lt_add_one, ne_add_one, add_one_ne, Nat.add_assoc, add_same, add_lt_same, Nat.reduceEqDiff, lt_add_k, add_k_ne, ne_add_k])|(with_reducible first|refine jA ?_|(refine hK _ _ ?_;clear hK K)|refine jJ fun K hK=>?_|refine jK ?_|refine jL ?_|refine jM ?_|refine jN ?_|refine jO ?_|refine jP ?_|refine jQ ?_|(refine jB ?_;clear hK K)|(refine jC ?_;clear hK K)|refine jD ?_|refine jE ?_|refine jG ?_|refine jH ?_|refine jI ?_)|((with_reducible refine jR ?hq ?_);case hq=>rfl)|((first|(with_reducible first|refine jS fun K hK=>?_|refine jT ?_|refine jU ?_)|((with_reducible refine jV ?hy fun K hK=>?_);case hy=>rfl));simp only [go_sem, Nat.reduceEqDiff, Nat.reduceAdd, Nat.reduceMul, Nat.reduceLeDiff, Nat.reduceLT, Int.reduceLT, Int.reduceLE, Int.reduceEq, Int.reduceNeg, Int.reduceToNat, Nat.reducePow, reduceIte, reduceCtorEq, qq, n1, n2, n3, n4, n5, n6, l5, l6, ht, hg, hcell_push, hcell_top, okW_push, okW_top, hcell_hset_ne, hcell_hset_off, hcell_hset_eq, okW_hset, hset_size, Array.size_push, Nat.lt_add_one, ne_add_one, add_one_ne, Nat.add_assoc, add_same, add_lt_same, Nat.reduceEqDiff, lt_add_k, add_k_ne, ne_add_k])|((with_reducible first|refine jW ?hy ?_|refine jY ?hy ?_);case hy=>rfl)|((with_reducible first|refine jX ?hy ?_|refine jZ ?hy ?_);case hy=>rfl)|((with_reducible refine jF ?hy ?_);case hy=>decide))
  exact tail H.size (H.size + 1) _ _ rfl rfl rfl rfl (by ((repeat (first | refine Fr.set ?_ (by simp) _ | refine Fr.push ?_ _)); exact Fr.refl _ _)) (by simp only [go_sem, Nat.reduceEqDiff, Nat.reduceAdd, Nat.reduceMul, Nat.reduceLeDiff, Nat.reduceLT, Int.reduceLT, Int.reduceLE, Int.reduceEq, Int.reduceNeg, Int.reduceToNat, Nat.reducePow, reduceIte, reduceCtorEq, Cells, and_true, hcell_push, hcell_top, okW_push, okW_top, hcell_hset_ne, hcell_hset_off, hcell_hset_eq, okW_hset, hset_size, Array.size_push, Nat.lt_add_one, ne_add_one, add_one_ne, Nat.add_assoc, add_same, add_lt_same, Nat.reduceEqDiff, lt_add_k, add_k_ne, ne_add_k])
 ·repeat' (first|(with_reducible refine xs_nil ?_)|((first|((with_reducible apply xs_rd);case hi=>rfl)|((with_reducible apply xs_guard_yes);(case hi=>rfl);(case hy=>rfl)));(case hr=>rfl);(case h1=>intro H' hS'; (try simp only [Cells, and_true] at hS');simp only [go_sem, Nat.reduceEqDiff, Nat.reduceAdd, Nat.reduceMul, Nat.reduceLeDiff, Nat.reduceLT, Int.reduceLT, Int.reduceLE, Int.reduceEq, Int.reduceNeg, Int.reduceToNat, Nat.reducePow, reduceIte, reduceCtorEq, n1, n2, n3, n4, n5, n6, l5, l6, ht, hg, qq, hcell_push, hcell_top, okW_push, okW_top, hcell_hset_ne, hcell_hset_off, hcell_hset_eq, okW_hset, hset_size, Array.size_push, Nat.lt_add_one, ne_add_one, add_one_ne, Nat.add_assoc, add_same, add_lt_same, Nat.reduceEqDiff, lt_add_k, add_k_ne, ne_add_k, hS']; rfl))|((with_reducible refine xs_tail ?hz ?_);case hz=>rfl)|((with_reducible refine xs_keep ?hz ?_);case hz=>first|(with_reducible assumption)|(simp only [go_sem, Nat.reduceEqDiff, Nat.reduceAdd, Nat.reduceMul, Nat.reduceLeDiff, Nat.reduceLT, Int.reduceLT, Int.reduceLE, Int.reduceEq, Int.reduceNeg, Int.reduceToNat, Nat.reducePow, reduceIte, reduceCtorEq, Cells, and_true, n1, n2, n3, n4, n5, n6, l5, l6, ht, hg, qq, hcell_push, hcell_top, okW_push, okW_top, hcell_hset_ne, hcell_hset_off, hcell_hset_eq, okW_hset, hset_size, Array.size_push, Nat.lt_add_one, ne_add_one, add_one_ne, Nat.add_assoc, add_same, add_lt_same, Nat.reduceEqDiff, lt_add_k, add_k_ne, ne_add_k]; done)|assumption)|((with_reducible apply xs_guard_no);(case hi=>rfl);(case hy=>rfl);(case hS=>assumption))|((first|((with_reducible apply xs_op);(case hi=>rfl))|((with_reducible apply xs_op_yes);(case hi=>rfl);(case hy=>rfl)));(case hr=>rfl);intro K hK; simp only [go_sem, Nat.reduceEqDiff, Nat.reduceAdd, Nat.reduceMul, Nat.reduceLeDiff, Nat.reduceLT, Int.reduceLT, Int.reduceLE, Int.reduceEq, Int.reduceNeg, Int.reduceToNat, Nat.reducePow, reduceIte, reduceCtorEq, n1, n2, n3, n4, n5, n6, l5, l6, ht, hg, qq, hcell_push, hcell_top, okW_push, okW_top, hcell_hset_ne, hcell_hset_off, hcell_hset_eq, okW_hset, hset_size, Array.size_push, Nat.lt_add_one, ne_add_one, add_one_ne, Nat.add_assoc, add_same, add_lt_same, Nat.reduceEqDiff, lt_add_k, add_k_ne, ne_add_k])|(with_reducible first|refine jA ?_|(refine hK _ _ ?_;clear hK K)|refine jJ fun K hK=>?_|refine jK ?_|refine jL ?_|refine jM ?_|refine jN ?_|refine jO ?_|refine jP ?_|refine jQ ?_|(refine jB ?_;clear hK K)|(refine jC ?_;clear hK K)|refine jD ?_|refine jE ?_|refine jG ?_|refine jH ?_|refine jI ?_)|((with_reducible refine jR ?hq ?_);case hq=>rfl)|((first|(with_reducible first|refine jS fun K hK=>?_|refine jT ?_|refine jU ?_)|((with_reducible refine jV ?hy fun K hK=>?_);case hy=>rfl));simp only [go_sem, Nat.reduceEqDiff, Nat.reduceAdd, Nat.reduceMul, Nat.reduceLeDiff, Nat.reduceLT, Int.reduceLT, Int.reduceLE, Int.reduceEq, Int.reduceNeg, Int.reduceToNat, Nat.reducePow, reduceIte, reduceCtorEq, n1, n2, n3, n4, n5, n6, l5, l6, ht, hg, qq, hcell_push, hcell_top, okW_push, okW_top, hcell_hset_ne, hcell_hset_off, hcell_hset_eq, okW_hset, hset_size, Array.size_push, Nat.lt_add_one, ne_add_one, add_one_ne, Nat.add_assoc, add_same, add_lt_same, Nat.reduceEqDiff, lt_add_k, add_k_ne, ne_add_k])|((with_reducible first|refine jW ?hy ?_|refine jY ?hy ?_);case hy=>rfl)|((with_reducible first|refine jX ?hy ?_|refine jZ ?hy ?_);case hy=>rfl)|((with_reducible refine jF ?hy ?_);case hy=>decide))
  refine xf_lin ?_
  repeat' (first|(with_reducible refine xs_nil ?_)|((first|((with_reducible apply xs_rd);case hi=>rfl)|((with_reducible apply xs_guard_yes);(case hi=>rfl);(case hy=>rfl)));(case hr=>rfl);(case h1=>intro H' hS'; (try simp only [Cells, and_true] at hS');simp only [go_sem, Nat.reduceEqDiff, Nat.reduceAdd, Nat.reduceMul, Nat.reduceLeDiff, Nat.reduceLT, Int.reduceLT, Int.reduceLE, Int.reduceEq, Int.reduceNeg, Int.reduceToNat, Nat.reducePow, reduceIte, reduceCtorEq, qq, n1, n2, n3, n4, n5, n6, l5, l6, ht, hg, hcell_push, hcell_top, okW_push, okW_top, hcell_hset_ne, hcell_hset_off, hcell_hset_eq, okW_hset, hset_size, Array.size_push, Nat.lt_add_one, ne_add_one, add_one_ne, Nat.add_assoc, add_same, add_lt_same, Nat.reduceEqDiff, lt_add_k, add_k_ne, ne_add_k, hS']; rfl))|((with_reducible refine xs_tail ?hz ?_);case hz=>rfl)|((with_reducible refine xs_keep ?hz ?_);case hz=>first|(with_reducible assumption)|(simp only [go_sem, Nat.reduceEqDiff, Nat.reduceAdd, Nat.reduceMul, Nat.reduceLeDiff, Nat.reduceLT, Int.reduceLT, Int.reduceLE, Int.reduceEq, Int.reduceNeg, Int.reduceToNat, Nat.reducePow, reduceIte, reduceCtorEq, Cells, and_true, qq, n1, n2, n3, n4, n5, n6, l5, l6, ht, hg, hcell_push, hcell_top, okW_push, okW_top, hcell_hset_ne, hcell_hset_off, hcell_hset_eq, okW_hset, hset_size, Array.size_push, Nat.lt_add_one, ne_add_one, add_one_ne, Nat.add_assoc, add_same, add_lt_same, Nat.reduceEqDiff, lt_add_k, add_k_ne, ne_add_k]; done)|assumption)|((with_reducible apply xs_guard_no);(case hi=>rfl);(case hy=>rfl);(case hS=>assumption))|((first|((with_reducible apply xs_op);(case hi=>rfl))|((with_reducible apply xs_op_yes);(case hi=>rfl);(case hy=>rfl)));(case hr=>rfl);intro K hK; simp only [go_sem, Nat.reduceEqDiff, Nat.reduceAdd, Nat.reduceMul, Nat.reduceLeDiff, Nat.reduceLT, Int.reduceLT, Int.reduceLE, Int.reduceEq, Int.reduceNeg, Int.reduceToNat, Nat.reducePow, reduceIte, reduceCtorEq, qq, n1, n2, n3, n4, n5, n6, l5, l6, ht, hg, hcell_push, hcell_top, okW_push, okW_top, hcell_hset_ne, hcell_hset_off, hcell_hset_eq, okW_hset, hset_size, Array.size_push, Nat.lt_add_one, ne_add_one, add_one_ne, Nat.add_assoc, add_same, add_lt_same, Nat.reduceEqDiff, lt_add_k, add_k_ne, ne_add_k])|(with_reducible first|refine jA ?_|(refine hK _ _ ?_;clear hK K)|refine jJ fun K hK=>?_|refine jK ?_|refine jL ?_|refine jM ?_|refine jN ?_|refine jO ?_|refine jP ?_|refine jQ ?_|(refine jB ?_;clear hK K)|(refine jC ?_;clear hK K)|refine jD ?_|refine jE ?_|refine jG ?_|refine jH ?_|refine jI ?_)|((with_reducible refine jR ?hq ?_);case hq=>rfl)|((first|(with_reducible first|refine jS fun K hK=>?_|refine jT ?_|refine jU ?_)|((with_reducible refine jV ?hy fun K hK=>?_);case hy=>rfl));simp only [go_sem, Nat.reduceEqDiff, Nat.reduceAdd, Nat.reduceMul, Nat.reduceLeDiff, Nat.reduceLT, Int.reduceLT, Int.reduceLE, Int.reduceEq, Int.reduceNeg, Int.reduceToNat, Nat.reducePow, reduceIte, reduceCtorEq, qq, n1, n2, n3, n4, n5, n6, l5, l6, ht, hg, hcell_push, hcell_top, okW_push, okW_top, hcell_hset_ne, hcell_hset_off, hcell_hset_eq, okW_hset, hset_size, Array.size_push, Nat.lt_add_one, ne_add_one, add_one_ne, Nat.add_assoc, add_same, add_lt_same, Nat.reduceEqDiff, lt_add_k, add_k_ne, ne_add_k])|((with_reducible first|refine jW ?hy ?_|refine jY ?hy ?_);case hy=>rfl)|((with_reducible first|refine jX ?hy ?_|refine jZ ?hy ?_);case hy=>rfl)|((with_reducible refine jF ?hy ?_);case hy=>decide))
  exact tail (H.size + 1) H.size _ _ rfl rfl rfl rfl (by ((repeat (first | refine Fr.set ?_ (by simp) _ | refine Fr.push ?_ _)); exact Fr.refl _ _)) (by simp only [go_sem, Nat.reduceEqDiff, Nat.reduceAdd, Nat.reduceMul, Nat.reduceLeDiff, Nat.reduceLT, Int.reduceLT, Int.reduceLE, Int.reduceEq, Int.reduceNeg, Int.reduceToNat, Nat.reducePow, reduceIte, reduceCtorEq, Cells, and_true, hcell_push, hcell_top, okW_push, okW_top, hcell_hset_ne, hcell_hset_off, hcell_hset_eq, okW_hset, hset_size, Array.size_push, Nat.lt_add_one, ne_add_one, add_one_ne, Nat.add_assoc, add_same, add_lt_same, Nat.reduceEqDiff, lt_add_k, add_k_ne, ne_add_k])
end
section
variable {H H' : Heap} {t g c len : Nat} {N : Nodes} {K : Value → Heap → Prop}
theorem tabI : ∃ tk, tab Try.prog 3 = some tk ∧ tk.desc = .int .i64 ∧ tk.size = 1 := by
 have h : (tab Try.prog 3).map (fun tk => (decide (tk.size = 1), match tk.desc with | .int .i64 => true | _ => false)) = some (true, true) := by kernel_rfl
 cases ht : tab Try.prog 3 with
 | none => rw [ht] at h; cases h
 | some tk =>
  rw [ht] at h
  simp only [Option.map_some, Option.some.injEq, Prod.mk.injEq, decide_eq_true_iff] at h
  refine ⟨tk, rfl, ?_, h.1⟩
  have h2 := h.2
  split at h2
  ·rename_i hd; exact hd
  ·cases h2
theorem rd_partI {H : Heap} {g : Nat → Value} {X : Sem Value} {v : Value} (hX : X = pure v) : Rd Try.prog H (do let b ← isAgg 3; if b = true then do let n ← sizeOf 3; pure (g n) else X) v := by
 obtain ⟨tk, h1, h2, _⟩ := tabI
 have ha := rd_isAgg (H := H) h1
 rw [h2] at ha
 refine Rd.bind ha ?_
 rw [if_neg (by simp [aggD]), hX]
 exact Rd.ret _
theorem setBest (hN : NA H t g c len N) {h b : Nat} (hh : h < len) (hb : b < len) : NA (hset H ⟨g, h * 10 + 9, none⟩ (.int .i64 (b : Nat))) t g c len (upd N h { N h with best := b }) :=
 hN.set (j := 9) hh (by omega) rfl (hN.cl.upd (hN.cl.up h hh) (hN.cl.l h hh) (hN.cl.r h hh) hb)
theorem pull_ok {h : Nat} (hN : NA H t g c len N) (hh : h < len) (fin : ∀ H', NA H' t g c len (pullN N h) → Fr (· = g) H H' → K (.tuple #[]) H') :
  CallsH Try.prog 53 #[.pointer (some ⟨t, 0, none⟩), .int .i64 (h : Nat)] H K := by
 have hd := hN.hd
 have c1 := hN.cell (j := 1) hh rfl
 have c2 := hN.cell (j := 2) hh rfl
 have hl := hN.cl.l h hh
 have hr := hN.cl.r h hh
 have l9 := hN.cell (j := 9) hl rfl
 have r9 := hN.cell (j := 9) hr rfl
 refine call53 (by simp) ?_
 simp only [Try.f53, Option.getD_some]
 repeat' (first|(with_reducible first|refine jA ?_|(refine hK _ _ ?_;clear hK K)|refine jJ fun K hK=>?_|refine jK ?_|refine jL ?_|refine jM ?_|refine jN ?_|refine jO ?_|refine jP ?_|refine jQ ?_|(refine jB ?_;clear hK K)|(refine jC ?_;clear hK K)|refine jD ?_|refine jE ?_|refine jG ?_|refine jH ?_|refine jI ?_)|((with_reducible refine jR ?hq ?_);case hq=>rfl)|((first|(with_reducible first|refine jS fun K hK=>?_|refine jT ?_|refine jU ?_)|((with_reducible refine jV ?hy fun K hK=>?_);case hy=>rfl));simp only [go_sem, Nat.reduceEqDiff, Nat.reduceAdd, Nat.reduceMul, Nat.reduceLeDiff, Nat.reduceLT, Int.reduceLT, Int.reduceLE, Int.reduceEq, Int.reduceNeg, Int.reduceToNat, Nat.reducePow, reduceIte, reduceCtorEq, hd, hh, c1, c2, hl, hr, l9, r9])|((with_reducible first|refine jW ?hy ?_|refine jY ?hy ?_);case hy=>rfl)|((with_reducible first|refine jX ?hy ?_|refine jZ ?hy ?_);case hy=>rfl)|((with_reducible refine jF ?hy ?_);case hy=>decide))
 refine heavier_ok hN (hN.cl.best _ hl) (hN.cl.best _ hr) ?_
 intro H1 hf1
 have hN1 := hN.grow hf1
 have w9 := hN1.okw hh 9 (by omega)
 have hb := heavN_lt (N := N) (hN.cl.best _ hl) (hN.cl.best _ hr)
 have hN2 := setBest hN1 hh hb
 have hf2 := (hf1.mono (S' := (· = g)) fun _ _ h => h.elim).trans (hset_fr H1 g (h * 10 + 9) (.int .i64 (heavN N (N (N h).l).best (N (N h).r).best : Nat)))
 have e1 : upd N h { N h with best := heavN N (N (N h).l).best (N (N h).r).best } = pull1 N h := rfl
 rw [e1] at hN2
 have c4 := hN2.cell (j := 4) hh rfl
 have hd2 := hN2.hd
 have c9 := hN2.cell (j := 9) hh rfl
 have e2 : (pull1 N h h).isEdge = (N h).isEdge := by unfold pull1; rw [upd_same]
 rw [e2] at c4
 unfold pullN at fin
 cases hE : (N h).isEdge with
 | false =>
  rw [hE] at c4 fin
  rw [if_neg (by simp)] at fin
  repeat' (first|(with_reducible first|refine jA ?_|(refine hK _ _ ?_;clear hK K)|refine jJ fun K hK=>?_|refine jK ?_|refine jL ?_|refine jM ?_|refine jN ?_|refine jO ?_|refine jP ?_|refine jQ ?_|(refine jB ?_;clear hK K)|(refine jC ?_;clear hK K)|refine jD ?_|refine jE ?_|refine jG ?_|refine jH ?_|refine jI ?_)|((with_reducible refine jR ?hq ?_);case hq=>rfl)|((first|(with_reducible first|refine jS fun K hK=>?_|refine jT ?_|refine jU ?_)|((with_reducible refine jV ?hy fun K hK=>?_);case hy=>rfl));simp only [go_sem, Nat.reduceEqDiff, Nat.reduceAdd, Nat.reduceMul, Nat.reduceLeDiff, Nat.reduceLT, Int.reduceLT, Int.reduceLE, Int.reduceEq, Int.reduceNeg, Int.reduceToNat, Nat.reducePow, reduceIte, reduceCtorEq, w9, c4])|((with_reducible first|refine jW ?hy ?_|refine jY ?hy ?_);case hy=>rfl)|((with_reducible first|refine jX ?hy ?_|refine jZ ?hy ?_);case hy=>rfl)|((with_reducible refine jF ?hy ?_);case hy=>decide))
  exact fin _ hN2 hf2
 | true =>
  rw [hE] at c4 fin
  rw [if_pos rfl] at fin
  repeat' (first|(with_reducible first|refine jA ?_|(refine hK _ _ ?_;clear hK K)|refine jJ fun K hK=>?_|refine jK ?_|refine jL ?_|refine jM ?_|refine jN ?_|refine jO ?_|refine jP ?_|refine jQ ?_|(refine jB ?_;clear hK K)|(refine jC ?_;clear hK K)|refine jD ?_|refine jE ?_|refine jG ?_|refine jH ?_|refine jI ?_)|((with_reducible refine jR ?hq ?_);case hq=>rfl)|((first|(with_reducible first|refine jS fun K hK=>?_|refine jT ?_|refine jU ?_)|((with_reducible refine jV ?hy fun K hK=>?_);case hy=>rfl));simp only [go_sem, Nat.reduceEqDiff, Nat.reduceAdd, Nat.reduceMul, Nat.reduceLeDiff, Nat.reduceLT, Int.reduceLT, Int.reduceLE, Int.reduceEq, Int.reduceNeg, Int.reduceToNat, Nat.reducePow, reduceIte, reduceCtorEq, w9, c4, c9, hd2, hh])|((with_reducible first|refine jW ?hy ?_|refine jY ?hy ?_);case hy=>rfl)|((with_reducible first|refine jX ?hy ?_|refine jZ ?hy ?_);case hy=>rfl)|((with_reducible refine jF ?hy ?_);case hy=>decide))
  refine heavier_ok hN2 (hN2.cl.best h hh) hh ?_
  intro H3 hf3
  have hN3 := hN2.grow hf3
  have w9' := hN3.okw hh 9 (by omega)
  have hb' := heavN_lt (N := pull1 N h) (hN2.cl.best h hh) hh
  repeat' (first|(with_reducible first|refine jA ?_|(refine hK _ _ ?_;clear hK K)|refine jJ fun K hK=>?_|refine jK ?_|refine jL ?_|refine jM ?_|refine jN ?_|refine jO ?_|refine jP ?_|refine jQ ?_|(refine jB ?_;clear hK K)|(refine jC ?_;clear hK K)|refine jD ?_|refine jE ?_|refine jG ?_|refine jH ?_|refine jI ?_)|((with_reducible refine jR ?hq ?_);case hq=>rfl)|((first|(with_reducible first|refine jS fun K hK=>?_|refine jT ?_|refine jU ?_)|((with_reducible refine jV ?hy fun K hK=>?_);case hy=>rfl));simp only [go_sem, Nat.reduceEqDiff, Nat.reduceAdd, Nat.reduceMul, Nat.reduceLeDiff, Nat.reduceLT, Int.reduceLT, Int.reduceLE, Int.reduceEq, Int.reduceNeg, Int.reduceToNat, Nat.reducePow, reduceIte, reduceCtorEq, w9'])|((with_reducible first|refine jW ?hy ?_|refine jY ?hy ?_);case hy=>rfl)|((with_reducible first|refine jX ?hy ?_|refine jZ ?hy ?_);case hy=>rfl)|((with_reducible refine jF ?hy ?_);case hy=>decide))
  exact fin _ (setBest hN3 hh hb') ((hf2.trans (hf3.mono fun _ _ h => h.elim)).trans (hset_fr _ _ _ _))
theorem push_ok {h : Nat} (hN : NA H t g c len N) (hh : h < len) (fin : ∀ H', NA H' t g c len (pushN N h) → Fr (· = g) H H' → K (.tuple #[]) H') :
  CallsH Try.prog 30 #[.pointer (some ⟨t, 0, none⟩), .int .i64 (h : Nat)] H K := by
 have hd := hN.hd
 have c3 := hN.cell (j := 3) hh rfl
 unfold pushN at fin
 refine call30 (by simp) ?_
 simp only [Try.f30, Option.getD_some]
 cases hT : (N h).turned with
 | false =>
  rw [hT] at c3 fin
  rw [if_neg (by simp)] at fin
  repeat' (first|(with_reducible first|refine jA ?_|(refine hK _ _ ?_;clear hK K)|refine jJ fun K hK=>?_|refine jK ?_|refine jL ?_|refine jM ?_|refine jN ?_|refine jO ?_|refine jP ?_|refine jQ ?_|(refine jB ?_;clear hK K)|(refine jC ?_;clear hK K)|refine jD ?_|refine jE ?_|refine jG ?_|refine jH ?_|refine jI ?_)|((with_reducible refine jR ?hq ?_);case hq=>rfl)|((first|(with_reducible first|refine jS fun K hK=>?_|refine jT ?_|refine jU ?_)|((with_reducible refine jV ?hy fun K hK=>?_);case hy=>rfl));simp only [go_sem, Nat.reduceEqDiff, Nat.reduceAdd, Nat.reduceMul, Nat.reduceLeDiff, Nat.reduceLT, Int.reduceLT, Int.reduceLE, Int.reduceEq, Int.reduceNeg, Int.reduceToNat, Nat.reducePow, reduceIte, reduceCtorEq, hd, hh, c3])|((with_reducible first|refine jW ?hy ?_|refine jY ?hy ?_);case hy=>rfl)|((with_reducible first|refine jX ?hy ?_|refine jZ ?hy ?_);case hy=>rfl)|((with_reducible refine jF ?hy ?_);case hy=>decide))
  exact fin _ hN (.refl _ _)
 | true =>
  rw [hT] at c3 fin
  rw [if_pos rfl] at fin
  have w3 := hN.okw hh 3 (by omega)
  have hN1 := hN.set (j := 3) (v := .bool false) (r := { N h with turned := false }) hh (by omega) rfl (hN.cl.upd (hN.cl.up h hh) (hN.cl.l h hh) (hN.cl.r h hh) (hN.cl.best h hh))
  have hf1 := hset_fr H g (h * 10 + 3) (.bool false)
  have d1 := hN1.cell (j := 1) hh rfl
  have d2 := hN1.cell (j := 2) hh rfl
  rw [upd_same] at d1 d2
  have hl := hN.cl.l h hh
  have hr := hN.cl.r h hh
  generalize hM : upd N h { N h with turned := false } = M at hN1 fin
  repeat' (first|(with_reducible first|refine jA ?_|(refine hK _ _ ?_;clear hK K)|refine jJ fun K hK=>?_|refine jK ?_|refine jL ?_|refine jM ?_|refine jN ?_|refine jO ?_|refine jP ?_|refine jQ ?_|(refine jB ?_;clear hK K)|(refine jC ?_;clear hK K)|refine jD ?_|refine jE ?_|refine jG ?_|refine jH ?_|refine jI ?_)|((with_reducible refine jR ?hq ?_);case hq=>rfl)|((first|(with_reducible first|refine jS fun K hK=>?_|refine jT ?_|refine jU ?_)|((with_reducible refine jV ?hy fun K hK=>?_);case hy=>rfl));simp only [go_sem, Nat.reduceEqDiff, Nat.reduceAdd, Nat.reduceMul, Nat.reduceLeDiff, Nat.reduceLT, Int.reduceLT, Int.reduceLE, Int.reduceEq, Int.reduceNeg, Int.reduceToNat, Nat.reducePow, reduceIte, reduceCtorEq, hd, hh, c3, w3, d1, d2])|((with_reducible first|refine jW ?hy ?_|refine jY ?hy ?_);case hy=>rfl)|((with_reducible first|refine jX ?hy ?_|refine jZ ?hy ?_);case hy=>rfl)|((with_reducible refine jF ?hy ?_);case hy=>decide))
  have hd1 := hN1.hd
  generalize hset H ⟨g, h * 10 + 3, none⟩ (.bool false) = H1 at hN1 hf1 hd1
  obtain ⟨SS, hSS⟩ : ∃ SS : Nat → Nodes, SS = fun i => if i = 0 then M else if i = 1 then flipK M (N h).l else flipK (flipK M (N h).l) (N h).r := ⟨_, rfl⟩
  refine x_loop (fun m e' H' => ∃ i : Nat, i ≤ 2 ∧ e' 28 = .int .i64 (i : Nat) ∧ m = 2 - i ∧ NA H' t g c len (SS i) ∧ Fr (· = g) H H') 2 ⟨0, by omega, rfl, rfl, by rw [hSS]; exact hN1, hf1⟩ ?_
  rintro m e1 H2 ⟨i, hi, i28, rfl, hN2, hf2⟩ hoff
  have i0 : e1 0 = .pointer (some ⟨t, 0, none⟩) := (hoff 0 rfl).trans rfl
  have i27 : e1 27 = .agg #[.int .i64 (N h).l, .int .i64 (N h).r] := (hoff 27 rfl).trans rfl
  clear hoff
  by_cases hlt : i < 2
  ·obtain ⟨k, hk, hkl, hS'⟩ : ∃ k : Nat, (#[.int .i64 (N h).l, .int .i64 (N h).r] : Array Value)[i]? = some (.int .i64 (k : Nat)) ∧ k < len ∧ SS (i + 1) = flipK (SS i) k := by
    rcases (show i = 0 ∨ i = 1 by omega) with rfl | rfl
    ·exact ⟨(N h).l, rfl, hl, by rw [hSS]; rfl⟩
    ·exact ⟨(N h).r, rfl, hr, by rw [hSS]; rfl⟩
   have hltI : ((i : Int) < 2) = True := by simp; omega
   have ew : IntKind.i64.wrap ((i : Int) + 1) = ((i + 1 : Nat) : Int) := by rw [wrap_i64] <;> omega
   repeat' (first|(with_reducible first|refine jA ?_|(refine hK _ _ ?_;clear hK K)|refine jJ fun K hK=>?_|refine jK ?_|refine jL ?_|refine jM ?_|refine jN ?_|refine jO ?_|refine jP ?_|refine jQ ?_|(refine jB ?_;clear hK K)|(refine jC ?_;clear hK K)|refine jD ?_|refine jE ?_|refine jG ?_|refine jH ?_|refine jI ?_)|((with_reducible refine jR ?hq ?_);case hq=>rfl)|((first|(with_reducible first|refine jS fun K hK=>?_|refine jT ?_|refine jU ?_)|((with_reducible refine jV ?hy fun K hK=>?_);case hy=>rfl));simp only [go_sem, Nat.reduceEqDiff, Nat.reduceAdd, Nat.reduceMul, Nat.reduceLeDiff, Nat.reduceLT, Int.reduceLT, Int.reduceLE, Int.reduceEq, Int.reduceNeg, Int.reduceToNat, Nat.reducePow, reduceIte, reduceCtorEq, i28, i27, hlt, hltI, indexVX])|((with_reducible first|refine jW ?hy ?_|refine jY ?hy ?_);case hy=>rfl)|((with_reducible first|refine jX ?hy ?_|refine jZ ?hy ?_);case hy=>rfl)|((with_reducible refine jF ?hy ?_);case hy=>decide))
   refine ⟨_, rd_partI (v := .int .i64 (k : Nat)) (by rw [show ([Value.int .i64 (N h).l, .int .i64 (N h).r] : List Value)[i]? = some (.int .i64 (k : Nat)) from by simpa using hk]), ?_⟩
   by_cases hk0 : k = 0
   ·have t1 : ((k : Int) != 0) = false := by simp [hk0]
    rw [hk0] at hS'
    unfold flipK at hS'
    rw [if_pos rfl] at hS'
    repeat' (first|(with_reducible first|refine jA ?_|(refine hK _ _ ?_;clear hK K)|refine jJ fun K hK=>?_|refine jK ?_|refine jL ?_|refine jM ?_|refine jN ?_|refine jO ?_|refine jP ?_|refine jQ ?_|(refine jB ?_;clear hK K)|(refine jC ?_;clear hK K)|refine jD ?_|refine jE ?_|refine jG ?_|refine jH ?_|refine jI ?_)|((with_reducible refine jR ?hq ?_);case hq=>rfl)|((first|(with_reducible first|refine jS fun K hK=>?_|refine jT ?_|refine jU ?_)|((with_reducible refine jV ?hy fun K hK=>?_);case hy=>rfl));simp only [go_sem, Nat.reduceEqDiff, Nat.reduceAdd, Nat.reduceMul, Nat.reduceLeDiff, Nat.reduceLT, Int.reduceLT, Int.reduceLE, Int.reduceEq, Int.reduceNeg, Int.reduceToNat, Nat.reducePow, reduceIte, reduceCtorEq, t1, i28, ew])|((with_reducible first|refine jW ?hy ?_|refine jY ?hy ?_);case hy=>rfl)|((with_reducible first|refine jX ?hy ?_|refine jZ ?hy ?_);case hy=>rfl)|((with_reducible refine jF ?hy ?_);case hy=>decide))
    exact loop_normal (m' := 2 - (i + 1)) (by omega) ⟨i + 1, by omega, rfl, rfl, by rw [hS']; exact hN2, hf2⟩
   ·have t1 : ((k : Int) != 0) = true := by simp [hk0]
    unfold flipK at hS'
    rw [if_neg hk0] at hS'
    have hd2 := hN2.hd
    repeat' (first|(with_reducible first|refine jA ?_|(refine hK _ _ ?_;clear hK K)|refine jJ fun K hK=>?_|refine jK ?_|refine jL ?_|refine jM ?_|refine jN ?_|refine jO ?_|refine jP ?_|refine jQ ?_|(refine jB ?_;clear hK K)|(refine jC ?_;clear hK K)|refine jD ?_|refine jE ?_|refine jG ?_|refine jH ?_|refine jI ?_)|((with_reducible refine jR ?hq ?_);case hq=>rfl)|((first|(with_reducible first|refine jS fun K hK=>?_|refine jT ?_|refine jU ?_)|((with_reducible refine jV ?hy fun K hK=>?_);case hy=>rfl));simp only [go_sem, Nat.reduceEqDiff, Nat.reduceAdd, Nat.reduceMul, Nat.reduceLeDiff, Nat.reduceLT, Int.reduceLT, Int.reduceLE, Int.reduceEq, Int.reduceNeg, Int.reduceToNat, Nat.reducePow, reduceIte, reduceCtorEq, t1, i0, hd2, hkl])|((with_reducible first|refine jW ?hy ?_|refine jY ?hy ?_);case hy=>rfl)|((with_reducible first|refine jX ?hy ?_|refine jZ ?hy ?_);case hy=>rfl)|((with_reducible refine jF ?hy ?_);case hy=>decide))
    refine turn_link hN2 hkl fun H3 hN3 hf3 => ?_
    repeat' (first|(with_reducible first|refine jA ?_|(refine hK _ _ ?_;clear hK K)|refine jJ fun K hK=>?_|refine jK ?_|refine jL ?_|refine jM ?_|refine jN ?_|refine jO ?_|refine jP ?_|refine jQ ?_|(refine jB ?_;clear hK K)|(refine jC ?_;clear hK K)|refine jD ?_|refine jE ?_|refine jG ?_|refine jH ?_|refine jI ?_)|((with_reducible refine jR ?hq ?_);case hq=>rfl)|((first|(with_reducible first|refine jS fun K hK=>?_|refine jT ?_|refine jU ?_)|((with_reducible refine jV ?hy fun K hK=>?_);case hy=>rfl));simp only [go_sem, Nat.reduceEqDiff, Nat.reduceAdd, Nat.reduceMul, Nat.reduceLeDiff, Nat.reduceLT, Int.reduceLT, Int.reduceLE, Int.reduceEq, Int.reduceNeg, Int.reduceToNat, Nat.reducePow, reduceIte, reduceCtorEq, i28, ew])|((with_reducible first|refine jW ?hy ?_|refine jY ?hy ?_);case hy=>rfl)|((with_reducible first|refine jX ?hy ?_|refine jZ ?hy ?_);case hy=>rfl)|((with_reducible refine jF ?hy ?_);case hy=>decide))
    exact loop_normal (m' := 2 - (i + 1)) (by omega) ⟨i + 1, by omega, rfl, rfl, by rw [hS']; exact hN3, hf2.trans hf3⟩
  ·obtain rfl : i = 2 := by omega
   have hltI : ((2 : Int) < 2) = False := by simp
   simp only [Int.cast_ofNat_Int] at i28
   repeat' (first|(with_reducible first|refine jA ?_|(refine hK _ _ ?_;clear hK K)|refine jJ fun K hK=>?_|refine jK ?_|refine jL ?_|refine jM ?_|refine jN ?_|refine jO ?_|refine jP ?_|refine jQ ?_|(refine jB ?_;clear hK K)|(refine jC ?_;clear hK K)|refine jD ?_|refine jE ?_|refine jG ?_|refine jH ?_|refine jI ?_)|((with_reducible refine jR ?hq ?_);case hq=>rfl)|((first|(with_reducible first|refine jS fun K hK=>?_|refine jT ?_|refine jU ?_)|((with_reducible refine jV ?hy fun K hK=>?_);case hy=>rfl));simp only [go_sem, Nat.reduceEqDiff, Nat.reduceAdd, Nat.reduceMul, Nat.reduceLeDiff, Nat.reduceLT, Int.reduceLT, Int.reduceLE, Int.reduceEq, Int.reduceNeg, Int.reduceToNat, Nat.reducePow, reduceIte, reduceCtorEq, i28, hltI])|((with_reducible first|refine jW ?hy ?_|refine jY ?hy ?_);case hy=>rfl)|((with_reducible first|refine jX ?hy ?_|refine jZ ?hy ?_);case hy=>rfl)|((with_reducible refine jF ?hy ?_);case hy=>decide))
   rw [hSS] at hN2
   exact fin _ hN2 hf2
end
section
variable {H H' : Heap} {t g c len : Nat} {N : Nodes} {K : Value → Heap → Prop}
def ix2 (a b x : Nat) : Int := if x = a then 0 else if x = b then 1 else -1
theorem index2 {b o x y z cap : Nat} (c0 : hcell H ⟨b, o, none⟩ = some (.int .i64 (x : Nat))) (c1 : hcell H ⟨b, o + 1, none⟩ = some (.int .i64 (y : Nat))) (fin : K (.int .i64 (ix2 x y z)) H) :
  CallsH Try.prog 62 #[.slice (some ⟨b, o, none⟩) 2 cap, .int .i64 (z : Nat)] H K := by
 unfold ix2 at fin
 refine call62 (by simp) ?_
 simp only [Try.f62, Option.getD_some]
 repeat' (first|(with_reducible first|refine jA ?_|(refine hK _ _ ?_;clear hK K)|refine jJ fun K hK=>?_|refine jK ?_|refine jL ?_|refine jM ?_|refine jN ?_|refine jO ?_|refine jP ?_|refine jQ ?_|(refine jB ?_;clear hK K)|(refine jC ?_;clear hK K)|refine jD ?_|refine jE ?_|refine jG ?_|refine jH ?_|refine jI ?_)|((with_reducible refine jR ?hq ?_);case hq=>rfl)|((first|(with_reducible first|refine jS fun K hK=>?_|refine jT ?_|refine jU ?_)|((with_reducible refine jV ?hy fun K hK=>?_);case hy=>rfl));simp only [go_sem, Nat.reduceEqDiff, Nat.reduceAdd, Nat.reduceMul, Nat.reduceLeDiff, Nat.reduceLT, Int.reduceLT, Int.reduceLE, Int.reduceEq, Int.reduceNeg, Int.reduceToNat, Nat.reducePow, reduceIte, reduceCtorEq])|((with_reducible first|refine jW ?hy ?_|refine jY ?hy ?_);case hy=>rfl)|((with_reducible first|refine jX ?hy ?_|refine jZ ?hy ?_);case hy=>rfl)|((with_reducible refine jF ?hy ?_);case hy=>decide))
 refine x_loop (fun m e' H' => ∃ i : Nat, i ≤ 2 ∧ e' 8 = .int .i64 (i : Nat) ∧ m = 2 - i ∧ H' = H ∧ (1 ≤ i → z ≠ x) ∧ (2 ≤ i → z ≠ y)) 2 ⟨0, by omega, rfl, rfl, rfl, fun h => (by omega), fun h => (by omega)⟩ ?_
 rintro m e1 H2 ⟨i, hi, i8, rfl, rfl, h1, h2⟩ hoff
 have i0 : e1 0 = .slice (some ⟨b, o, none⟩) 2 cap := (hoff 0 rfl).trans rfl
 have i1 : e1 1 = .int .i64 (z : Nat) := (hoff 1 rfl).trans rfl
 have i7 : e1 7 = .int .i64 2 := (hoff 7 rfl).trans rfl
 clear hoff
 rcases (show i = 0 ∨ i = 1 ∨ i = 2 by omega) with rfl | rfl | rfl
 ·have ew : IntKind.i64.wrap ((0 : Int) + 1) = ((1 : Nat) : Int) := by rw [wrap_i64] <;> omega
  by_cases hz : z = x
  ·have t1 : ((z : Int) == (x : Int)) = true := by simp [hz]
   rw [if_pos hz] at fin
   repeat' (first|(with_reducible first|refine jA ?_|(refine hK _ _ ?_;clear hK K)|refine jJ fun K hK=>?_|refine jK ?_|refine jL ?_|refine jM ?_|refine jN ?_|refine jO ?_|refine jP ?_|refine jQ ?_|(refine jB ?_;clear hK K)|(refine jC ?_;clear hK K)|refine jD ?_|refine jE ?_|refine jG ?_|refine jH ?_|refine jI ?_)|((with_reducible refine jR ?hq ?_);case hq=>rfl)|((first|(with_reducible first|refine jS fun K hK=>?_|refine jT ?_|refine jU ?_)|((with_reducible refine jV ?hy fun K hK=>?_);case hy=>rfl));simp only [go_sem, Nat.reduceEqDiff, Nat.reduceAdd, Nat.reduceMul, Nat.reduceLeDiff, Nat.reduceLT, Int.reduceLT, Int.reduceLE, Int.reduceEq, Int.reduceNeg, Int.reduceToNat, Nat.reducePow, reduceIte, reduceCtorEq, i0, i1, i7, i8, c0, t1])|((with_reducible first|refine jW ?hy ?_|refine jY ?hy ?_);case hy=>rfl)|((with_reducible first|refine jX ?hy ?_|refine jZ ?hy ?_);case hy=>rfl)|((with_reducible refine jF ?hy ?_);case hy=>decide))
   exact fin
  ·have t1 : ((z : Int) == (x : Int)) = false := by simp; omega
   repeat' (first|(with_reducible first|refine jA ?_|(refine hK _ _ ?_;clear hK K)|refine jJ fun K hK=>?_|refine jK ?_|refine jL ?_|refine jM ?_|refine jN ?_|refine jO ?_|refine jP ?_|refine jQ ?_|(refine jB ?_;clear hK K)|(refine jC ?_;clear hK K)|refine jD ?_|refine jE ?_|refine jG ?_|refine jH ?_|refine jI ?_)|((with_reducible refine jR ?hq ?_);case hq=>rfl)|((first|(with_reducible first|refine jS fun K hK=>?_|refine jT ?_|refine jU ?_)|((with_reducible refine jV ?hy fun K hK=>?_);case hy=>rfl));simp only [go_sem, Nat.reduceEqDiff, Nat.reduceAdd, Nat.reduceMul, Nat.reduceLeDiff, Nat.reduceLT, Int.reduceLT, Int.reduceLE, Int.reduceEq, Int.reduceNeg, Int.reduceToNat, Nat.reducePow, reduceIte, reduceCtorEq, i0, i1, i7, i8, c0, t1, ew])|((with_reducible first|refine jW ?hy ?_|refine jY ?hy ?_);case hy=>rfl)|((with_reducible first|refine jX ?hy ?_|refine jZ ?hy ?_);case hy=>rfl)|((with_reducible refine jF ?hy ?_);case hy=>decide))
   exact loop_normal (m' := 1) (by omega) ⟨1, by omega, rfl, rfl, rfl, fun _ => hz, fun h => (by omega)⟩
 ·have hz := h1 (by omega)
  have ew : IntKind.i64.wrap ((1 : Int) + 1) = ((2 : Nat) : Int) := by rw [wrap_i64] <;> omega
  rw [if_neg hz] at fin
  by_cases hz : z = y
  ·have t1 : ((z : Int) == (y : Int)) = true := by simp [hz]
   rw [if_pos hz] at fin
   repeat' (first|(with_reducible first|refine jA ?_|(refine hK _ _ ?_;clear hK K)|refine jJ fun K hK=>?_|refine jK ?_|refine jL ?_|refine jM ?_|refine jN ?_|refine jO ?_|refine jP ?_|refine jQ ?_|(refine jB ?_;clear hK K)|(refine jC ?_;clear hK K)|refine jD ?_|refine jE ?_|refine jG ?_|refine jH ?_|refine jI ?_)|((with_reducible refine jR ?hq ?_);case hq=>rfl)|((first|(with_reducible first|refine jS fun K hK=>?_|refine jT ?_|refine jU ?_)|((with_reducible refine jV ?hy fun K hK=>?_);case hy=>rfl));simp only [go_sem, Nat.reduceEqDiff, Nat.reduceAdd, Nat.reduceMul, Nat.reduceLeDiff, Nat.reduceLT, Int.reduceLT, Int.reduceLE, Int.reduceEq, Int.reduceNeg, Int.reduceToNat, Nat.reducePow, reduceIte, reduceCtorEq, i0, i1, i7, i8, c1, t1])|((with_reducible first|refine jW ?hy ?_|refine jY ?hy ?_);case hy=>rfl)|((with_reducible first|refine jX ?hy ?_|refine jZ ?hy ?_);case hy=>rfl)|((with_reducible refine jF ?hy ?_);case hy=>decide))
   exact fin
  ·have t1 : ((z : Int) == (y : Int)) = false := by simp; omega
   repeat' (first|(with_reducible first|refine jA ?_|(refine hK _ _ ?_;clear hK K)|refine jJ fun K hK=>?_|refine jK ?_|refine jL ?_|refine jM ?_|refine jN ?_|refine jO ?_|refine jP ?_|refine jQ ?_|(refine jB ?_;clear hK K)|(refine jC ?_;clear hK K)|refine jD ?_|refine jE ?_|refine jG ?_|refine jH ?_|refine jI ?_)|((with_reducible refine jR ?hq ?_);case hq=>rfl)|((first|(with_reducible first|refine jS fun K hK=>?_|refine jT ?_|refine jU ?_)|((with_reducible refine jV ?hy fun K hK=>?_);case hy=>rfl));simp only [go_sem, Nat.reduceEqDiff, Nat.reduceAdd, Nat.reduceMul, Nat.reduceLeDiff, Nat.reduceLT, Int.reduceLT, Int.reduceLE, Int.reduceEq, Int.reduceNeg, Int.reduceToNat, Nat.reducePow, reduceIte, reduceCtorEq, i0, i1, i7, i8, c1, t1, ew])|((with_reducible first|refine jW ?hy ?_|refine jY ?hy ?_);case hy=>rfl)|((with_reducible first|refine jX ?hy ?_|refine jZ ?hy ?_);case hy=>rfl)|((with_reducible refine jF ?hy ?_);case hy=>decide))
   exact loop_normal (m' := 0) (by omega) ⟨2, by omega, rfl, rfl, rfl, fun _ => h1 (by omega), fun _ => hz⟩
 ·rw [if_neg (h1 (by omega)), if_neg (h2 (by omega))] at fin
  repeat' (first|(with_reducible first|refine jA ?_|(refine hK _ _ ?_;clear hK K)|refine jJ fun K hK=>?_|refine jK ?_|refine jL ?_|refine jM ?_|refine jN ?_|refine jO ?_|refine jP ?_|refine jQ ?_|(refine jB ?_;clear hK K)|(refine jC ?_;clear hK K)|refine jD ?_|refine jE ?_|refine jG ?_|refine jH ?_|refine jI ?_)|((with_reducible refine jR ?hq ?_);case hq=>rfl)|((first|(with_reducible first|refine jS fun K hK=>?_|refine jT ?_|refine jU ?_)|((with_reducible refine jV ?hy fun K hK=>?_);case hy=>rfl));simp only [go_sem, Nat.reduceEqDiff, Nat.reduceAdd, Nat.reduceMul, Nat.reduceLeDiff, Nat.reduceLT, Int.reduceLT, Int.reduceLE, Int.reduceEq, Int.reduceNeg, Int.reduceToNat, Nat.reducePow, reduceIte, reduceCtorEq, i0, i1, i7, i8])|((with_reducible first|refine jW ?hy ?_|refine jY ?hy ?_);case hy=>rfl)|((with_reducible first|refine jX ?hy ?_|refine jZ ?hy ?_);case hy=>rfl)|((with_reducible refine jF ?hy ?_);case hy=>decide))
  exact fin
theorem setUpA (hN : NA H t g c len N) {h b : Nat} (hh : h < len) (hb : b < len) : NA (hset H ⟨g, h * 10, none⟩ (.int .i64 (b : Nat))) t g c len (upd N h { N h with up := b }) :=
 hN.set0 hh rfl (hN.cl.setUp hh hb)
theorem setL (hN : NA H t g c len N) {h b : Nat} (hh : h < len) (hb : b < len) : NA (hset H ⟨g, h * 10 + 1, none⟩ (.int .i64 (b : Nat))) t g c len (upd N h { N h with l := b }) :=
 hN.set (j := 1) hh (by omega) rfl (hN.cl.setKid (s := false) hh hb)
theorem setR (hN : NA H t g c len N) {h b : Nat} (hh : h < len) (hb : b < len) : NA (hset H ⟨g, h * 10 + 2, none⟩ (.int .i64 (b : Nat))) t g c len (upd N h { N h with r := b }) :=
 hN.set (j := 2) hh (by omega) rfl (hN.cl.setKid (s := true) hh hb)
theorem rotate_ok {L : Value → Heap → Prop} {h : Nat} (hN : NA H t g c len N) (hh : h < len) (fin : ∀ H', NA H' t g c len (rotN N h) → Fr (· = g) H H' → L (.tuple #[]) H') :
  CallsH Try.prog 57 #[.pointer (some ⟨t, 0, none⟩), .int .i64 (h : Nat)] H L := by
 have hd := hN.hd
 have hu := hN.cl.up h hh
 have c0 := hN.cell0 hh
 have u2 := hN.cell (j := 2) hu rfl
 unfold rotN at fin
 obtain ⟨u, eu⟩ : ∃ u, (N h).up = u := ⟨_, rfl⟩
 rw [eu] at fin hu c0 u2
 have u0 := hN.cell0 hu
 refine call57 (by simp) ?_
 simp only [Try.f57, Option.getD_some]
 cases hs : sideN N u h with
 | false =>
  have t1 : (((N u).r : Int) == (h : Int)) = false := by unfold sideN at hs; simp at hs ⊢; omega
  have ew : IntKind.i64.wrap ((1 : Int) - 0) = 1 := by rw [wrap_i64] <;> omega
  rw [hs] at fin
  repeat' (first|(with_reducible first|refine jA ?_|(refine hK _ _ ?_;clear hK K)|refine jJ fun K hK=>?_|refine jK ?_|refine jL ?_|refine jM ?_|refine jN ?_|refine jO ?_|refine jP ?_|refine jQ ?_|(refine jB ?_;clear hK K)|(refine jC ?_;clear hK K)|refine jD ?_|refine jE ?_|refine jG ?_|refine jH ?_|refine jI ?_)|((with_reducible refine jR ?hq ?_);case hq=>rfl)|((first|(with_reducible first|refine jS fun K hK=>?_|refine jT ?_|refine jU ?_)|((with_reducible refine jV ?hy fun K hK=>?_);case hy=>rfl));simp only [go_sem, Nat.reduceEqDiff, Nat.reduceAdd, Nat.reduceMul, Nat.reduceLeDiff, Nat.reduceLT, Int.reduceLT, Int.reduceLE, Int.reduceEq, Int.reduceNeg, Int.reduceToNat, Nat.reducePow, reduceIte, reduceCtorEq, hd, hh, hu, c0, u2, t1])|((with_reducible first|refine jW ?hy ?_|refine jY ?hy ?_);case hy=>rfl)|((with_reducible first|refine jX ?hy ?_|refine jZ ?hy ?_);case hy=>rfl)|((with_reducible refine jF ?hy ?_);case hy=>decide))
  rename_i KT hKT K1 hK1
  have tail : ∀ (e' : Env) (H1 : Heap), e' 0 = .pointer (some ⟨t, 0, none⟩) → e' 1 = .int .i64 (h : Nat) → e' 4 = .pointer (some ⟨g, h * 10, none⟩) → e' 5 = .int .i64 (u : Nat) → e' 6 = .pointer (some ⟨g, u * 10, none⟩) → e' 7 = .int .i64 0 →
    NA H1 t g c len (rot1 N u h) → Fr (· = g) H H1 → KT e' H1 := by
   clear hK K hK1 K1
   intro e' H1 i0 i1 i4 i5 i6 i7 hN1 hf1
   refine hKT _ _ ?_
   clear hKT KT
   have p0 := hN1.cell0 hu
   have w0 := hN1.okw0 hh
   have hN2 := setUpA hN1 hh (hN1.cl.up u hu)
   have e2 : upd (rot1 N u h) h { rot1 N u h h with up := (rot1 N u h u).up } = rot2 N u h := rfl
   rw [e2] at hN2
   have hf2 := hf1.trans (hset_fr H1 g (h * 10) (.int .i64 ((rot1 N u h u).up : Nat)))
   have p1 := hN2.cell (j := 2) hh rfl
   have wk := hN2.okw hu 1 (by omega)
   have hkl := hN2.cl.r h hh
   have hN3 := setL hN2 hu hkl
   have hf3 := hf2.trans (hset_fr _ g (u * 10 + 1) (.int .i64 ((rot2 N u h h).r : Nat)))
   have ek : (rot2 N u h h).kid (!false) = (rot2 N u h h).r := rfl
   rw [ek] at fin
   generalize hk : (rot2 N u h h).r = k at fin hN3 hf3 hkl p1
   have e3 : upd (rot2 N u h) u { rot2 N u h u with l := k } = rot3 N u h false k := rfl
   rw [e3] at hN3
   repeat' (first|(with_reducible first|refine jA ?_|(refine hK _ _ ?_;clear hK K)|refine jJ fun K hK=>?_|refine jK ?_|refine jL ?_|refine jM ?_|refine jN ?_|refine jO ?_|refine jP ?_|refine jQ ?_|(refine jB ?_;clear hK K)|(refine jC ?_;clear hK K)|refine jD ?_|refine jE ?_|refine jG ?_|refine jH ?_|refine jI ?_)|((with_reducible refine jR ?hq ?_);case hq=>rfl)|((first|(with_reducible first|refine jS fun K hK=>?_|refine jT ?_|refine jU ?_)|((with_reducible refine jV ?hy fun K hK=>?_);case hy=>rfl));simp only [go_sem, Nat.reduceEqDiff, Nat.reduceAdd, Nat.reduceMul, Nat.reduceLeDiff, Nat.reduceLT, Int.reduceLT, Int.reduceLE, Int.reduceEq, Int.reduceNeg, Int.reduceToNat, Nat.reducePow, reduceIte, reduceCtorEq, i0, i1, i4, i5, i6, i7, p0, w0, ew, p1, wk])|((with_reducible first|refine jW ?hy ?_|refine jY ?hy ?_);case hy=>rfl)|((with_reducible first|refine jX ?hy ?_|refine jZ ?hy ?_);case hy=>rfl)|((with_reducible refine jF ?hy ?_);case hy=>decide))
   have tail2 : ∀ (e' : Env) (H4 : Heap), e' 0 = .pointer (some ⟨t, 0, none⟩) → e' 1 = .int .i64 (h : Nat) → e' 4 = .pointer (some ⟨g, h * 10, none⟩) → e' 5 = .int .i64 (u : Nat) → e' 6 = .pointer (some ⟨g, u * 10, none⟩) → e' 7 = .int .i64 0 →
     NA H4 t g c len (rot4 N u h false k) → Fr (· = g) H H4 → K e' H4 := by
    intro e' H4 i0 i1 i4 i5 i6 i7 hN4 hf4
    refine hK _ _ ?_
    clear hK K
    have w1 := hN4.okw hh 2 (by omega)
    have hN5 := setR hN4 hh hu
    have e5 : upd (rot4 N u h false k) h { rot4 N u h false k h with r := u } = rot5 N u h false k := rfl
    rw [e5] at hN5
    have hf5 := hf4.trans (hset_fr _ g (h * 10 + 2) (.int .i64 (u : Nat)))
    have w2 := hN5.okw0 hu
    have hN6 := setUpA hN5 hu hh
    have e6 : upd (rot5 N u h false k) u { rot5 N u h false k u with up := h } = rot6 N u h false k := rfl
    rw [e6] at hN6
    have hf6 := hf5.trans (hset_fr _ g (u * 10) (.int .i64 (h : Nat)))
    repeat' (first|(with_reducible first|refine jA ?_|(refine hK _ _ ?_;clear hK K)|refine jJ fun K hK=>?_|refine jK ?_|refine jL ?_|refine jM ?_|refine jN ?_|refine jO ?_|refine jP ?_|refine jQ ?_|(refine jB ?_;clear hK K)|(refine jC ?_;clear hK K)|refine jD ?_|refine jE ?_|refine jG ?_|refine jH ?_|refine jI ?_)|((with_reducible refine jR ?hq ?_);case hq=>rfl)|((first|(with_reducible first|refine jS fun K hK=>?_|refine jT ?_|refine jU ?_)|((with_reducible refine jV ?hy fun K hK=>?_);case hy=>rfl));simp only [go_sem, Nat.reduceEqDiff, Nat.reduceAdd, Nat.reduceMul, Nat.reduceLeDiff, Nat.reduceLT, Int.reduceLT, Int.reduceLE, Int.reduceEq, Int.reduceNeg, Int.reduceToNat, Nat.reducePow, reduceIte, reduceCtorEq, i0, i1, i4, i5, i6, i7, ew, w1, w2])|((with_reducible first|refine jW ?hy ?_|refine jY ?hy ?_);case hy=>rfl)|((with_reducible first|refine jX ?hy ?_|refine jZ ?hy ?_);case hy=>rfl)|((with_reducible refine jF ?hy ?_);case hy=>decide))
    refine pull_ok hN6 hu fun H7 hN7 hf7 => ?_
    repeat' (first|(with_reducible first|refine jA ?_|(refine hK _ _ ?_;clear hK K)|refine jJ fun K hK=>?_|refine jK ?_|refine jL ?_|refine jM ?_|refine jN ?_|refine jO ?_|refine jP ?_|refine jQ ?_|(refine jB ?_;clear hK K)|(refine jC ?_;clear hK K)|refine jD ?_|refine jE ?_|refine jG ?_|refine jH ?_|refine jI ?_)|((with_reducible refine jR ?hq ?_);case hq=>rfl)|((first|(with_reducible first|refine jS fun K hK=>?_|refine jT ?_|refine jU ?_)|((with_reducible refine jV ?hy fun K hK=>?_);case hy=>rfl));simp only [go_sem, Nat.reduceEqDiff, Nat.reduceAdd, Nat.reduceMul, Nat.reduceLeDiff, Nat.reduceLT, Int.reduceLT, Int.reduceLE, Int.reduceEq, Int.reduceNeg, Int.reduceToNat, Nat.reducePow, reduceIte, reduceCtorEq, i0, i1, i5])|((with_reducible first|refine jW ?hy ?_|refine jY ?hy ?_);case hy=>rfl)|((with_reducible first|refine jX ?hy ?_|refine jZ ?hy ?_);case hy=>rfl)|((with_reducible refine jF ?hy ?_);case hy=>decide))
    refine pull_ok hN7 hh fun H8 hN8 hf8 => ?_
    repeat' (first|(with_reducible first|refine jA ?_|(refine hK _ _ ?_;clear hK K)|refine jJ fun K hK=>?_|refine jK ?_|refine jL ?_|refine jM ?_|refine jN ?_|refine jO ?_|refine jP ?_|refine jQ ?_|(refine jB ?_;clear hK K)|(refine jC ?_;clear hK K)|refine jD ?_|refine jE ?_|refine jG ?_|refine jH ?_|refine jI ?_)|((with_reducible refine jR ?hq ?_);case hq=>rfl)|((first|(with_reducible first|refine jS fun K hK=>?_|refine jT ?_|refine jU ?_)|((with_reducible refine jV ?hy fun K hK=>?_);case hy=>rfl));simp only [go_sem, Nat.reduceEqDiff, Nat.reduceAdd, Nat.reduceMul, Nat.reduceLeDiff, Nat.reduceLT, Int.reduceLT, Int.reduceLE, Int.reduceEq, Int.reduceNeg, Int.reduceToNat, Nat.reducePow, reduceIte, reduceCtorEq])|((with_reducible first|refine jW ?hy ?_|refine jY ?hy ?_);case hy=>rfl)|((with_reducible first|refine jX ?hy ?_|refine jZ ?hy ?_);case hy=>rfl)|((with_reducible refine jF ?hy ?_);case hy=>decide))
    exact fin _ hN8 ((hf6.trans hf7).trans hf8)
   clear hK
   have hd3 := hN3.hd
   have w4 := hN3.okw0 hkl
   by_cases hk0 : k = 0
   ·have t2 : ((k : Int) != 0) = false := by simp [hk0]
    have e4 : rot4 N u h false k = rot3 N u h false k := if_pos hk0
    rw [e4] at tail2
    simp only [t2]
    repeat' (first|(with_reducible first|refine jA ?_|(refine hK _ _ ?_;clear hK K)|refine jJ fun K hK=>?_|refine jK ?_|refine jL ?_|refine jM ?_|refine jN ?_|refine jO ?_|refine jP ?_|refine jQ ?_|(refine jB ?_;clear hK K)|(refine jC ?_;clear hK K)|refine jD ?_|refine jE ?_|refine jG ?_|refine jH ?_|refine jI ?_)|((with_reducible refine jR ?hq ?_);case hq=>rfl)|((first|(with_reducible first|refine jS fun K hK=>?_|refine jT ?_|refine jU ?_)|((with_reducible refine jV ?hy fun K hK=>?_);case hy=>rfl));simp only [go_sem, Nat.reduceEqDiff, Nat.reduceAdd, Nat.reduceMul, Nat.reduceLeDiff, Nat.reduceLT, Int.reduceLT, Int.reduceLE, Int.reduceEq, Int.reduceNeg, Int.reduceToNat, Nat.reducePow, reduceIte, reduceCtorEq])|((with_reducible first|refine jW ?hy ?_|refine jY ?hy ?_);case hy=>rfl)|((with_reducible first|refine jX ?hy ?_|refine jZ ?hy ?_);case hy=>rfl)|((with_reducible refine jF ?hy ?_);case hy=>decide))
    refine tail2 _ _ ?_ ?_ ?_ ?_ ?_ ?_ hN3 hf3 <;> first | exact i0 | exact i1 | exact i4 | exact i5 | exact i6 | exact i7
   ·have t2 : ((k : Int) != 0) = true := by simp [hk0]
    have hN4 := setUpA hN3 hkl hu
    have e4 : upd (rot3 N u h false k) k { rot3 N u h false k k with up := u } = rot4 N u h false k := by unfold rot4; rw [if_neg hk0]
    rw [e4] at hN4
    simp only [t2]
    repeat' (first|(with_reducible first|refine jA ?_|(refine hK _ _ ?_;clear hK K)|refine jJ fun K hK=>?_|refine jK ?_|refine jL ?_|refine jM ?_|refine jN ?_|refine jO ?_|refine jP ?_|refine jQ ?_|(refine jB ?_;clear hK K)|(refine jC ?_;clear hK K)|refine jD ?_|refine jE ?_|refine jG ?_|refine jH ?_|refine jI ?_)|((with_reducible refine jR ?hq ?_);case hq=>rfl)|((first|(with_reducible first|refine jS fun K hK=>?_|refine jT ?_|refine jU ?_)|((with_reducible refine jV ?hy fun K hK=>?_);case hy=>rfl));simp only [go_sem, Nat.reduceEqDiff, Nat.reduceAdd, Nat.reduceMul, Nat.reduceLeDiff, Nat.reduceLT, Int.reduceLT, Int.reduceLE, Int.reduceEq, Int.reduceNeg, Int.reduceToNat, Nat.reducePow, reduceIte, reduceCtorEq, i0, i5, hd3, hkl, w4])|((with_reducible first|refine jW ?hy ?_|refine jY ?hy ?_);case hy=>rfl)|((with_reducible first|refine jX ?hy ?_|refine jZ ?hy ?_);case hy=>rfl)|((with_reducible refine jF ?hy ?_);case hy=>decide))
    refine tail2 _ _ ?_ ?_ ?_ ?_ ?_ ?_ hN4 (hf3.trans (hset_fr _ _ _ _)) <;> first | exact i0 | exact i1 | exact i4 | exact i5 | exact i6 | exact i7
  clear hKT
  have hq := hN.cl.up u hu
  simp only [go_sem, Nat.reduceEqDiff, Nat.reduceAdd, Nat.reduceMul, Nat.reduceLeDiff, Nat.reduceLT, Int.reduceLT, Int.reduceLE, Int.reduceEq, Int.reduceNeg, Int.reduceToNat, Nat.reducePow, reduceIte, reduceCtorEq, u0]
  repeat' (first|(with_reducible first|refine jA ?_|(refine hK _ _ ?_;clear hK K)|refine jJ fun K hK=>?_|refine jK ?_|refine jL ?_|refine jM ?_|refine jN ?_|refine jO ?_|refine jP ?_|refine jQ ?_|(refine jB ?_;clear hK K)|(refine jC ?_;clear hK K)|refine jD ?_|refine jE ?_|refine jG ?_|refine jH ?_|refine jI ?_)|((with_reducible refine jR ?hq ?_);case hq=>rfl)|((first|(with_reducible first|refine jS fun K hK=>?_|refine jT ?_|refine jU ?_)|((with_reducible refine jV ?hy fun K hK=>?_);case hy=>rfl));simp only [go_sem, Nat.reduceEqDiff, Nat.reduceAdd, Nat.reduceMul, Nat.reduceLeDiff, Nat.reduceLT, Int.reduceLT, Int.reduceLE, Int.reduceEq, Int.reduceNeg, Int.reduceToNat, Nat.reducePow, reduceIte, reduceCtorEq])|((with_reducible first|refine jW ?hy ?_|refine jY ?hy ?_);case hy=>rfl)|((with_reducible first|refine jX ?hy ?_|refine jZ ?hy ?_);case hy=>rfl)|((with_reducible refine jF ?hy ?_);case hy=>decide))
  refine hK1 _ _ ?_
  clear hK1 K1
  repeat' (first|(with_reducible first|refine jA ?_|(refine hK _ _ ?_;clear hK K)|refine jJ fun K hK=>?_|refine jK ?_|refine jL ?_|refine jM ?_|refine jN ?_|refine jO ?_|refine jP ?_|refine jQ ?_|(refine jB ?_;clear hK K)|(refine jC ?_;clear hK K)|refine jD ?_|refine jE ?_|refine jG ?_|refine jH ?_|refine jI ?_)|((with_reducible refine jR ?hq ?_);case hq=>rfl)|((first|(with_reducible first|refine jS fun K hK=>?_|refine jT ?_|refine jU ?_)|((with_reducible refine jV ?hy fun K hK=>?_);case hy=>rfl));simp only [go_sem, Nat.reduceEqDiff, Nat.reduceAdd, Nat.reduceMul, Nat.reduceLeDiff, Nat.reduceLT, Int.reduceLT, Int.reduceLE, Int.reduceEq, Int.reduceNeg, Int.reduceToNat, Nat.reducePow, reduceIte, reduceCtorEq])|((with_reducible first|refine jW ?hy ?_|refine jY ?hy ?_);case hy=>rfl)|((with_reducible first|refine jX ?hy ?_|refine jZ ?hy ?_);case hy=>rfl)|((with_reducible refine jF ?hy ?_);case hy=>decide))
  refine top_ok hN hu ?_
  cases hT : topB N u with
  | true =>
   have e1 : rot1 N u h = N := if_pos hT
   rw [e1] at tail
   repeat' (first|(with_reducible first|refine jA ?_|(refine hK _ _ ?_;clear hK K)|refine jJ fun K hK=>?_|refine jK ?_|refine jL ?_|refine jM ?_|refine jN ?_|refine jO ?_|refine jP ?_|refine jQ ?_|(refine jB ?_;clear hK K)|(refine jC ?_;clear hK K)|refine jD ?_|refine jE ?_|refine jG ?_|refine jH ?_|refine jI ?_)|((with_reducible refine jR ?hq ?_);case hq=>rfl)|((first|(with_reducible first|refine jS fun K hK=>?_|refine jT ?_|refine jU ?_)|((with_reducible refine jV ?hy fun K hK=>?_);case hy=>rfl));simp only [go_sem, Nat.reduceEqDiff, Nat.reduceAdd, Nat.reduceMul, Nat.reduceLeDiff, Nat.reduceLT, Int.reduceLT, Int.reduceLE, Int.reduceEq, Int.reduceNeg, Int.reduceToNat, Nat.reducePow, reduceIte, reduceCtorEq])|((with_reducible first|refine jW ?hy ?_|refine jY ?hy ?_);case hy=>rfl)|((with_reducible first|refine jX ?hy ?_|refine jZ ?hy ?_);case hy=>rfl)|((with_reducible refine jF ?hy ?_);case hy=>decide))
   refine tail _ _ ?_ ?_ ?_ ?_ ?_ ?_ hN (.refl _ _) <;> rfl
  | false =>
   have e1 : rot1 N u h = upd N (N u).up ((N (N u).up).swap u h) := if_neg (by rw [hT]; simp)
   rw [e1] at tail
   have q1 := hN.cell (j := 1) hq rfl
   have q2 := hN.cell (j := 2) hq rfl
   have hswap : hasK (N (N u).up) u = true := by
    unfold topB at hT
    simp only [Bool.or_eq_false_iff, Bool.not_eq_false'] at hT
    exact hT.2
   repeat' (first|(with_reducible first|refine jA ?_|(refine hK _ _ ?_;clear hK K)|refine jJ fun K hK=>?_|refine jK ?_|refine jL ?_|refine jM ?_|refine jN ?_|refine jO ?_|refine jP ?_|refine jQ ?_|(refine jB ?_;clear hK K)|(refine jC ?_;clear hK K)|refine jD ?_|refine jE ?_|refine jG ?_|refine jH ?_|refine jI ?_)|((with_reducible refine jR ?hq ?_);case hq=>rfl)|((first|(with_reducible first|refine jS fun K hK=>?_|refine jT ?_|refine jU ?_)|((with_reducible refine jV ?hy fun K hK=>?_);case hy=>rfl));simp only [go_sem, Nat.reduceEqDiff, Nat.reduceAdd, Nat.reduceMul, Nat.reduceLeDiff, Nat.reduceLT, Int.reduceLT, Int.reduceLE, Int.reduceEq, Int.reduceNeg, Int.reduceToNat, Nat.reducePow, reduceIte, reduceCtorEq, hd, hq])|((with_reducible first|refine jW ?hy ?_|refine jY ?hy ?_);case hy=>rfl)|((with_reducible first|refine jX ?hy ?_|refine jZ ?hy ?_);case hy=>rfl)|((with_reducible refine jF ?hy ?_);case hy=>decide))
   refine x_drawS [] [0, 1, 2, 3, 4, 5, 6, 8, 9, 10, 11, 7, 12, 13] rfl (by kernel_rfl) (Cells []) trivial ?_
   repeat' (first|(with_reducible refine xs_nil ?_)|((first|((with_reducible apply xs_rd);case hi=>rfl)|((with_reducible apply xs_guard_yes);(case hi=>rfl);(case hy=>rfl)));(case hr=>rfl);(case h1=>intro H' hS'; (try simp only [Cells, and_true] at hS');simp only [go_sem, Nat.reduceEqDiff, Nat.reduceAdd, Nat.reduceMul, Nat.reduceLeDiff, Nat.reduceLT, Int.reduceLT, Int.reduceLE, Int.reduceEq, Int.reduceNeg, Int.reduceToNat, Nat.reducePow, reduceIte, reduceCtorEq, hS']; rfl))|((with_reducible refine xs_tail ?hz ?_);case hz=>rfl)|((with_reducible refine xs_keep ?hz ?_);case hz=>first|(with_reducible assumption)|(simp only [go_sem, Nat.reduceEqDiff, Nat.reduceAdd, Nat.reduceMul, Nat.reduceLeDiff, Nat.reduceLT, Int.reduceLT, Int.reduceLE, Int.reduceEq, Int.reduceNeg, Int.reduceToNat, Nat.reducePow, reduceIte, reduceCtorEq, Cells, and_true]; done)|assumption)|((with_reducible apply xs_guard_no);(case hi=>rfl);(case hy=>rfl);(case hS=>assumption))|((first|((with_reducible apply xs_op);(case hi=>rfl))|((with_reducible apply xs_op_yes);(case hi=>rfl);(case hy=>rfl)));(case hr=>rfl);intro K hK; simp only [go_sem, Nat.reduceEqDiff, Nat.reduceAdd, Nat.reduceMul, Nat.reduceLeDiff, Nat.reduceLT, Int.reduceLT, Int.reduceLE, Int.reduceEq, Int.reduceNeg, Int.reduceToNat, Nat.reducePow, reduceIte, reduceCtorEq])|(with_reducible first|refine jA ?_|(refine hK _ _ ?_;clear hK K)|refine jJ fun K hK=>?_|refine jK ?_|refine jL ?_|refine jM ?_|refine jN ?_|refine jO ?_|refine jP ?_|refine jQ ?_|(refine jB ?_;clear hK K)|(refine jC ?_;clear hK K)|refine jD ?_|refine jE ?_|refine jG ?_|refine jH ?_|refine jI ?_)|((with_reducible refine jR ?hq ?_);case hq=>rfl)|((first|(with_reducible first|refine jS fun K hK=>?_|refine jT ?_|refine jU ?_)|((with_reducible refine jV ?hy fun K hK=>?_);case hy=>rfl));simp only [go_sem, Nat.reduceEqDiff, Nat.reduceAdd, Nat.reduceMul, Nat.reduceLeDiff, Nat.reduceLT, Int.reduceLT, Int.reduceLE, Int.reduceEq, Int.reduceNeg, Int.reduceToNat, Nat.reducePow, reduceIte, reduceCtorEq])|((with_reducible first|refine jW ?hy ?_|refine jY ?hy ?_);case hy=>rfl)|((with_reducible first|refine jX ?hy ?_|refine jZ ?hy ?_);case hy=>rfl)|((with_reducible refine jF ?hy ?_);case hy=>decide))
   refine index2 q1 q2 ?_
   unfold hasK at hswap
   by_cases hl : (N (N u).up).l = u
   ·have ei : ix2 (N (N u).up).l (N (N u).up).r u = 0 := if_pos hl.symm
    have es : (N (N u).up).swap u h = { N (N u).up with l := h } := if_pos hl
    rw [ei]
    rw [es] at tail
    have w1 := hN.okw hq 1 (by omega)
    repeat' (first|(with_reducible refine xs_nil ?_)|((first|((with_reducible apply xs_rd);case hi=>rfl)|((with_reducible apply xs_guard_yes);(case hi=>rfl);(case hy=>rfl)));(case hr=>rfl);(case h1=>intro H' hS'; (try simp only [Cells, and_true] at hS');simp only [go_sem, Nat.reduceEqDiff, Nat.reduceAdd, Nat.reduceMul, Nat.reduceLeDiff, Nat.reduceLT, Int.reduceLT, Int.reduceLE, Int.reduceEq, Int.reduceNeg, Int.reduceToNat, Nat.reducePow, reduceIte, reduceCtorEq, w1, hS']; rfl))|((with_reducible refine xs_tail ?hz ?_);case hz=>rfl)|((with_reducible refine xs_keep ?hz ?_);case hz=>first|(with_reducible assumption)|(simp only [go_sem, Nat.reduceEqDiff, Nat.reduceAdd, Nat.reduceMul, Nat.reduceLeDiff, Nat.reduceLT, Int.reduceLT, Int.reduceLE, Int.reduceEq, Int.reduceNeg, Int.reduceToNat, Nat.reducePow, reduceIte, reduceCtorEq, Cells, and_true, w1]; done)|assumption)|((with_reducible apply xs_guard_no);(case hi=>rfl);(case hy=>rfl);(case hS=>assumption))|((first|((with_reducible apply xs_op);(case hi=>rfl))|((with_reducible apply xs_op_yes);(case hi=>rfl);(case hy=>rfl)));(case hr=>rfl);intro K hK; simp only [go_sem, Nat.reduceEqDiff, Nat.reduceAdd, Nat.reduceMul, Nat.reduceLeDiff, Nat.reduceLT, Int.reduceLT, Int.reduceLE, Int.reduceEq, Int.reduceNeg, Int.reduceToNat, Nat.reducePow, reduceIte, reduceCtorEq, w1])|(with_reducible first|refine jA ?_|(refine hK _ _ ?_;clear hK K)|refine jJ fun K hK=>?_|refine jK ?_|refine jL ?_|refine jM ?_|refine jN ?_|refine jO ?_|refine jP ?_|refine jQ ?_|(refine jB ?_;clear hK K)|(refine jC ?_;clear hK K)|refine jD ?_|refine jE ?_|refine jG ?_|refine jH ?_|refine jI ?_)|((with_reducible refine jR ?hq ?_);case hq=>rfl)|((first|(with_reducible first|refine jS fun K hK=>?_|refine jT ?_|refine jU ?_)|((with_reducible refine jV ?hy fun K hK=>?_);case hy=>rfl));simp only [go_sem, Nat.reduceEqDiff, Nat.reduceAdd, Nat.reduceMul, Nat.reduceLeDiff, Nat.reduceLT, Int.reduceLT, Int.reduceLE, Int.reduceEq, Int.reduceNeg, Int.reduceToNat, Nat.reducePow, reduceIte, reduceCtorEq, w1])|((with_reducible first|refine jW ?hy ?_|refine jY ?hy ?_);case hy=>rfl)|((with_reducible first|refine jX ?hy ?_|refine jZ ?hy ?_);case hy=>rfl)|((with_reducible refine jF ?hy ?_);case hy=>decide))
    refine tail _ _ ?_ ?_ ?_ ?_ ?_ ?_ (setL hN hq hh) (hset_fr _ _ _ _) <;> rfl
   ·have hr : (N (N u).up).r = u := by simpa [hl] using hswap
    have ei : ix2 (N (N u).up).l (N (N u).up).r u = 1 := by unfold ix2; rw [if_neg (Ne.symm hl), if_pos hr.symm]
    have es : (N (N u).up).swap u h = { N (N u).up with r := h } := if_neg hl
    rw [ei]
    rw [es] at tail
    have w1 := hN.okw hq 2 (by omega)
    repeat' (first|(with_reducible refine xs_nil ?_)|((first|((with_reducible apply xs_rd);case hi=>rfl)|((with_reducible apply xs_guard_yes);(case hi=>rfl);(case hy=>rfl)));(case hr=>rfl);(case h1=>intro H' hS'; (try simp only [Cells, and_true] at hS');simp only [go_sem, Nat.reduceEqDiff, Nat.reduceAdd, Nat.reduceMul, Nat.reduceLeDiff, Nat.reduceLT, Int.reduceLT, Int.reduceLE, Int.reduceEq, Int.reduceNeg, Int.reduceToNat, Nat.reducePow, reduceIte, reduceCtorEq, w1, hS']; rfl))|((with_reducible refine xs_tail ?hz ?_);case hz=>rfl)|((with_reducible refine xs_keep ?hz ?_);case hz=>first|(with_reducible assumption)|(simp only [go_sem, Nat.reduceEqDiff, Nat.reduceAdd, Nat.reduceMul, Nat.reduceLeDiff, Nat.reduceLT, Int.reduceLT, Int.reduceLE, Int.reduceEq, Int.reduceNeg, Int.reduceToNat, Nat.reducePow, reduceIte, reduceCtorEq, Cells, and_true, w1]; done)|assumption)|((with_reducible apply xs_guard_no);(case hi=>rfl);(case hy=>rfl);(case hS=>assumption))|((first|((with_reducible apply xs_op);(case hi=>rfl))|((with_reducible apply xs_op_yes);(case hi=>rfl);(case hy=>rfl)));(case hr=>rfl);intro K hK; simp only [go_sem, Nat.reduceEqDiff, Nat.reduceAdd, Nat.reduceMul, Nat.reduceLeDiff, Nat.reduceLT, Int.reduceLT, Int.reduceLE, Int.reduceEq, Int.reduceNeg, Int.reduceToNat, Nat.reducePow, reduceIte, reduceCtorEq, w1])|(with_reducible first|refine jA ?_|(refine hK _ _ ?_;clear hK K)|refine jJ fun K hK=>?_|refine jK ?_|refine jL ?_|refine jM ?_|refine jN ?_|refine jO ?_|refine jP ?_|refine jQ ?_|(refine jB ?_;clear hK K)|(refine jC ?_;clear hK K)|refine jD ?_|refine jE ?_|refine jG ?_|refine jH ?_|refine jI ?_)|((with_reducible refine jR ?hq ?_);case hq=>rfl)|((first|(with_reducible first|refine jS fun K hK=>?_|refine jT ?_|refine jU ?_)|((with_reducible refine jV ?hy fun K hK=>?_);case hy=>rfl));simp only [go_sem, Nat.reduceEqDiff, Nat.reduceAdd, Nat.reduceMul, Nat.reduceLeDiff, Nat.reduceLT, Int.reduceLT, Int.reduceLE, Int.reduceEq, Int.reduceNeg, Int.reduceToNat, Nat.reducePow, reduceIte, reduceCtorEq, w1])|((with_reducible first|refine jW ?hy ?_|refine jY ?hy ?_);case hy=>rfl)|((with_reducible first|refine jX ?hy ?_|refine jZ ?hy ?_);case hy=>rfl)|((with_reducible refine jF ?hy ?_);case hy=>decide))
    refine tail _ _ ?_ ?_ ?_ ?_ ?_ ?_ (setR hN hq hh) (hset_fr _ _ _ _) <;> rfl
 | true =>
  have t1 : (((N u).r : Int) == (h : Int)) = true := by unfold sideN at hs; simp at hs ⊢; omega
  have ew : IntKind.i64.wrap ((1 : Int) - 1) = 0 := by rw [wrap_i64] <;> omega
  rw [hs] at fin
  repeat' (first|(with_reducible first|refine jA ?_|(refine hK _ _ ?_;clear hK K)|refine jJ fun K hK=>?_|refine jK ?_|refine jL ?_|refine jM ?_|refine jN ?_|refine jO ?_|refine jP ?_|refine jQ ?_|(refine jB ?_;clear hK K)|(refine jC ?_;clear hK K)|refine jD ?_|refine jE ?_|refine jG ?_|refine jH ?_|refine jI ?_)|((with_reducible refine jR ?hq ?_);case hq=>rfl)|((first|(with_reducible first|refine jS fun K hK=>?_|refine jT ?_|refine jU ?_)|((with_reducible refine jV ?hy fun K hK=>?_);case hy=>rfl));simp only [go_sem, Nat.reduceEqDiff, Nat.reduceAdd, Nat.reduceMul, Nat.reduceLeDiff, Nat.reduceLT, Int.reduceLT, Int.reduceLE, Int.reduceEq, Int.reduceNeg, Int.reduceToNat, Nat.reducePow, reduceIte, reduceCtorEq, hd, hh, hu, c0, u2, t1])|((with_reducible first|refine jW ?hy ?_|refine jY ?hy ?_);case hy=>rfl)|((with_reducible first|refine jX ?hy ?_|refine jZ ?hy ?_);case hy=>rfl)|((with_reducible refine jF ?hy ?_);case hy=>decide))
  rename_i KT hKT K1 hK1
  have tail : ∀ (e' : Env) (H1 : Heap), e' 0 = .pointer (some ⟨t, 0, none⟩) → e' 1 = .int .i64 (h : Nat) → e' 4 = .pointer (some ⟨g, h * 10, none⟩) → e' 5 = .int .i64 (u : Nat) → e' 6 = .pointer (some ⟨g, u * 10, none⟩) → e' 7 = .int .i64 1 →
    NA H1 t g c len (rot1 N u h) → Fr (· = g) H H1 → KT e' H1 := by
   clear hK K hK1 K1
   intro e' H1 i0 i1 i4 i5 i6 i7 hN1 hf1
   refine hKT _ _ ?_
   clear hKT KT
   have p0 := hN1.cell0 hu
   have w0 := hN1.okw0 hh
   have hN2 := setUpA hN1 hh (hN1.cl.up u hu)
   have e2 : upd (rot1 N u h) h { rot1 N u h h with up := (rot1 N u h u).up } = rot2 N u h := rfl
   rw [e2] at hN2
   have hf2 := hf1.trans (hset_fr H1 g (h * 10) (.int .i64 ((rot1 N u h u).up : Nat)))
   have p1 := hN2.cell (j := 1) hh rfl
   have wk := hN2.okw hu 2 (by omega)
   have hkl := hN2.cl.l h hh
   have hN3 := setR hN2 hu hkl
   have hf3 := hf2.trans (hset_fr _ g (u * 10 + 2) (.int .i64 ((rot2 N u h h).l : Nat)))
   have ek : (rot2 N u h h).kid (!true) = (rot2 N u h h).l := rfl
   rw [ek] at fin
   generalize hk : (rot2 N u h h).l = k at fin hN3 hf3 hkl p1
   have e3 : upd (rot2 N u h) u { rot2 N u h u with r := k } = rot3 N u h true k := rfl
   rw [e3] at hN3
   repeat' (first|(with_reducible first|refine jA ?_|(refine hK _ _ ?_;clear hK K)|refine jJ fun K hK=>?_|refine jK ?_|refine jL ?_|refine jM ?_|refine jN ?_|refine jO ?_|refine jP ?_|refine jQ ?_|(refine jB ?_;clear hK K)|(refine jC ?_;clear hK K)|refine jD ?_|refine jE ?_|refine jG ?_|refine jH ?_|refine jI ?_)|((with_reducible refine jR ?hq ?_);case hq=>rfl)|((first|(with_reducible first|refine jS fun K hK=>?_|refine jT ?_|refine jU ?_)|((with_reducible refine jV ?hy fun K hK=>?_);case hy=>rfl));simp only [go_sem, Nat.reduceEqDiff, Nat.reduceAdd, Nat.reduceMul, Nat.reduceLeDiff, Nat.reduceLT, Int.reduceLT, Int.reduceLE, Int.reduceEq, Int.reduceNeg, Int.reduceToNat, Nat.reducePow, reduceIte, reduceCtorEq, i0, i1, i4, i5, i6, i7, p0, w0, ew, p1, wk])|((with_reducible first|refine jW ?hy ?_|refine jY ?hy ?_);case hy=>rfl)|((with_reducible first|refine jX ?hy ?_|refine jZ ?hy ?_);case hy=>rfl)|((with_reducible refine jF ?hy ?_);case hy=>decide))
   have tail2 : ∀ (e' : Env) (H4 : Heap), e' 0 = .pointer (some ⟨t, 0, none⟩) → e' 1 = .int .i64 (h : Nat) → e' 4 = .pointer (some ⟨g, h * 10, none⟩) → e' 5 = .int .i64 (u : Nat) → e' 6 = .pointer (some ⟨g, u * 10, none⟩) → e' 7 = .int .i64 1 →
     NA H4 t g c len (rot4 N u h true k) → Fr (· = g) H H4 → K e' H4 := by
    intro e' H4 i0 i1 i4 i5 i6 i7 hN4 hf4
    refine hK _ _ ?_
    clear hK K
    have w1 := hN4.okw hh 1 (by omega)
    have hN5 := setL hN4 hh hu
    have e5 : upd (rot4 N u h true k) h { rot4 N u h true k h with l := u } = rot5 N u h true k := rfl
    rw [e5] at hN5
    have hf5 := hf4.trans (hset_fr _ g (h * 10 + 1) (.int .i64 (u : Nat)))
    have w2 := hN5.okw0 hu
    have hN6 := setUpA hN5 hu hh
    have e6 : upd (rot5 N u h true k) u { rot5 N u h true k u with up := h } = rot6 N u h true k := rfl
    rw [e6] at hN6
    have hf6 := hf5.trans (hset_fr _ g (u * 10) (.int .i64 (h : Nat)))
    repeat' (first|(with_reducible first|refine jA ?_|(refine hK _ _ ?_;clear hK K)|refine jJ fun K hK=>?_|refine jK ?_|refine jL ?_|refine jM ?_|refine jN ?_|refine jO ?_|refine jP ?_|refine jQ ?_|(refine jB ?_;clear hK K)|(refine jC ?_;clear hK K)|refine jD ?_|refine jE ?_|refine jG ?_|refine jH ?_|refine jI ?_)|((with_reducible refine jR ?hq ?_);case hq=>rfl)|((first|(with_reducible first|refine jS fun K hK=>?_|refine jT ?_|refine jU ?_)|((with_reducible refine jV ?hy fun K hK=>?_);case hy=>rfl));simp only [go_sem, Nat.reduceEqDiff, Nat.reduceAdd, Nat.reduceMul, Nat.reduceLeDiff, Nat.reduceLT, Int.reduceLT, Int.reduceLE, Int.reduceEq, Int.reduceNeg, Int.reduceToNat, Nat.reducePow, reduceIte, reduceCtorEq, i0, i1, i4, i5, i6, i7, ew, w1, w2])|((with_reducible first|refine jW ?hy ?_|refine jY ?hy ?_);case hy=>rfl)|((with_reducible first|refine jX ?hy ?_|refine jZ ?hy ?_);case hy=>rfl)|((with_reducible refine jF ?hy ?_);case hy=>decide))
    refine pull_ok hN6 hu fun H7 hN7 hf7 => ?_
    repeat' (first|(with_reducible first|refine jA ?_|(refine hK _ _ ?_;clear hK K)|refine jJ fun K hK=>?_|refine jK ?_|refine jL ?_|refine jM ?_|refine jN ?_|refine jO ?_|refine jP ?_|refine jQ ?_|(refine jB ?_;clear hK K)|(refine jC ?_;clear hK K)|refine jD ?_|refine jE ?_|refine jG ?_|refine jH ?_|refine jI ?_)|((with_reducible refine jR ?hq ?_);case hq=>rfl)|((first|(with_reducible first|refine jS fun K hK=>?_|refine jT ?_|refine jU ?_)|((with_reducible refine jV ?hy fun K hK=>?_);case hy=>rfl));simp only [go_sem, Nat.reduceEqDiff, Nat.reduceAdd, Nat.reduceMul, Nat.reduceLeDiff, Nat.reduceLT, Int.reduceLT, Int.reduceLE, Int.reduceEq, Int.reduceNeg, Int.reduceToNat, Nat.reducePow, reduceIte, reduceCtorEq, i0, i1, i5])|((with_reducible first|refine jW ?hy ?_|refine jY ?hy ?_);case hy=>rfl)|((with_reducible first|refine jX ?hy ?_|refine jZ ?hy ?_);case hy=>rfl)|((with_reducible refine jF ?hy ?_);case hy=>decide))
    refine pull_ok hN7 hh fun H8 hN8 hf8 => ?_
    repeat' (first|(with_reducible first|refine jA ?_|(refine hK _ _ ?_;clear hK K)|refine jJ fun K hK=>?_|refine jK ?_|refine jL ?_|refine jM ?_|refine jN ?_|refine jO ?_|refine jP ?_|refine jQ ?_|(refine jB ?_;clear hK K)|(refine jC ?_;clear hK K)|refine jD ?_|refine jE ?_|refine jG ?_|refine jH ?_|refine jI ?_)|((with_reducible refine jR ?hq ?_);case hq=>rfl)|((first|(with_reducible first|refine jS fun K hK=>?_|refine jT ?_|refine jU ?_)|((with_reducible refine jV ?hy fun K hK=>?_);case hy=>rfl));simp only [go_sem, Nat.reduceEqDiff, Nat.reduceAdd, Nat.reduceMul, Nat.reduceLeDiff, Nat.reduceLT, Int.reduceLT, Int.reduceLE, Int.reduceEq, Int.reduceNeg, Int.reduceToNat, Nat.reducePow, reduceIte, reduceCtorEq])|((with_reducible first|refine jW ?hy ?_|refine jY ?hy ?_);case hy=>rfl)|((with_reducible first|refine jX ?hy ?_|refine jZ ?hy ?_);case hy=>rfl)|((with_reducible refine jF ?hy ?_);case hy=>decide))
    exact fin _ hN8 ((hf6.trans hf7).trans hf8)
   clear hK
   have hd3 := hN3.hd
   have w4 := hN3.okw0 hkl
   by_cases hk0 : k = 0
   ·have t2 : ((k : Int) != 0) = false := by simp [hk0]
    have e4 : rot4 N u h true k = rot3 N u h true k := if_pos hk0
    rw [e4] at tail2
    simp only [t2]
    repeat' (first|(with_reducible first|refine jA ?_|(refine hK _ _ ?_;clear hK K)|refine jJ fun K hK=>?_|refine jK ?_|refine jL ?_|refine jM ?_|refine jN ?_|refine jO ?_|refine jP ?_|refine jQ ?_|(refine jB ?_;clear hK K)|(refine jC ?_;clear hK K)|refine jD ?_|refine jE ?_|refine jG ?_|refine jH ?_|refine jI ?_)|((with_reducible refine jR ?hq ?_);case hq=>rfl)|((first|(with_reducible first|refine jS fun K hK=>?_|refine jT ?_|refine jU ?_)|((with_reducible refine jV ?hy fun K hK=>?_);case hy=>rfl));simp only [go_sem, Nat.reduceEqDiff, Nat.reduceAdd, Nat.reduceMul, Nat.reduceLeDiff, Nat.reduceLT, Int.reduceLT, Int.reduceLE, Int.reduceEq, Int.reduceNeg, Int.reduceToNat, Nat.reducePow, reduceIte, reduceCtorEq])|((with_reducible first|refine jW ?hy ?_|refine jY ?hy ?_);case hy=>rfl)|((with_reducible first|refine jX ?hy ?_|refine jZ ?hy ?_);case hy=>rfl)|((with_reducible refine jF ?hy ?_);case hy=>decide))
    refine tail2 _ _ ?_ ?_ ?_ ?_ ?_ ?_ hN3 hf3 <;> first | exact i0 | exact i1 | exact i4 | exact i5 | exact i6 | exact i7
   ·have t2 : ((k : Int) != 0) = true := by simp [hk0]
    have hN4 := setUpA hN3 hkl hu
    have e4 : upd (rot3 N u h true k) k { rot3 N u h true k k with up := u } = rot4 N u h true k := by unfold rot4; rw [if_neg hk0]
    rw [e4] at hN4
    simp only [t2]
    repeat' (first|(with_reducible first|refine jA ?_|(refine hK _ _ ?_;clear hK K)|refine jJ fun K hK=>?_|refine jK ?_|refine jL ?_|refine jM ?_|refine jN ?_|refine jO ?_|refine jP ?_|refine jQ ?_|(refine jB ?_;clear hK K)|(refine jC ?_;clear hK K)|refine jD ?_|refine jE ?_|refine jG ?_|refine jH ?_|refine jI ?_)|((with_reducible refine jR ?hq ?_);case hq=>rfl)|((first|(with_reducible first|refine jS fun K hK=>?_|refine jT ?_|refine jU ?_)|((with_reducible refine jV ?hy fun K hK=>?_);case hy=>rfl));simp only [go_sem, Nat.reduceEqDiff, Nat.reduceAdd, Nat.reduceMul, Nat.reduceLeDiff, Nat.reduceLT, Int.reduceLT, Int.reduceLE, Int.reduceEq, Int.reduceNeg, Int.reduceToNat, Nat.reducePow, reduceIte, reduceCtorEq, i0, i5, hd3, hkl, w4])|((with_reducible first|refine jW ?hy ?_|refine jY ?hy ?_);case hy=>rfl)|((with_reducible first|refine jX ?hy ?_|refine jZ ?hy ?_);case hy=>rfl)|((with_reducible refine jF ?hy ?_);case hy=>decide))
    refine tail2 _ _ ?_ ?_ ?_ ?_ ?_ ?_ hN4 (hf3.trans (hset_fr _ _ _ _)) <;> first | exact i0 | exact i1 | exact i4 | exact i5 | exact i6 | exact i7
  clear hKT
  have hq := hN.cl.up u hu
  simp only [go_sem, Nat.reduceEqDiff, Nat.reduceAdd, Nat.reduceMul, Nat.reduceLeDiff, Nat.reduceLT, Int.reduceLT, Int.reduceLE, Int.reduceEq, Int.reduceNeg, Int.reduceToNat, Nat.reducePow, reduceIte, reduceCtorEq, u0]
  repeat' (first|(with_reducible first|refine jA ?_|(refine hK _ _ ?_;clear hK K)|refine jJ fun K hK=>?_|refine jK ?_|refine jL ?_|refine jM ?_|refine jN ?_|refine jO ?_|refine jP ?_|refine jQ ?_|(refine jB ?_;clear hK K)|(refine jC ?_;clear hK K)|refine jD ?_|refine jE ?_|refine jG ?_|refine jH ?_|refine jI ?_)|((with_reducible refine jR ?hq ?_);case hq=>rfl)|((first|(with_reducible first|refine jS fun K hK=>?_|refine jT ?_|refine jU ?_)|((with_reducible refine jV ?hy fun K hK=>?_);case hy=>rfl));simp only [go_sem, Nat.reduceEqDiff, Nat.reduceAdd, Nat.reduceMul, Nat.reduceLeDiff, Nat.reduceLT, Int.reduceLT, Int.reduceLE, Int.reduceEq, Int.reduceNeg, Int.reduceToNat, Nat.reducePow, reduceIte, reduceCtorEq])|((with_reducible first|refine jW ?hy ?_|refine jY ?hy ?_);case hy=>rfl)|((with_reducible first|refine jX ?hy ?_|refine jZ ?hy ?_);case hy=>rfl)|((with_reducible refine jF ?hy ?_);case hy=>decide))
  refine hK1 _ _ ?_
  clear hK1 K1
  repeat' (first|(with_reducible first|refine jA ?_|(refine hK _ _ ?_;clear hK K)|refine jJ fun K hK=>?_|refine jK ?_|refine jL ?_|refine jM ?_|refine jN ?_|refine jO ?_|refine jP ?_|refine jQ ?_|(refine jB ?_;clear hK K)|(refine jC ?_;clear hK K)|refine jD ?_|refine jE ?_|refine jG ?_|refine jH ?_|refine jI ?_)|((with_reducible refine jR ?hq ?_);case hq=>rfl)|((first|(with_reducible first|refine jS fun K hK=>?_|refine jT ?_|refine jU ?_)|((with_reducible refine jV ?hy fun K hK=>?_);case hy=>rfl));simp only [go_sem, Nat.reduceEqDiff, Nat.reduceAdd, Nat.reduceMul, Nat.reduceLeDiff, Nat.reduceLT, Int.reduceLT, Int.reduceLE, Int.reduceEq, Int.reduceNeg, Int.reduceToNat, Nat.reducePow, reduceIte, reduceCtorEq])|((with_reducible first|refine jW ?hy ?_|refine jY ?hy ?_);case hy=>rfl)|((with_reducible first|refine jX ?hy ?_|refine jZ ?hy ?_);case hy=>rfl)|((with_reducible refine jF ?hy ?_);case hy=>decide))
  refine top_ok hN hu ?_
  cases hT : topB N u with
  | true =>
   have e1 : rot1 N u h = N := if_pos hT
   rw [e1] at tail
   repeat' (first|(with_reducible first|refine jA ?_|(refine hK _ _ ?_;clear hK K)|refine jJ fun K hK=>?_|refine jK ?_|refine jL ?_|refine jM ?_|refine jN ?_|refine jO ?_|refine jP ?_|refine jQ ?_|(refine jB ?_;clear hK K)|(refine jC ?_;clear hK K)|refine jD ?_|refine jE ?_|refine jG ?_|refine jH ?_|refine jI ?_)|((with_reducible refine jR ?hq ?_);case hq=>rfl)|((first|(with_reducible first|refine jS fun K hK=>?_|refine jT ?_|refine jU ?_)|((with_reducible refine jV ?hy fun K hK=>?_);case hy=>rfl));simp only [go_sem, Nat.reduceEqDiff, Nat.reduceAdd, Nat.reduceMul, Nat.reduceLeDiff, Nat.reduceLT, Int.reduceLT, Int.reduceLE, Int.reduceEq, Int.reduceNeg, Int.reduceToNat, Nat.reducePow, reduceIte, reduceCtorEq])|((with_reducible first|refine jW ?hy ?_|refine jY ?hy ?_);case hy=>rfl)|((with_reducible first|refine jX ?hy ?_|refine jZ ?hy ?_);case hy=>rfl)|((with_reducible refine jF ?hy ?_);case hy=>decide))
   refine tail _ _ ?_ ?_ ?_ ?_ ?_ ?_ hN (.refl _ _) <;> rfl
  | false =>
   have e1 : rot1 N u h = upd N (N u).up ((N (N u).up).swap u h) := if_neg (by rw [hT]; simp)
   rw [e1] at tail
   have q1 := hN.cell (j := 1) hq rfl
   have q2 := hN.cell (j := 2) hq rfl
   have hswap : hasK (N (N u).up) u = true := by
    unfold topB at hT
    simp only [Bool.or_eq_false_iff, Bool.not_eq_false'] at hT
    exact hT.2
   repeat' (first|(with_reducible first|refine jA ?_|(refine hK _ _ ?_;clear hK K)|refine jJ fun K hK=>?_|refine jK ?_|refine jL ?_|refine jM ?_|refine jN ?_|refine jO ?_|refine jP ?_|refine jQ ?_|(refine jB ?_;clear hK K)|(refine jC ?_;clear hK K)|refine jD ?_|refine jE ?_|refine jG ?_|refine jH ?_|refine jI ?_)|((with_reducible refine jR ?hq ?_);case hq=>rfl)|((first|(with_reducible first|refine jS fun K hK=>?_|refine jT ?_|refine jU ?_)|((with_reducible refine jV ?hy fun K hK=>?_);case hy=>rfl));simp only [go_sem, Nat.reduceEqDiff, Nat.reduceAdd, Nat.reduceMul, Nat.reduceLeDiff, Nat.reduceLT, Int.reduceLT, Int.reduceLE, Int.reduceEq, Int.reduceNeg, Int.reduceToNat, Nat.reducePow, reduceIte, reduceCtorEq, hd, hq])|((with_reducible first|refine jW ?hy ?_|refine jY ?hy ?_);case hy=>rfl)|((with_reducible first|refine jX ?hy ?_|refine jZ ?hy ?_);case hy=>rfl)|((with_reducible refine jF ?hy ?_);case hy=>decide))
   refine x_drawS [] [0, 1, 2, 3, 4, 5, 6, 8, 9, 10, 11, 7, 12, 13] rfl (by kernel_rfl) (Cells []) trivial ?_
   repeat' (first|(with_reducible refine xs_nil ?_)|((first|((with_reducible apply xs_rd);case hi=>rfl)|((with_reducible apply xs_guard_yes);(case hi=>rfl);(case hy=>rfl)));(case hr=>rfl);(case h1=>intro H' hS'; (try simp only [Cells, and_true] at hS');simp only [go_sem, Nat.reduceEqDiff, Nat.reduceAdd, Nat.reduceMul, Nat.reduceLeDiff, Nat.reduceLT, Int.reduceLT, Int.reduceLE, Int.reduceEq, Int.reduceNeg, Int.reduceToNat, Nat.reducePow, reduceIte, reduceCtorEq, hS']; rfl))|((with_reducible refine xs_tail ?hz ?_);case hz=>rfl)|((with_reducible refine xs_keep ?hz ?_);case hz=>first|(with_reducible assumption)|(simp only [go_sem, Nat.reduceEqDiff, Nat.reduceAdd, Nat.reduceMul, Nat.reduceLeDiff, Nat.reduceLT, Int.reduceLT, Int.reduceLE, Int.reduceEq, Int.reduceNeg, Int.reduceToNat, Nat.reducePow, reduceIte, reduceCtorEq, Cells, and_true]; done)|assumption)|((with_reducible apply xs_guard_no);(case hi=>rfl);(case hy=>rfl);(case hS=>assumption))|((first|((with_reducible apply xs_op);(case hi=>rfl))|((with_reducible apply xs_op_yes);(case hi=>rfl);(case hy=>rfl)));(case hr=>rfl);intro K hK; simp only [go_sem, Nat.reduceEqDiff, Nat.reduceAdd, Nat.reduceMul, Nat.reduceLeDiff, Nat.reduceLT, Int.reduceLT, Int.reduceLE, Int.reduceEq, Int.reduceNeg, Int.reduceToNat, Nat.reducePow, reduceIte, reduceCtorEq])|(with_reducible first|refine jA ?_|(refine hK _ _ ?_;clear hK K)|refine jJ fun K hK=>?_|refine jK ?_|refine jL ?_|refine jM ?_|refine jN ?_|refine jO ?_|refine jP ?_|refine jQ ?_|(refine jB ?_;clear hK K)|(refine jC ?_;clear hK K)|refine jD ?_|refine jE ?_|refine jG ?_|refine jH ?_|refine jI ?_)|((with_reducible refine jR ?hq ?_);case hq=>rfl)|((first|(with_reducible first|refine jS fun K hK=>?_|refine jT ?_|refine jU ?_)|((with_reducible refine jV ?hy fun K hK=>?_);case hy=>rfl));simp only [go_sem, Nat.reduceEqDiff, Nat.reduceAdd, Nat.reduceMul, Nat.reduceLeDiff, Nat.reduceLT, Int.reduceLT, Int.reduceLE, Int.reduceEq, Int.reduceNeg, Int.reduceToNat, Nat.reducePow, reduceIte, reduceCtorEq])|((with_reducible first|refine jW ?hy ?_|refine jY ?hy ?_);case hy=>rfl)|((with_reducible first|refine jX ?hy ?_|refine jZ ?hy ?_);case hy=>rfl)|((with_reducible refine jF ?hy ?_);case hy=>decide))
   refine index2 q1 q2 ?_
   unfold hasK at hswap
   by_cases hl : (N (N u).up).l = u
   ·have ei : ix2 (N (N u).up).l (N (N u).up).r u = 0 := if_pos hl.symm
    have es : (N (N u).up).swap u h = { N (N u).up with l := h } := if_pos hl
    rw [ei]
    rw [es] at tail
    have w1 := hN.okw hq 1 (by omega)
    repeat' (first|(with_reducible refine xs_nil ?_)|((first|((with_reducible apply xs_rd);case hi=>rfl)|((with_reducible apply xs_guard_yes);(case hi=>rfl);(case hy=>rfl)));(case hr=>rfl);(case h1=>intro H' hS'; (try simp only [Cells, and_true] at hS');simp only [go_sem, Nat.reduceEqDiff, Nat.reduceAdd, Nat.reduceMul, Nat.reduceLeDiff, Nat.reduceLT, Int.reduceLT, Int.reduceLE, Int.reduceEq, Int.reduceNeg, Int.reduceToNat, Nat.reducePow, reduceIte, reduceCtorEq, w1, hS']; rfl))|((with_reducible refine xs_tail ?hz ?_);case hz=>rfl)|((with_reducible refine xs_keep ?hz ?_);case hz=>first|(with_reducible assumption)|(simp only [go_sem, Nat.reduceEqDiff, Nat.reduceAdd, Nat.reduceMul, Nat.reduceLeDiff, Nat.reduceLT, Int.reduceLT, Int.reduceLE, Int.reduceEq, Int.reduceNeg, Int.reduceToNat, Nat.reducePow, reduceIte, reduceCtorEq, Cells, and_true, w1]; done)|assumption)|((with_reducible apply xs_guard_no);(case hi=>rfl);(case hy=>rfl);(case hS=>assumption))|((first|((with_reducible apply xs_op);(case hi=>rfl))|((with_reducible apply xs_op_yes);(case hi=>rfl);(case hy=>rfl)));(case hr=>rfl);intro K hK; simp only [go_sem, Nat.reduceEqDiff, Nat.reduceAdd, Nat.reduceMul, Nat.reduceLeDiff, Nat.reduceLT, Int.reduceLT, Int.reduceLE, Int.reduceEq, Int.reduceNeg, Int.reduceToNat, Nat.reducePow, reduceIte, reduceCtorEq, w1])|(with_reducible first|refine jA ?_|(refine hK _ _ ?_;clear hK K)|refine jJ fun K hK=>?_|refine jK ?_|refine jL ?_|refine jM ?_|refine jN ?_|refine jO ?_|refine jP ?_|refine jQ ?_|(refine jB ?_;clear hK K)|(refine jC ?_;clear hK K)|refine jD ?_|refine jE ?_|refine jG ?_|refine jH ?_|refine jI ?_)|((with_reducible refine jR ?hq ?_);case hq=>rfl)|((first|(with_reducible first|refine jS fun K hK=>?_|refine jT ?_|refine jU ?_)|((with_reducible refine jV ?hy fun K hK=>?_);case hy=>rfl));simp only [go_sem, Nat.reduceEqDiff, Nat.reduceAdd, Nat.reduceMul, Nat.reduceLeDiff, Nat.reduceLT, Int.reduceLT, Int.reduceLE, Int.reduceEq, Int.reduceNeg, Int.reduceToNat, Nat.reducePow, reduceIte, reduceCtorEq, w1])|((with_reducible first|refine jW ?hy ?_|refine jY ?hy ?_);case hy=>rfl)|((with_reducible first|refine jX ?hy ?_|refine jZ ?hy ?_);case hy=>rfl)|((with_reducible refine jF ?hy ?_);case hy=>decide))
    refine tail _ _ ?_ ?_ ?_ ?_ ?_ ?_ (setL hN hq hh) (hset_fr _ _ _ _) <;> rfl
   ·have hr : (N (N u).up).r = u := by simpa [hl] using hswap
    have ei : ix2 (N (N u).up).l (N (N u).up).r u = 1 := by unfold ix2; rw [if_neg (Ne.symm hl), if_pos hr.symm]
    have es : (N (N u).up).swap u h = { N (N u).up with r := h } := if_neg hl
    rw [ei]
    rw [es] at tail
    have w1 := hN.okw hq 2 (by omega)
    repeat' (first|(with_reducible refine xs_nil ?_)|((first|((with_reducible apply xs_rd);case hi=>rfl)|((with_reducible apply xs_guard_yes);(case hi=>rfl);(case hy=>rfl)));(case hr=>rfl);(case h1=>intro H' hS'; (try simp only [Cells, and_true] at hS');simp only [go_sem, Nat.reduceEqDiff, Nat.reduceAdd, Nat.reduceMul, Nat.reduceLeDiff, Nat.reduceLT, Int.reduceLT, Int.reduceLE, Int.reduceEq, Int.reduceNeg, Int.reduceToNat, Nat.reducePow, reduceIte, reduceCtorEq, w1, hS']; rfl))|((with_reducible refine xs_tail ?hz ?_);case hz=>rfl)|((with_reducible refine xs_keep ?hz ?_);case hz=>first|(with_reducible assumption)|(simp only [go_sem, Nat.reduceEqDiff, Nat.reduceAdd, Nat.reduceMul, Nat.reduceLeDiff, Nat.reduceLT, Int.reduceLT, Int.reduceLE, Int.reduceEq, Int.reduceNeg, Int.reduceToNat, Nat.reducePow, reduceIte, reduceCtorEq, Cells, and_true, w1]; done)|assumption)|((with_reducible apply xs_guard_no);(case hi=>rfl);(case hy=>rfl);(case hS=>assumption))|((first|((with_reducible apply xs_op);(case hi=>rfl))|((with_reducible apply xs_op_yes);(case hi=>rfl);(case hy=>rfl)));(case hr=>rfl);intro K hK; simp only [go_sem, Nat.reduceEqDiff, Nat.reduceAdd, Nat.reduceMul, Nat.reduceLeDiff, Nat.reduceLT, Int.reduceLT, Int.reduceLE, Int.reduceEq, Int.reduceNeg, Int.reduceToNat, Nat.reducePow, reduceIte, reduceCtorEq, w1])|(with_reducible first|refine jA ?_|(refine hK _ _ ?_;clear hK K)|refine jJ fun K hK=>?_|refine jK ?_|refine jL ?_|refine jM ?_|refine jN ?_|refine jO ?_|refine jP ?_|refine jQ ?_|(refine jB ?_;clear hK K)|(refine jC ?_;clear hK K)|refine jD ?_|refine jE ?_|refine jG ?_|refine jH ?_|refine jI ?_)|((with_reducible refine jR ?hq ?_);case hq=>rfl)|((first|(with_reducible first|refine jS fun K hK=>?_|refine jT ?_|refine jU ?_)|((with_reducible refine jV ?hy fun K hK=>?_);case hy=>rfl));simp only [go_sem, Nat.reduceEqDiff, Nat.reduceAdd, Nat.reduceMul, Nat.reduceLeDiff, Nat.reduceLT, Int.reduceLT, Int.reduceLE, Int.reduceEq, Int.reduceNeg, Int.reduceToNat, Nat.reducePow, reduceIte, reduceCtorEq, w1])|((with_reducible first|refine jW ?hy ?_|refine jY ?hy ?_);case hy=>rfl)|((with_reducible first|refine jX ?hy ?_|refine jZ ?hy ?_);case hy=>rfl)|((with_reducible refine jF ?hy ?_);case hy=>decide))
    refine tail _ _ ?_ ?_ ?_ ?_ ?_ ?_ (setR hN hq hh) (hset_fr _ _ _ _) <;> rfl
end
end Go.Proofs.Ytoplhfhjokjbiaa
namespace Go.Li
open Go Go.Hp
set_option linter.unusedVariables false
set_option linter.unusedSimpArgs false

theorem heavy_iff {a b : Ed} : heavy a b = true ↔ a.w > b.w ∨ (a.w = b.w ∧ a.id > b.id) := by
 unfold heavy
 simp only [Bool.or_eq_true, Bool.and_eq_true, decide_eq_true_eq]
theorem heavy_trans {a b c : Ed} (h : heavy a b = true) (k : heavy b c = true) : heavy a c = true := by
 rw [heavy_iff] at *; omega
theorem heavy_total {a b : Ed} (h : a.id ≠ b.id) (k : ¬ heavy a b = true) : heavy b a = true := by
 rw [heavy_iff] at *; omega
theorem heavy_irrefl (a : Ed) : heavy a a = false := by
 rw [Bool.eq_false_iff, Ne, heavy_iff]; omega
abbrev Es := Nat → Option Ed
def Uniq (E : Es) : Prop := ∀ x y e e', E x = some e → E y = some e' → e.id = e'.id → x = y
def Best (E : Es) (b : Nat) (xs : List Nat) : Prop := (b = 0 ∧ ∀ x ∈ xs, E x = none) ∨ (b ∈ xs ∧ ∃ e, E b = some e ∧ ∀ x ∈ xs, ∀ e', E x = some e' → x = b ∨ heavy e e' = true)
theorem Best.congr {E : Es} {b : Nat} {xs ys : List Nat} (h : Best E b xs) (hm : ∀ x, x ∈ ys ↔ x ∈ xs) : Best E b ys := by
 rcases h with ⟨h1, h2⟩ | ⟨h1, e, h2, h3⟩
 ·exact .inl ⟨h1, fun x hx => h2 x ((hm x).1 hx)⟩
 ·exact .inr ⟨(hm b).2 h1, e, h2, fun x hx => h3 x ((hm x).1 hx)⟩
theorem Best.nil (E : Es) : Best E 0 [] := .inl ⟨rfl, fun x h => by cases h⟩
structure EOk (N : Nodes) (E : Es) : Prop where
 is : ∀ h, (N h).isEdge = (E h).isSome
 e : ∀ h x, E h = some x → (N h).e = x
 uq : Uniq E
theorem EOk.congr {N N' : Nodes} {E : Es} (h : EOk N E) (hN : ∀ i, (N' i).isEdge = (N i).isEdge ∧ (N' i).e = (N i).e) : EOk N' E :=
 ⟨fun i => by rw [(hN i).1]; exact h.is i, fun i x hx => by rw [(hN i).2]; exact h.e i x hx, h.uq⟩
theorem heavN_best {N : Nodes} {E : Es} {a b : Nat} {xs ys : List Nat} (hE : EOk N E) (ha : Best E a xs) (hb : Best E b ys) (hd : ∀ x ∈ xs, x ∉ ys) (hx : 0 ∉ xs) (hy : 0 ∉ ys) : Best E (heavN N a b) (xs ++ ys) := by
 unfold heavN
 rcases ha with ⟨ha0, ha⟩ | ⟨ha0, ea, ha1, ha⟩
 ·rw [if_pos ha0]
  rcases hb with ⟨hb0, hb⟩ | ⟨hb0, eb, hb1, hb⟩
  ·refine .inl ⟨hb0, fun x hx => ?_⟩
   rcases List.mem_append.1 hx with h | h
   ·exact ha x h
   ·exact hb x h
  ·refine .inr ⟨List.mem_append_right _ hb0, eb, hb1, fun x hx e' he => ?_⟩
   rcases List.mem_append.1 hx with h | h
   ·rw [ha x h] at he; cases he
   ·exact hb x h e' he
 ·rw [if_neg (fun h : a = 0 => hx (h ▸ ha0))]
  rcases hb with ⟨hb0, hb⟩ | ⟨hb0, eb, hb1, hb⟩
  ·rw [if_pos hb0]
   refine .inr ⟨List.mem_append_left _ ha0, ea, ha1, fun x hx e' he => ?_⟩
   rcases List.mem_append.1 hx with h | h
   ·exact ha x h e' he
   ·rw [hb x h] at he; cases he
  ·rw [if_neg (fun h : b = 0 => hy (h ▸ hb0)), hE.e a ea ha1, hE.e b eb hb1]
   by_cases hh : heavy ea eb = true
   ·rw [if_pos hh]
    refine .inr ⟨List.mem_append_left _ ha0, ea, ha1, fun x hx e' he => ?_⟩
    rcases List.mem_append.1 hx with h | h
    ·exact ha x h e' he
    ·rcases hb x h e' he with rfl | h'
     ·rw [hb1] at he
      obtain rfl := Option.some.inj he
      exact .inr hh
     ·exact .inr (heavy_trans hh h')
   ·rw [if_neg hh]
    have hne : ea.id ≠ eb.id := fun e => hd a ha0 ((hE.uq a b ea eb ha1 hb1 e) ▸ hb0)
    have hba := heavy_total hne hh
    refine .inr ⟨List.mem_append_right _ hb0, eb, hb1, fun x hx e' he => ?_⟩
    rcases List.mem_append.1 hx with h | h
    ·rcases ha x h e' he with rfl | h'
     ·rw [ha1] at he
      obtain rfl := Option.some.inj he
      exact .inr hba
     ·exact .inr (heavy_trans hba h')
    ·exact hb x h e' he
theorem Best.one {N : Nodes} {E : Es} {h : Nat} (hE : EOk N E) : Best E (if (N h).isEdge then h else 0) [h] := by
 rw [hE.is h]
 cases he : E h with
 | none => exact .inl ⟨by simp, fun x hx => by rw [List.mem_singleton.1 hx]; exact he⟩
 | some e => exact .inr ⟨by simp, e, by simpa using he, fun x hx e' he' => .inl (by simpa using hx)⟩
theorem pull_best {N : Nodes} {E : Es} {h : Nat} {xs ys : List Nat} (hE : EOk N E) (hl : Best E (N (N h).l).best xs) (hr : Best E (N (N h).r).best ys) (hd : (xs ++ h :: ys).Nodup) (h0 : 0 ∉ xs ++ h :: ys) :
  ∃ b, pullN N h = upd N h { N h with best := b } ∧ Best E b (xs ++ h :: ys) := by
 simp only [List.mem_append, List.mem_cons, not_or] at h0
 rw [List.nodup_append] at hd
 obtain ⟨d1, d2, d3⟩ := hd
 rw [List.nodup_cons] at d2
 have h1 := heavN_best hE hl hr (fun x hx hy => d3 x hx x (.tail _ hy) rfl) h0.1 h0.2.2
 have hE1 : EOk (pull1 N h) E := hE.congr fun i => by unfold pull1 upd; split; rename_i e; subst e; exact ⟨rfl, rfl⟩; exact ⟨rfl, rfl⟩
 have hm : ∀ x, x ∈ xs ++ h :: ys ↔ x ∈ (xs ++ ys) ++ [h] := fun x => by
  simp only [List.mem_append, List.mem_cons, List.mem_nil_iff, or_false, List.not_mem_nil]
  constructor
  ·rintro (a | a | a) <;> simp [a]
  ·rintro ((a | a) | a) <;> simp [a]
 unfold pullN
 cases hi : (N h).isEdge with
 | false =>
  refine ⟨_, by rw [if_neg (by simp)]; rfl, ?_⟩
  have h2 := Best.one (h := h) hE
  rw [hi, if_neg (by simp)] at h2
  have hnone : E h = none := by
   have := hE.is h
   rw [hi] at this
   cases he : E h with
   | none => rfl
   | some e => rw [he] at this; cases this
  rcases h1 with ⟨a, b⟩ | ⟨a, e, b, c⟩
  ·refine .inl ⟨a, fun x hx => ?_⟩
   rcases List.mem_append.1 ((hm x).1 hx) with h | h
   ·exact b x h
   ·rw [List.mem_singleton.1 h]; exact hnone
  ·refine .inr ⟨(hm _).2 (List.mem_append_left _ a), e, b, fun x hx e' he => ?_⟩
   rcases List.mem_append.1 ((hm x).1 hx) with h | h
   ·exact c x h e' he
   ·rw [List.mem_singleton.1 h, hnone] at he; cases he
 | true =>
  refine ⟨heavN (pull1 N h) (pull1 N h h).best h, ?_, ?_⟩
  ·rw [if_pos rfl]
   funext i
   unfold pull1 upd
   by_cases e : i = h <;> simp [e]
  ·have h2 := Best.one (h := h) hE1
   have hi1 : (pull1 N h h).isEdge = true := by unfold pull1; rw [upd_same]; exact hi
   rw [hi1, if_pos rfl] at h2
   have h3 : (pull1 N h h).best = heavN N (N (N h).l).best (N (N h).r).best := by unfold pull1; rw [upd_same]
   rw [h3]
   refine (heavN_best hE1 h1 h2 (fun x hx hy => ?_) ?_ ?_).congr hm
   ·rw [List.mem_singleton.1 hy] at hx
    rcases List.mem_append.1 hx with h' | h'
    ·exact d3 h h' h (.head _) rfl
    ·exact d2.1 h'
   ·simp only [List.mem_append, not_or]; exact ⟨h0.1, h0.2.2⟩
   ·simp only [List.mem_singleton]; exact h0.2.1
inductive Tr where
 | nil
 | node (l : Tr) (h : Nat) (r : Tr)
namespace Tr
def root : Tr → Nat
 | nil => 0
 | node _ h _ => h
def list : Tr → List Nat
 | nil => []
 | node l h r => l.list ++ h :: r.list
def mir : Tr → Tr
 | nil => nil
 | node l h r => node r.mir h l.mir
theorem mir_root : ∀ t : Tr, t.mir.root = t.root
 | nil => rfl
 | node _ _ _ => rfl
theorem mir_list : ∀ t : Tr, t.mir.list = t.list.reverse
 | nil => rfl
 | node l h r => by simp [mir, list, mir_list l, mir_list r]
theorem root_mem {t : Tr} (h : t.root ≠ 0) : t.root ∈ t.list := by
 cases t with
 | nil => exact absurd rfl h
 | node l k r => simp [root, list]
end Tr
def TrAt (N : Nodes) (E : Es) : Bool → Nat → Tr → Prop
 | _, _, .nil => True
 | rev, up, .node l h r => h ≠ 0 ∧ (N h).up = up ∧ (N h).kid rev = l.root ∧ (N h).kid (!rev) = r.root ∧ Best E (N h).best (l.list ++ h :: r.list) ∧ TrAt N E (rev != (N h).turned) h l ∧ TrAt N E (rev != (N h).turned) h r
theorem TrAt.congr {N N' : Nodes} {E : Es} : ∀ {t : Tr} {rev : Bool} {up : Nat}, TrAt N E rev up t → (∀ h ∈ t.list, N' h = N h) → TrAt N' E rev up t
 | .nil, _, _, _, _ => trivial
 | .node l h r, rev, up, ⟨a, b, c, d, e, f, g⟩, hN => by
  simp only [Tr.list, List.mem_append, List.mem_cons] at hN
  have hh := hN h (.inr (.inl rfl))
  exact ⟨a, by rw [hh]; exact b, by rw [hh]; exact c, by rw [hh]; exact d, by rw [hh]; exact e, by rw [hh]; exact f.congr fun k hk => hN k (.inl hk), by rw [hh]; exact g.congr fun k hk => hN k (.inr (.inr hk))⟩
theorem TrAt.ne_zero {N : Nodes} {E : Es} : ∀ {t : Tr} {rev : Bool} {up : Nat}, TrAt N E rev up t → 0 ∉ t.list
 | .nil, _, _, _ => by simp [Tr.list]
 | .node l h r, rev, up, ⟨a, b, c, d, e, f, g⟩ => by
  simp only [Tr.list, List.mem_append, List.mem_cons, not_or]
  exact ⟨f.ne_zero, Ne.symm a, g.ne_zero⟩
theorem TrAt.root_up {N : Nodes} {E : Es} {t : Tr} {rev : Bool} {up : Nat} (h : TrAt N E rev up t) (h0 : t.root ≠ 0) : (N t.root).up = up := by
 cases t with
 | nil => exact absurd rfl h0
 | node l k r => exact h.2.1
theorem TrAt.best {N : Nodes} {E : Es} {t : Tr} {rev : Bool} {up : Nat} (hz : (N 0).best = 0) (h : TrAt N E rev up t) : Best E (N t.root).best t.list := by
 cases t with
 | nil => rw [show Tr.nil.root = 0 from rfl, hz]; exact Best.nil E
 | node l k r => exact h.2.2.2.2.1
theorem TrAt.mir {N : Nodes} {E : Es} : ∀ {t : Tr} {rev : Bool} {up : Nat}, TrAt N E rev up t → TrAt N E (!rev) up t.mir
 | .nil, _, _, _ => trivial
 | .node l h r, rev, up, ⟨a, b, c, d, e, f, g⟩ => by
  refine ⟨a, b, by rw [Tr.mir_root]; exact d, by rw [Tr.mir_root, Bool.not_not]; exact c, e.congr fun x => ?_, ?_, ?_⟩
  ·simp only [Tr.mir_list, List.mem_append, List.mem_reverse, List.mem_cons]
   constructor
   ·rintro (h | h | h) <;> simp [h]
   ·rintro (h | h | h) <;> simp [h]
  ·have := g.mir
   rw [show ((!rev) != (N h).turned) = !(rev != (N h).turned) from by cases rev <;> cases (N h).turned <;> rfl]
   exact this
  ·have := f.mir
   rw [show ((!rev) != (N h).turned) = !(rev != (N h).turned) from by cases rev <;> cases (N h).turned <;> rfl]
   exact this
theorem TrAt.hung {N N' : Nodes} {E : Es} {t : Tr} {rev : Bool} {up up' : Nat} (h : TrAt N E rev up t) (hd : t.list.Nodup) (h1 : t.root ≠ 0 → N' t.root = { N t.root with up := up' }) (h2 : ∀ k ∈ t.list, k ≠ t.root → N' k = N k) : TrAt N' E rev up' t := by
 cases t with
 | nil => trivial
 | node l k r =>
  obtain ⟨a, b, c, d, e, f, g⟩ := h
  simp only [Tr.list, Tr.root, List.mem_append, List.mem_cons] at hd h1 h2
  rw [List.nodup_append] at hd
  obtain ⟨n1, n2, n3⟩ := hd
  rw [List.nodup_cons] at n2
  have hk := h1 a
  refine ⟨a, by rw [hk], by rw [hk]; exact c, by rw [hk]; exact d, by rw [hk]; exact e, ?_, ?_⟩
  ·rw [hk]; exact f.congr fun i hi => h2 i (.inl hi) (fun e => n3 i hi k (.head _) e)
  ·rw [hk]; exact g.congr fun i hi => h2 i (.inr (.inr hi)) (fun e => n2.1 (e ▸ hi))
theorem TrAt.flip {N N' : Nodes} {E : Es} {t : Tr} {rev : Bool} {up : Nat} (h : TrAt N E rev up t) (hd : t.list.Nodup) (h1 : t.root ≠ 0 → N' t.root = (N t.root).flip) (h2 : ∀ k ∈ t.list, k ≠ t.root → N' k = N k) : TrAt N' E (!rev) up t := by
 cases t with
 | nil => trivial
 | node l k r =>
  obtain ⟨a, b, c, d, e, f, g⟩ := h
  simp only [Tr.list, Tr.root, List.mem_append, List.mem_cons] at hd h1 h2
  rw [List.nodup_append] at hd
  obtain ⟨n1, n2, n3⟩ := hd
  rw [List.nodup_cons] at n2
  have hk := h1 a
  have e1 : ∀ s, (N' k).kid s = (N k).kid (!s) := fun s => by rw [hk]; cases s <;> rfl
  have e2 : ((!rev) != (N' k).turned) = (rev != (N k).turned) := by rw [hk]; show ((!rev) != (!(N k).turned)) = _; cases rev <;> cases (N k).turned <;> rfl
  refine ⟨a, by rw [hk]; exact b, by rw [e1, Bool.not_not]; exact c, by rw [e1, Bool.not_not]; exact d, by rw [hk]; exact e, ?_, ?_⟩
  ·rw [e2]; exact f.congr fun i hi => h2 i (.inl hi) (fun e => n3 i hi k (.head _) e)
  ·rw [e2]; exact g.congr fun i hi => h2 i (.inr (.inr hi)) (fun e => n2.1 (e ▸ hi))
theorem flipK_same {N : Nodes} {k : Nat} (h : k ≠ 0) : flipK N k k = (N k).flip := by unfold flipK; rw [if_neg h, upd_same]
theorem flipK_ne {N : Nodes} {k i : Nat} (h : i ≠ k) : flipK N k i = N i := by unfold flipK; split; rfl; rw [upd_ne _ _ h]
theorem pushN_ne {N : Nodes} {h i : Nat} (h1 : i ≠ h) (h2 : i ≠ (N h).l) (h3 : i ≠ (N h).r) : pushN N h i = N i := by
 unfold pushN
 split
 ·rw [flipK_ne h3, flipK_ne h2, upd_ne _ _ h1]
 ·rfl
theorem pushN_up {N : Nodes} {h : Nat} (i : Nat) : (pushN N h i).up = (N i).up ∧ (pushN N h i).isEdge = (N i).isEdge ∧ (pushN N h i).e = (N i).e ∧ (pushN N h i).best = (N i).best := by
 have f : ∀ (M : Nodes) (k : Nat), (flipK M k i).up = (M i).up ∧ (flipK M k i).isEdge = (M i).isEdge ∧ (flipK M k i).e = (M i).e ∧ (flipK M k i).best = (M i).best := fun M k => by
  unfold flipK upd
  split
  ·exact ⟨rfl, rfl, rfl, rfl⟩
  ·by_cases e : i = k
   ·subst e; simp [Nd.flip]
   ·simp [e]
 unfold pushN
 split
 ·have u1 : ∀ M : Nodes, (upd M h { M h with turned := false } i).up = (M i).up ∧ (upd M h { M h with turned := false } i).isEdge = (M i).isEdge ∧ (upd M h { M h with turned := false } i).e = (M i).e ∧ (upd M h { M h with turned := false } i).best = (M i).best := fun M => by
   unfold upd
   by_cases e : i = h
   ·subst e; simp
   ·simp [e]
  obtain ⟨a1, a2, a3, a4⟩ := f (flipK (upd N h { N h with turned := false }) (N h).l) (N h).r
  obtain ⟨b1, b2, b3, b4⟩ := f (upd N h { N h with turned := false }) (N h).l
  obtain ⟨c1, c2, c3, c4⟩ := u1 N
  exact ⟨by rw [a1, b1, c1], by rw [a2, b2, c2], by rw [a3, b3, c3], by rw [a4, b4, c4]⟩
 ·exact ⟨rfl, rfl, rfl, rfl⟩
theorem pushN_self {N : Nodes} {h : Nat} (h1 : (N h).l ≠ h) (h2 : (N h).r ≠ h) : pushN N h h = { N h with turned := false } := by
 unfold pushN
 split
 ·rw [flipK_ne (Ne.symm h2), flipK_ne (Ne.symm h1), upd_same]
 ·rename_i ht
  have : (N h).turned = false := by simpa using ht
  generalize N h = r at this
  cases r; simp at this; subst this; rfl
theorem push_tr {N : Nodes} {E : Es} {l r : Tr} {h up : Nat} (hT : TrAt N E false up (.node l h r)) (hd : (Tr.node l h r).list.Nodup) :
  TrAt (pushN N h) E false up (.node l h r) ∧ (pushN N h h).turned = false ∧ (∀ i, i ∉ (Tr.node l h r).list → pushN N h i = N i) := by
 obtain ⟨h0, b, c, d, e, f, g⟩ := hT
 have z1 := f.ne_zero
 have z2 := g.ne_zero
 simp only [Tr.list] at hd
 rw [List.nodup_append] at hd
 obtain ⟨n1, n2, n3⟩ := hd
 rw [List.nodup_cons] at n2
 have kl : (N h).l = l.root := c
 have kr : (N h).r = r.root := d
 have hl : l.root ≠ h := fun e => by
  have := Tr.root_mem (t := l) (by rw [e]; exact h0)
  rw [e] at this
  exact n3 h this h (.head _) rfl
 have hr : r.root ≠ h := fun e => by
  have := Tr.root_mem (t := r) (by rw [e]; exact h0)
  rw [e] at this
  exact n2.1 this
 have hs := pushN_self (N := N) (h := h) (by rw [kl]; exact hl) (by rw [kr]; exact hr)
 have off : ∀ i, i ∉ (Tr.node l h r).list → pushN N h i = N i := fun i hi => by
  simp only [Tr.list, List.mem_append, List.mem_cons, not_or] at hi
  by_cases h1 : (N h).turned = true
  ·unfold pushN
   rw [if_pos h1]
   by_cases hi0 : i = 0
   ·subst hi0
    have f0 : ∀ (M : Nodes) (k : Nat), flipK M k 0 = M 0 := fun M k => by
     unfold flipK
     split
     ·rfl
     ·rename_i hk; rw [upd_ne _ _ (Ne.symm hk)]
    rw [f0, f0, upd_ne _ _ hi.2.1]
   ·rw [flipK_ne, flipK_ne, upd_ne _ _ hi.2.1]
    ·rw [kl]; intro e; exact hi.1 (e ▸ Tr.root_mem (t := l) (by rw [← e]; exact hi0))
    ·rw [kr]; intro e; exact hi.2.2 (e ▸ Tr.root_mem (t := r) (by rw [← e]; exact hi0))
  ·unfold pushN
   rw [if_neg h1]
 refine ⟨⟨h0, by rw [hs]; exact b, by rw [hs]; exact c, by rw [hs]; exact d, by rw [hs]; exact e, ?_, ?_⟩, by rw [hs], off⟩
 ·rw [hs]
  show TrAt _ _ (false != false) h l
  by_cases ht : (N h).turned = true
  ·rw [ht] at f
   have hlr : ∀ k ∈ l.list, k ≠ r.root ∨ r.root = 0 := fun k hk => by
    by_cases hr0 : r.root = 0
    ·exact .inr hr0
    ·exact .inl fun e => n3 k hk r.root (.tail _ (Tr.root_mem hr0)) e
   have fr : ∀ (M : Nodes) k, k ∈ l.list → flipK M r.root k = M k := fun M k hk => by
    rcases hlr k hk with h | h
    ·exact flipK_ne h
    ·unfold flipK; rw [if_pos h]
   have := f.flip (N' := pushN N h) n1 (fun hz => ?_) (fun k hk hne => ?_)
   ·exact this
   ·unfold pushN
    rw [if_pos ht, kr, kl, fr _ _ (Tr.root_mem hz), flipK_same hz, upd_ne _ _ hl]
   ·unfold pushN
    rw [if_pos ht, kr, kl, fr _ _ hk, flipK_ne hne, upd_ne _ _ (fun e => n3 k hk h (.head _) e)]
  ·simp only [Bool.not_eq_true] at ht
   rw [ht] at f
   refine f.congr fun k hk => ?_
   unfold pushN
   rw [ht, if_neg (by simp)]
 ·rw [hs]
  show TrAt _ _ (false != false) h r
  by_cases ht : (N h).turned = true
  ·rw [ht] at g
   have hlr : ∀ k ∈ r.list, k ≠ l.root ∨ l.root = 0 := fun k hk => by
    by_cases hr0 : l.root = 0
    ·exact .inr hr0
    ·exact .inl fun e => n3 l.root (Tr.root_mem hr0) k (.tail _ hk) e.symm
   have fr : ∀ (M : Nodes) k, k ∈ r.list → flipK M l.root k = M k := fun M k hk => by
    rcases hlr k hk with h | h
    ·exact flipK_ne h
    ·unfold flipK; rw [if_pos h]
   have := g.flip (N' := pushN N h) n2.2 (fun hz => ?_) (fun k hk hne => ?_)
   ·exact this
   ·unfold pushN
    rw [if_pos ht, kr, kl, flipK_same hz, fr _ _ (Tr.root_mem hz), upd_ne _ _ hr]
   ·unfold pushN
    rw [if_pos ht, kr, kl, flipK_ne hne, fr _ _ hk, upd_ne _ _ (fun (e : k = h) => n2.1 (e ▸ hk))]
  ·simp only [Bool.not_eq_true] at ht
   rw [ht] at g
   refine g.congr fun k hk => ?_
   unfold pushN
   rw [ht, if_neg (by simp)]
end Go.Li
