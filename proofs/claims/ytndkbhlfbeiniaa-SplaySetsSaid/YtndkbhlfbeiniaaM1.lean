/-
  A plain wp over heaps: the meaning of Sem over a heap alone, sound for every world with that heap.
  The meaning of single operations over a heap, typed; sound for the model's own.
  The meaning of one operation over a heap (reading ones, then all), sound for the model's own.
  Operations that write or make memory; calls; lists of operations; code: over a heap, sound for the model's own.
  Operations over a heap: their meaning is sound for the model's own.
  One operation, a region, code and calls over a heap: sound for the model's own.
  Regions, code and calls over a heap: sound for the model's own.
  Regions that draw their order: what only reads may be taken first; where the text's order stands for all.
  Code and calls over a heap: sound for the model's own.
  Steps of a walk: one operation at a time, what follows behind a variable.
  Regions that draw their order: an operation that reads may be taken first.
  Memory as blocks: what a store and a new block do to cells and to whole blocks; frames; rows of cells that a slice owns.
  From a call over heaps to a law's walk over worlds.
  Rows of ints of their own: reading, writing, appending; which block they lie in.
  Equality of pairs of ints as values.
  Cells behind pushes and stores, as rules.
  Equality of flat structs (fields that are numbers, bools or texts) as values.
  Slices that are read: rows of ints within a block; picking.
  What a law's walk is told of slices that came in.
-/
import Derived.Orders
import Derived.Laws.Sem
import Derived.Deep.Quiet
import Derived.Scope
import Derived.Below
import Derived.WalkKit
import Derived.ProofKit
import Derived.OpenShut
import Derived.ShutString
import Derived.ChangeOld
import Derived.Deep.Fields
namespace Go.Hp
open Go
set_option linter.unusedVariables false
set_option linter.unusedSimpArgs false

abbrev Heap := Array Obj
abbrev Env := Nat → Value

def hcell (H : Heap) (a : Addr) : Option Value :=
  match H[a.block]? with
  | some (.cells c _ _) => if a.spot.isSome then none else c[a.off]?
  | _ => none
def hfrozen (H : Heap) (a : Addr) : Bool :=
  match H[a.block]? with
  | some (.cells _ _ (lo, hi)) => lo ≤ a.off && a.off < hi
  | _ => false
def hshape (H : Heap) (r : Nat) : Option (TypeId × Nat) :=
  match H[r]? with
  | some (.cells c elem _) => some (elem, c.size)
  | _ => none
def hset (H : Heap) (a : Addr) (v : Value) : Heap :=
  H.modify a.block fun
      | .cells c elem frozen => .cells (if a.spot.isSome then c else c.setIfInBounds a.off v) elem frozen
      | o => o
def hfreeze (H : Heap) (a : Addr) (n : Nat) : Heap :=
  if n = 0 then H else
  H.modify a.block fun
      | .cells c elem (lo, hi) => .cells c elem (if lo == hi then (a.off, a.off + n) else (min lo a.off, max hi (a.off + n)))
      | o => o
def plainVal : Value → Bool
  | .agg _ | .tuple _ => false
  | _ => true
def isCells : Obj → Bool
  | .cells .. => true
  | _ => false

structure Like (w w' : World) : Prop where
  os : w'.os = w.os
  tape : w'.tape = w.tape
  output : w'.output = w.output
theorem Like.refl (w : World) : Like w w := ⟨rfl, rfl, rfl⟩
theorem Like.trans {a b c : World} (h : Like a b) (k : Like b c) : Like a c := ⟨k.os.trans h.os, k.tape.trans h.tape, k.output.trans h.output⟩

theorem cell_eq (w : World) (a : Addr) : w.cell? a = hcell w.heap a := rfl
theorem frozen_eq (w : World) (a : Addr) : w.frozen? a = hfrozen w.heap a := rfl
theorem shape_eq (w : World) (r : Nat) : w.shape? r = hshape w.heap r := rfl
theorem set_eq (w : World) (a : Addr) (v : Value) : (w.setCell a v).heap = hset w.heap a v := rfl
theorem freeze_eq (w : World) (a : Addr) (n : Nat) : (w.freeze a n).heap = hfreeze w.heap a n := by
  unfold World.freeze hfreeze
  split <;> rfl
theorem freeze_like (w : World) (a : Addr) (n : Nat) : Like w (w.freeze a n) := by
  unfold World.freeze
  split <;> exact ⟨rfl, rfl, rfl⟩

/-- The wp of a Sem over a heap. -/
def semHp (P : Program) {α : Type} : Sem α → Heap → (α → Heap → Prop) → Prop
  | .pure a, H, K => K a H
  | .load _ a k, H, K => ∃ v, hcell H a = some v ∧ semHp P (k v) H K
  | .store _ a v k, H, K => plainVal v = true ∧ (∃ u, hcell H a = some u) ∧ hfrozen H a = false ∧ semHp P k (hset H a v) K
  | .new o k, H, K => semHp P (k H.size) (H.push o) K
  | .shape r k, H, K => semHp P (k (hshape H r)) H K
  | .freeze a n k, H, K => semHp P k (hfreeze H a n) K
  | .frozen a k, H, K => semHp P (k (hfrozen H a)) H K
  | .getObj r k, H, K => ∃ o, H[r]? = some o ∧ isCells o = false ∧ semHp P (k o) H K
  | .setObj r o k, H, K => (∃ o', H[r]? = some o' ∧ isCells o' = false) ∧ semHp P k (H.setIfInBounds r o) K
  | .choose q k, H, K => if q.forced then semHp P (k 0) H K else ∀ t, semHp P (k (q.cut t)) H K
  | .sys _ _, _, _ => False
  | .program k, H, K => semHp P (k P) H K
  | .mark _ k, H, K => semHp P k H K
  | .halt _, _, _ => False

theorem semHp_run {P : Program} {α : Type} (s : Sem α) : ∀ (w : World) (K : α → Heap → Prop), semHp P s w.heap K →
    ∃ x w', s.run P w = .ok x w' ∧ K x w'.heap ∧ Like w w' := by
  induction s with
  | pure a => exact fun w K h => ⟨a, w, rfl, h, .refl w⟩
  | load m a k ih =>
    rintro w K ⟨v, hv, h⟩
    obtain ⟨x, w', h1, h2, h3⟩ := ih v w K h
    exact ⟨x, w', by simp only [Sem.run, cell_eq, hv, h1], h2, h3⟩
  | store m a v k ih =>
    rintro w K ⟨hp, ⟨u, hu⟩, hf, h⟩
    obtain ⟨x, w', h1, h2, h3⟩ := ih (w.setCell a v) K h
    refine ⟨x, w', ?_, h2, (show Like w (w.setCell a v) from ⟨rfl, rfl, rfl⟩).trans h3⟩
    cases v <;> first | (simp [plainVal] at hp; done) | (simp only [Sem.run, cell_eq, hu, frozen_eq, hf]; exact h1)
  | new o k ih =>
    intro w K h
    obtain ⟨x, w', h1, h2, h3⟩ := ih w.heap.size { w with heap := w.heap.push o } K h
    exact ⟨x, w', by simp only [Sem.run]; exact h1, h2, (show Like w { w with heap := w.heap.push o } from ⟨rfl, rfl, rfl⟩).trans h3⟩
  | shape r k ih =>
    intro w K h
    obtain ⟨x, w', h1, h2, h3⟩ := ih (hshape w.heap r) w K h
    exact ⟨x, w', by simp only [Sem.run, shape_eq]; exact h1, h2, h3⟩
  | freeze a n k ih =>
    intro w K h
    obtain ⟨x, w', h1, h2, h3⟩ := ih (w.freeze a n) K (by rw [freeze_eq]; exact h)
    exact ⟨x, w', by simp only [Sem.run]; exact h1, h2, (freeze_like w a n).trans h3⟩
  | frozen a k ih =>
    intro w K h
    obtain ⟨x, w', h1, h2, h3⟩ := ih (hfrozen w.heap a) w K h
    exact ⟨x, w', by simp only [Sem.run, frozen_eq]; exact h1, h2, h3⟩
  | getObj r k ih =>
    rintro w K ⟨o, ho, hc, h⟩
    obtain ⟨x, w', h1, h2, h3⟩ := ih o w K h
    refine ⟨x, w', ?_, h2, h3⟩
    cases o <;> first | (simp [isCells] at hc; done) | (simp only [Sem.run, ho]; exact h1)
  | setObj r o k ih =>
    rintro w K ⟨⟨o', ho, hc⟩, h⟩
    obtain ⟨x, w', h1, h2, h3⟩ := ih { w with heap := w.heap.setIfInBounds r o } K h
    refine ⟨x, w', ?_, h2, (show Like w { w with heap := w.heap.setIfInBounds r o } from ⟨rfl, rfl, rfl⟩).trans h3⟩
    cases o' <;> first | (simp [isCells] at hc; done) | (simp only [Sem.run, ho]; exact h1)
  | choose q k ih =>
    intro w K h
    unfold semHp at h
    by_cases hq : q.forced = true
    · rw [if_pos hq] at h
      obtain ⟨x, w', h1, h2, h3⟩ := ih 0 w K h
      exact ⟨x, w', by simp only [Sem.run, hq, if_true]; exact h1, h2, h3⟩
    · rw [if_neg hq] at h
      obtain ⟨x, w', h1, h2, h3⟩ := ih _ { w with drawn := w.drawn + 1 } K (h (w.tape w.drawn q))
      exact ⟨x, w', by simp only [Sem.run]; rw [if_neg hq]; exact h1, h2, (show Like w { w with drawn := w.drawn + 1 } from ⟨rfl, rfl, rfl⟩).trans h3⟩
  | sys c k ih => exact fun w K h => h.elim
  | program k ih =>
    intro w K h
    obtain ⟨x, w', h1, h2, h3⟩ := ih P w K h
    exact ⟨x, w', by simp only [Sem.run]; exact h1, h2, h3⟩
  | mark m k ih =>
    intro w K h
    obtain ⟨x, w', h1, h2, h3⟩ := ih w K h
    exact ⟨x, w', by simp only [Sem.run]; exact h1, h2, h3⟩
  | halt h => exact fun w K h => h.elim

theorem semHp_bind {P : Program} {α β : Type} (s : Sem α) (f : α → Sem β) : ∀ (H : Heap) (K : β → Heap → Prop),
    semHp P (s.bind f) H K = semHp P s H (fun a H' => semHp P (f a) H' K) := by
  induction s <;> intro H K <;> simp only [Sem.bind, semHp, *]
theorem semHp_bind' {P : Program} {α β : Type} (s : Sem α) (f : α → Sem β) (H : Heap) (K : β → Heap → Prop) :
    semHp P (s >>= f) H K = semHp P s H (fun a H' => semHp P (f a) H' K) := semHp_bind s f H K
theorem semHp_pure {P : Program} {α : Type} (a : α) (H : Heap) (K : α → Heap → Prop) : semHp P (Pure.pure a : Sem α) H K = K a H := rfl
theorem semHp_mono {P : Program} {α : Type} (s : Sem α) : ∀ (H : Heap) (K K' : α → Heap → Prop), (∀ a H, K a H → K' a H) → semHp P s H K → semHp P s H K' := by
  induction s <;> intro H K K' hk h <;> simp only [semHp] at h ⊢
  case pure => exact hk _ _ h
  case load ih => exact h.imp fun v hv => ⟨hv.1, ih v H K K' hk hv.2⟩
  case store ih => exact ⟨h.1, h.2.1, h.2.2.1, ih _ K K' hk h.2.2.2⟩
  case getObj ih => exact h.imp fun v hv => ⟨hv.1, hv.2.1, ih v H K K' hk hv.2.2⟩
  case setObj ih => exact ⟨h.1, ih _ K K' hk h.2⟩
  case choose q k ih =>
    split at h
    · rw [if_pos ‹_›]; exact ih _ H K K' hk h
    · rw [if_neg ‹_›]; exact fun t => ih _ H K K' hk (h t)
  all_goals first | (rename_i ih; exact ih _ _ _ _ hk h) | (rename_i ih; exact ih _ _ _ hk h) | exact h

/-- s only reads, and hands back x. -/
def Rd (P : Program) (H : Heap) {α : Type} : Sem α → α → Prop
  | .pure a, x => a = x
  | .load _ a k, x => ∃ v, hcell H a = some v ∧ Rd P H (k v) x
  | .getObj r k, x => ∃ o, H[r]? = some o ∧ isCells o = false ∧ Rd P H (k o) x
  | .shape r k, x => r < H.size ∧ Rd P H (k (hshape H r)) x
  | .frozen a k, x => a.block < H.size ∧ Rd P H (k (hfrozen H a)) x
  | .program k, x => Rd P H (k P) x
  | .mark _ k, x => Rd P H k x
  | _, _ => False
theorem Rd.run {P : Program} {H : Heap} {α : Type} {s : Sem α} {x : α} : Rd P H s x → ∀ w : World, w.heap = H → s.run P w = .ok x w := by
  induction s with
  | pure a => intro h w _; rw [show a = x from h]; rfl
  | load m a k ih =>
    rintro ⟨v, hv, h⟩ w hw
    simp only [Sem.run, cell_eq, hw, hv]
    exact ih v h w hw
  | getObj r k ih =>
    rintro ⟨o, ho, hc, h⟩ w hw
    have := ih o h w hw
    subst hw
    cases o <;> first | (simp [isCells] at hc; done) | (simp only [Sem.run, ho]; exact this)
  | shape r k ih =>
    rintro ⟨_, h⟩ w hw
    simp only [Sem.run, shape_eq, hw]
    exact ih _ h w hw
  | frozen a k ih =>
    rintro ⟨_, h⟩ w hw
    simp only [Sem.run, frozen_eq, hw]
    exact ih _ h w hw
  | program k ih => intro h w hw; simp only [Sem.run]; exact ih P h w hw
  | mark m k ih => intro h w hw; simp only [Sem.run]; exact ih h w hw
  | _ => intro h; exact h.elim
theorem Rd.bind {P : Program} {H : Heap} {α β : Type} {s : Sem α} {f : α → Sem β} {x : α} {y : β} : Rd P H s x → Rd P H (f x) y → Rd P H (s >>= f) y := by
  intro h k
  show Rd P H (s.bind f) y
  induction s with
  | pure a => rw [show a = x from h]; exact k
  | load m a c ih => obtain ⟨v, hv, h⟩ := h; exact ⟨v, hv, ih v h⟩
  | getObj r c ih => obtain ⟨o, ho, hc, h⟩ := h; exact ⟨o, ho, hc, ih o h⟩
  | shape r c ih => exact ⟨h.1, ih _ h.2⟩
  | frozen a c ih => exact ⟨h.1, ih _ h.2⟩
  | program c ih => exact ih P h
  | mark m c ih => exact ih h
  | _ => exact h.elim
theorem Rd.ret {P : Program} {H : Heap} {α : Type} (x : α) : Rd P H (Pure.pure x : Sem α) x := rfl
theorem Rd.ret' {P : Program} {H : Heap} {α : Type} {x y : α} (h : x = y) : Rd P H (Pure.pure x : Sem α) y := h
theorem Rd.load {P : Program} {H : Heap} {a : Addr} {v : Value} (h : hcell H a = some v) : Rd P H (load a) v := ⟨v, h, rfl⟩
theorem Rd.program {P : Program} {H : Heap} : Rd P H Go.program P := rfl
theorem Rd.getObj {P : Program} {H : Heap} {r : Nat} {o : Obj} (h : H[r]? = some o) (hc : isCells o = false) : Rd P H (getObj r) o := ⟨o, h, hc, rfl⟩
/-- What is read of old blocks reads the same where there are more. -/
theorem Rd.more {P : Program} {H H' : Heap} (hs : H.size ≤ H'.size) (hb : ∀ b, b < H.size → H'[b]? = H[b]?) {α : Type} {s : Sem α} {x : α} : Rd P H s x → Rd P H' s x := by
  have lt : ∀ (b : Nat) (o : Obj), H[b]? = some o → b < H.size := fun b o h => by
    rcases Nat.lt_or_ge b H.size with h' | h'
    · exact h'
    · rw [Array.getElem?_eq_none h'] at h; cases h
  induction s with
  | pure a => exact id
  | load m a c ih =>
    rintro ⟨v, hv, h⟩
    refine ⟨v, ?_, ih v h⟩
    unfold hcell at hv ⊢
    rw [hb a.block]
    · exact hv
    · cases ho : H[a.block]? with
      | none => rw [ho] at hv; cases hv
      | some o => exact lt _ _ ho
  | getObj r c ih => rintro ⟨o, ho, hc, h⟩; exact ⟨o, by rw [hb r (lt _ _ ho)]; exact ho, hc, ih o h⟩
  | shape r c ih =>
    rintro ⟨hr, h⟩
    refine ⟨by omega, ?_⟩
    have : hshape H' r = hshape H r := by unfold hshape; rw [hb r hr]
    rw [this]; exact ih _ h
  | frozen a c ih =>
    rintro ⟨hr, h⟩
    refine ⟨by omega, ?_⟩
    have : hfrozen H' a = hfrozen H a := by unfold hfrozen; rw [hb _ hr]
    rw [this]; exact ih _ h
  | program c ih => exact fun h => ih P h
  | mark m c ih => exact fun h => ih h
  | _ => exact fun h => h.elim
end Go.Hp

namespace Go.Hp
open Go
set_option linter.unusedVariables false
set_option linter.unusedSimpArgs false

structure TI where
  desc : TypeDesc
  size : Nat
  bytes : Nat
  zero : Value

/-- What the program's table says of a type. -/
def tab (P : Program) (t : TypeId) : Option TI :=
  match P.info? t, P.underlying t with
  | some i, some d => match i.zero with
    | some z => if z.cells.size = i.size then some ⟨d, i.size, i.bytes, z⟩ else none
    | none => none
  | _, _ => none
theorem tab_spec {P : Program} {t : TypeId} {ti : TI} (h : tab P t = some ti) :
    ∃ i, P.info? t = some i ∧ P.underlying t = some ti.desc ∧ i.zero = some ti.zero ∧ i.size = ti.size ∧ i.bytes = ti.bytes ∧ ti.zero.cells.size = ti.size := by
  unfold tab at h
  split at h
  · rename_i i d hi hd
    split at h
    · rename_i z hz
      split at h
      · rename_i hs
        obtain rfl := Option.some.inj h
        exact ⟨i, hi, hd, hz, rfl, rfl, hs⟩
      · cases h
    · cases h
  · cases h
section
variable {P : Program} {H : Heap} {t : TypeId} {ti : TI}
theorem rd_typeInfo {i : TypeInfo} (h : P.info? t = some i) : Rd P H (typeInfo t) i := Rd.bind Rd.program (by rw [h]; exact Rd.ret i)
theorem rd_underlying (h : tab P t = some ti) : Rd P H (underlying t) ti.desc := by
  obtain ⟨i, h1, h2, h3, h4, h5, h6⟩ := tab_spec h
  exact Rd.bind Rd.program (by rw [h2]; exact Rd.ret _)
theorem rd_sizeOf (h : tab P t = some ti) : Rd P H (sizeOf t) ti.size := by
  obtain ⟨i, h1, h2, h3, h4, h5, h6⟩ := tab_spec h
  exact Rd.bind (rd_typeInfo h1) (Rd.ret' h4)
theorem rd_zeroValue (h : tab P t = some ti) : Rd P H (zeroValue t) ti.zero := by
  obtain ⟨i, h1, h2, h3, h4, h5, h6⟩ := tab_spec h
  exact Rd.bind (rd_typeInfo h1) (by rw [h3]; exact Rd.ret _)
def aggD : TypeDesc → Bool
  | .struct _ | .array _ _ => true
  | _ => false
theorem rd_isAgg (h : tab P t = some ti) : Rd P H (isAgg t) (aggD ti.desc) :=
  Rd.bind (rd_underlying h) (by cases ti.desc <;> exact Rd.ret _)
theorem hp_of_rd {α : Type} {s : Sem α} {x : α} {K : α → Heap → Prop} (h : ∀ K', K' x H → semHp P s H K') (k : K x H) : semHp P s H K := h K k
theorem hp_underlying (h : tab P t = some ti) {K : TypeDesc → Heap → Prop} : semHp P (underlying t) H K = K ti.desc H := by
  obtain ⟨i, h1, h2, h3, h4, h5, h6⟩ := tab_spec h
  simp only [underlying, semHp_bind', Go.program, semHp, h2, semHp_pure]
theorem hp_typeInfo {i : TypeInfo} (h : P.info? t = some i) {K : TypeInfo → Heap → Prop} : semHp P (typeInfo t) H K = K i H := by
  simp only [typeInfo, semHp_bind', Go.program, semHp, h, semHp_pure]
theorem hp_sizeOf (h : tab P t = some ti) {K : Nat → Heap → Prop} : semHp P (sizeOf t) H K = K ti.size H := by
  obtain ⟨i, h1, h2, h3, h4, h5, h6⟩ := tab_spec h
  simp only [sizeOf, semHp_bind', hp_typeInfo h1, semHp_pure, h4]
theorem hp_zeroValue (h : tab P t = some ti) {K : Value → Heap → Prop} : semHp P (zeroValue t) H K = K ti.zero H := by
  obtain ⟨i, h1, h2, h3, h4, h5, h6⟩ := tab_spec h
  simp only [zeroValue, semHp_bind', hp_typeInfo h1, semHp_pure, h3]
theorem hp_isAgg (h : tab P t = some ti) {K : Bool → Heap → Prop} : semHp P (isAgg t) H K = K (aggD ti.desc) H := by
  simp only [isAgg, semHp_bind', hp_underlying h]
  cases ti.desc <;> rfl
end

/-- The light side of a type: its kind, sizes, and zero. -/
inductive TK where
  | int (k : IntKind) | bool | string | ptr | slice | map | struct | array | other
  deriving DecidableEq
def kindD : TypeDesc → TK
  | .int k => .int k
  | .bool => .bool
  | .string => .string
  | .pointer _ => .ptr
  | .slice _ => .slice
  | .map _ _ => .map
  | .struct _ => .struct
  | .array _ _ => .array
  | _ => .other
def TK.agg : TK → Bool
  | .struct | .array => true
  | _ => false
structure TL where
  kind : TK
  size : Nat
  bytes : Nat
  zero : Value
def tl (P : Program) (t : TypeId) : Option TL := (tab P t).map fun ti => ⟨kindD ti.desc, ti.size, ti.bytes, ti.zero⟩
theorem agg_kind (d : TypeDesc) : (kindD d).agg = aggD d := by cases d <;> rfl
theorem tl_spec {P : Program} {t : TypeId} {ti : TL} (h : tl P t = some ti) : ∃ tt, tab P t = some tt ∧ kindD tt.desc = ti.kind ∧ tt.size = ti.size ∧ tt.bytes = ti.bytes ∧ tt.zero = ti.zero := by
  unfold tl at h
  cases ht : tab P t with
  | none => rw [ht] at h; cases h
  | some tt =>
    rw [ht] at h
    obtain rfl := Option.some.inj h
    exact ⟨tt, rfl, rfl, rfl, rfl, rfl⟩
/-! ### Loads -/
def cellX (z : Value) (H : Heap) (a : Addr) (K : Value → Prop) : Prop :=
  match z with
  | .int k _ => ∃ n, hcell H a = some (.int k n) ∧ K (.int k n)
  | .bool _ => ∃ b, hcell H a = some (.bool b) ∧ K (.bool b)
  | .string _ => ∃ s, hcell H a = some (.string s) ∧ K (.string s)
  | .pointer _ => ∃ p, hcell H a = some (.pointer p) ∧ K (.pointer p)
  | .slice _ _ _ => ∃ p n c, hcell H a = some (.slice p n c) ∧ K (.slice p n c)
  | .map _ => ∃ r, hcell H a = some (.map r) ∧ K (.map r)
  | _ => ∃ v, hcell H a = some v ∧ K v
theorem cellX_some {z : Value} {H : Heap} {a : Addr} {K : Value → Prop} (h : cellX z H a K) : ∃ v, hcell H a = some v ∧ K v := by
  cases z <;> simp only [cellX] at h <;> first | exact h | (obtain ⟨_, h1, h2⟩ := h; exact ⟨_, h1, h2⟩) | (obtain ⟨_, _, _, h1, h2⟩ := h; exact ⟨_, h1, h2⟩)
def cellsX (H : Heap) (a : Addr) : Nat → List Value → (List Value → Prop) → Prop
  | _, [], K => K []
  | i, z :: zs, K => cellX z H (a.add i) fun v => cellsX H a (i + 1) zs fun vs => K (v :: vs)
theorem cellsX_some {H : Heap} {a : Addr} : ∀ (zs : List Value) (i : Nat) (K : List Value → Prop), cellsX H a i zs K →
    ∃ vs, vs.length = zs.length ∧ (∀ j, j < zs.length → hcell H (a.add (i + j)) = vs[j]?) ∧ K vs
  | [], i, K, h => ⟨[], rfl, fun j hj => absurd hj (by simp), h⟩
  | z :: zs, i, K, h => by
    obtain ⟨v, h1, h2⟩ := cellX_some h
    obtain ⟨vs, h3, h4, h5⟩ := cellsX_some zs (i + 1) _ h2
    refine ⟨v :: vs, by simp [h3], fun j hj => ?_, h5⟩
    cases j with
    | zero => simpa using h1
    | succ j =>
      have := h4 j (by simpa using hj)
      rw [show i + (j + 1) = i + 1 + j by omega]
      simpa using this
def bigRow : Nat := 12
def loadX (ti : TL) (H : Heap) (a : Addr) (K : Value → Prop) : Prop :=
  match ti.kind.agg with
  | true => if ti.size ≤ bigRow then cellsX H a 0 ti.zero.cells.toList fun vs => K (.agg vs.toArray)
    else ∃ vs : List Value, vs.length = ti.size ∧ (∀ j, j < ti.size → hcell H (a.add j) = vs[j]?) ∧ K (.agg vs.toArray)
  | false => cellX ti.zero H a K
theorem rd_loadCellsFrom {P : Program} {H : Heap} {a : Addr} : ∀ (n i : Nat) (vs acc : List Value), vs.length = n → (∀ j, j < n → hcell H (a.add (i + j)) = vs[j]?) →
    Rd P H (loadCellsFrom a i n acc.toArray) (acc ++ vs).toArray
  | 0, i, vs, acc, hl, _ => by
    obtain rfl : vs = [] := List.length_eq_zero_iff.1 hl
    rw [List.append_nil]
    exact Rd.ret _
  | n + 1, i, v :: vs, acc, hl, h => by
    have h0 := h 0 (by omega)
    refine Rd.bind (Rd.load (v := v) (by simpa using h0)) ?_
    have := rd_loadCellsFrom (P := P) n (i + 1) vs (acc ++ [v]) (by simpa using hl) (fun j hj => by
      have := h (j + 1) (by omega)
      rw [show i + 1 + j = i + (j + 1) by omega]; simpa using this)
    simpa using this
theorem rd_loadVar {P : Program} {H : Heap} {t : TypeId} {ti : TL} (hl : tl P t = some ti) {a : Addr} {K : Value → Prop} (h : loadX ti H a K) :
    ∃ v, K v ∧ Rd P H (loadVar t a) v := by
  obtain ⟨tt, ht, hk, hs, hb, hz0⟩ := tl_spec hl
  have hz := (tab_spec ht).choose_spec.2.2.2.2.2
  unfold loadX at h
  rw [← hk, agg_kind, ← hs, ← hz0] at h
  cases hag : aggD tt.desc <;> rw [hag] at h <;> simp only at h
  · obtain ⟨v, h1, h2⟩ := cellX_some h
    exact ⟨v, h2, Rd.bind (rd_isAgg ht) (by rw [hag]; exact Rd.load h1)⟩
  · have key : ∃ vs : List Value, vs.length = tt.size ∧ (∀ j, j < tt.size → hcell H (a.add j) = vs[j]?) ∧ K (.agg vs.toArray) := by
      split at h
      · obtain ⟨vs, h1, h2, h3⟩ := cellsX_some _ _ _ h
        have hl : tt.zero.cells.toList.length = tt.size := by rw [Array.length_toList, hz]
        rw [hl] at h1 h2
        exact ⟨vs, h1, fun j hj => by simpa using h2 j hj, h3⟩
      · exact h
    obtain ⟨vs, h1, h2, h3⟩ := key
    refine ⟨_, h3, Rd.bind (rd_isAgg ht) ?_⟩
    rw [hag]
    refine Rd.bind (rd_sizeOf ht) (Rd.bind ?_ (Rd.ret _))
    have := rd_loadCellsFrom (P := P) (H := H) (a := a) tt.size 0 vs [] h1 (by simpa using h2)
    simpa [loadCells] using this

/-! ### Reading operations -/
def ptrX (v : Value) (K : Addr → Prop) : Prop := match v with | .pointer p => ∃ a, p = some a ∧ K a | _ => False
def intX (v : Value) (K : IntKind → Int → Prop) : Prop := match v with | .int k n => K k n | _ => False
def boolX (v : Value) (K : Bool → Prop) : Prop := match v with | .bool b => K b | _ => False
theorem ptrX_some {a : Addr} {K : Addr → Prop} : ptrX (.pointer (some a)) K = K a := by simp [ptrX]

/-- A struct's fields: where each lies, how many cells it has, whether it is a struct or an array. -/
def layOf (P : Program) : List Field → Option (List (Nat × Nat × Bool))
  | [] => some []
  | f :: fs => match tab P f.type, layOf P fs with
    | some tf, some l => some ((f.offset, tf.size, aggD tf.desc) :: l)
    | _, _ => none
def flay (P : Program) (s : TypeId) : Option (List (Nat × Nat × Bool)) :=
  match tab P s with
  | some ti => match ti.desc with
    | .struct fs => layOf P fs.toList
    | _ => none
  | none => none
theorem layOf_get {P : Program} : ∀ {fs : List Field} {l : List (Nat × Nat × Bool)} {i : Nat} {o n : Nat} {b : Bool}, layOf P fs = some l → l[i]? = some (o, n, b) →
    ∃ f tf, fs[i]? = some f ∧ tab P f.type = some tf ∧ f.offset = o ∧ tf.size = n ∧ aggD tf.desc = b
  | [], l, i, o, n, b, hl, h => by
    obtain rfl := Option.some.inj hl
    cases h
  | f :: fs, l, i, o, n, b, hl, h => by
    unfold layOf at hl
    split at hl
    · rename_i tf l' ht hl'
      obtain rfl := Option.some.inj hl
      cases i with
      | zero =>
        simp only [List.getElem?_cons_zero, Option.some.injEq, Prod.mk.injEq] at h
        exact ⟨f, tf, rfl, ht, h.1, h.2.1, h.2.2⟩
      | succ i =>
        obtain ⟨f', tf', h1, h2⟩ := layOf_get (i := i) hl' (by simpa using h)
        exact ⟨f', tf', by simpa using h1, h2⟩
    · cases hl
theorem flay_get {P : Program} {s : TypeId} {l : List (Nat × Nat × Bool)} {i : Nat} {o n : Nat} {b : Bool} (h : flay P s = some l) (hi : l[i]? = some (o, n, b)) :
    ∃ ti fs f tf, tab P s = some ti ∧ ti.desc = .struct fs ∧ fs[i]? = some f ∧ tab P f.type = some tf ∧ f.offset = o ∧ tf.size = n ∧ aggD tf.desc = b := by
  unfold flay at h
  split at h
  · rename_i ti ht
    split at h
    · rename_i fs hd
      obtain ⟨f, tf, h1, h2, h3, h4, h5⟩ := layOf_get h hi
      exact ⟨ti, fs, f, tf, ht, hd, by simpa using h1, h2, h3, h4, h5⟩
    · cases h
  · cases h
/-- A slice's or an array's elements: how many there are (of an array), how many cells each has. -/
def elems (P : Program) (t : TypeId) : Option (Option Nat × TypeId × Nat) :=
  match tab P t with
  | some ti => match ti.desc with
    | .slice e => match tab P e with | some te => some (none, e, te.size) | none => none
    | .array n e => match tab P e with | some te => some (some n, e, te.size) | none => none
    | _ => none
  | none => none
def bitAnd (k : IntKind) (a b : Int) : Int := k.wrap (BitVec.ofInt k.bits a &&& BitVec.ofInt k.bits b).toNat
def bitOr (k : IntKind) (a b : Int) : Int := k.wrap (BitVec.ofInt k.bits a ||| BitVec.ofInt k.bits b).toNat
def bitXor (k : IntKind) (a b : Int) : Int := k.wrap (BitVec.ofInt k.bits a ^^^ BitVec.ofInt k.bits b).toNat
def bitAndNot (k : IntKind) (a b : Int) : Int := k.wrap (BitVec.ofInt k.bits a &&& ~~~ BitVec.ofInt k.bits b).toNat
def intBin (op : BinOp) (k : IntKind) (a b : Int) (K : Value → Prop) : Prop :=
  match op with
  | .add => K (.int k (k.wrap (a + b)))
  | .sub => K (.int k (k.wrap (a - b)))
  | .mul => K (.int k (k.wrap (a * b)))
  | .quo => b ≠ 0 ∧ K (.int k (k.wrap (a.tdiv b)))
  | .rem => b ≠ 0 ∧ K (.int k (a.tmod b))
  | .and => K (.int k (bitAnd k a b))
  | .or => K (.int k (bitOr k a b))
  | .xor => K (.int k (bitXor k a b))
  | .andNot => K (.int k (bitAndNot k a b))
  | .eql => K (.bool (a == b))
  | .neq => K (.bool (a != b))
  | .lss => K (.bool (a < b))
  | .leq => K (.bool (a ≤ b))
  | .gtr => K (.bool (a > b))
  | .geq => K (.bool (a ≥ b))
  | _ => False
def strBin (op : BinOp) (x y : ByteArray) (K : Value → Prop) : Prop :=
  match op with
  | .add => ((x.size + y.size : Nat) : Int) ≤ IntKind.i64.max ∧ K (.string (x ++ y))
  | .eql => K (.bool (x.toList == y.toList))
  | .neq => K (.bool (!(x.toList == y.toList)))
  | .lss => K (.bool (Op.bytesLess x.toList y.toList))
  | .leq => K (.bool (Op.bytesLess x.toList y.toList || x.toList == y.toList))
  | .gtr => K (.bool (!(Op.bytesLess x.toList y.toList || x.toList == y.toList)))
  | .geq => K (.bool (!(Op.bytesLess x.toList y.toList)))
  | _ => False
def isPtr (P : Program) (t : TypeId) : Bool := match tl P t with | some ti => ti.kind == .ptr | none => false
def isBool (P : Program) (t : TypeId) : Bool := match tl P t with | some ti => ti.kind == .bool | none => false
def isSlice (P : Program) (t : TypeId) : Bool := match tl P t with | some ti => ti.kind == .slice | none => false
def isString (P : Program) (t : TypeId) : Bool := match tl P t with | some ti => ti.kind == .string | none => false
theorem kind_ptr {P : Program} {t : TypeId} (h : isPtr P t = true) : ∃ ti e, tab P t = some ti ∧ ti.desc = .pointer e := by
  unfold isPtr at h
  split at h
  · rename_i ti hl
    obtain ⟨tt, ht, hk, _⟩ := tl_spec hl
    rw [← hk] at h
    cases hd : tt.desc <;> rw [hd] at h <;> simp [kindD] at h
    exact ⟨tt, _, ht, hd⟩
  · cases h
theorem kind_bool {P : Program} {t : TypeId} (h : isBool P t = true) : ∃ ti, tab P t = some ti ∧ ti.desc = .bool := by
  unfold isBool at h
  split at h
  · rename_i ti hl
    obtain ⟨tt, ht, hk, _⟩ := tl_spec hl
    rw [← hk] at h
    cases hd : tt.desc <;> rw [hd] at h <;> simp [kindD] at h
    exact ⟨tt, ht, hd⟩
  · cases h
theorem kind_slice {P : Program} {t : TypeId} (h : isSlice P t = true) : ∃ ti e, tab P t = some ti ∧ ti.desc = .slice e := by
  unfold isSlice at h
  split at h
  · rename_i ti hl
    obtain ⟨tt, ht, hk, _⟩ := tl_spec hl
    rw [← hk] at h
    cases hd : tt.desc <;> rw [hd] at h <;> simp [kindD] at h
    exact ⟨tt, _, ht, hd⟩
  · cases h
theorem kind_string {P : Program} {t : TypeId} (h : isString P t = true) : ∃ ti, tab P t = some ti ∧ ti.desc = .string := by
  unfold isString at h
  split at h
  · rename_i ti hl
    obtain ⟨tt, ht, hk, _⟩ := tl_spec hl
    rw [← hk] at h
    cases hd : tt.desc <;> rw [hd] at h <;> simp [kindD] at h
    exact ⟨tt, ht, hd⟩
  · cases h
/-- x op y. -/
def binX (P : Program) (op : BinOp) (t : TypeId) (ox oy : Operand) (x y : Value) (H : Heap) (K : Value → Prop) : Prop :=
  match x, y with
  | .int k a, .int k' b => match op with
    | .shl => 0 ≤ b ∧ K (.int k (k.wrap (a * 2 ^ min b.toNat k.bits)))
    | .shr => 0 ≤ b ∧ K (.int k (a.fdiv (2 ^ min b.toNat k.bits)))
    | _ => k = k' ∧ intBin op k a b K
  | .string a, .string b => strBin op a b K
  | .pointer p, .pointer none => isPtr P t = true ∧ (match op with | .eql => K (.bool p.isNone) | .neq => K (.bool (!p.isNone)) | _ => False)
  | .bool a, .bool b => isBool P t = true ∧ (match op with | .eql => K (.bool (a == b)) | .neq => K (.bool (!(a == b))) | _ => False)
  | x, y => ∃ v, Rd P H (do eqGuard op t ox oy x y; binOp op t x y) v ∧ K v
theorem Rd.getUnit {P : Program} {H : Heap} {s : Sem Unit} (h : s = Pure.pure ()) : Rd P H s () := by rw [h]; exact Rd.ret _
theorem eqGuard_plain (op : BinOp) (t : TypeId) (ox oy : Operand) (x y : Value) (h1 : ¬ (x matches .nilIface)) (h2 : ¬ (x matches .agg _)) : eqGuard op t ox oy x y = Pure.pure () := by
  unfold eqGuard
  cases op <;> try rfl
  all_goals (cases x <;> first | rfl | (exfalso; simp at h1; done) | (exfalso; simp at h2; done))
theorem rd_equal_ptr {P : Program} {H : Heap} {t : TypeId} (h : isPtr P t = true) (p : Option Addr) : Rd P H (Op.equal t (.pointer p) (.pointer none)) p.isNone := by
  obtain ⟨ti, e, ht, hd⟩ := kind_ptr h
  have hu := rd_underlying (H := H) ht
  rw [hd] at hu
  unfold Op.equal Op.maxDepth Op.equalIn
  refine Rd.bind hu ?_
  cases p <;> exact Rd.ret' rfl
theorem rd_equal_bool {P : Program} {H : Heap} {t : TypeId} (h : isBool P t = true) (a b : Bool) : Rd P H (Op.equal t (.bool a) (.bool b)) (a == b) := by
  obtain ⟨ti, ht, hd⟩ := kind_bool h
  have hu := rd_underlying (H := H) ht
  rw [hd] at hu
  unfold Op.equal Op.maxDepth Op.equalIn
  refine Rd.bind hu ?_
  exact Rd.ret' rfl
theorem rd_bin {P : Program} {op : BinOp} {t : TypeId} {ox oy : Operand} {x y : Value} {H : Heap} {K : Value → Prop} (h : binX P op t ox oy x y H K) :
    ∃ v, K v ∧ Rd P H (do eqGuard op t ox oy x y; binOp op t x y) v := by
  unfold binX at h
  split at h
  · rename_i k a k' b
    have hg : eqGuard op t ox oy (.int k a) (.int k' b) = Pure.pure () := eqGuard_plain _ _ _ _ _ _ (by simp) (by simp)
    have key : ∀ v, Rd P H (binOp op t (.int k a) (.int k' b)) v → Rd P H (do eqGuard op t ox oy (.int k a) (.int k' b); binOp op t (.int k a) (.int k' b)) v := fun v hv =>
      Rd.bind (Rd.getUnit hg) hv
    split at h
    · obtain ⟨h1, h2⟩ := h
      exact ⟨_, h2, key _ (by unfold binOp Op.shift; simp only []; rw [if_neg (by omega)]; exact Rd.ret _)⟩
    · obtain ⟨h1, h2⟩ := h
      exact ⟨_, h2, key _ (by unfold binOp Op.shift; simp only []; rw [if_neg (by omega)]; exact Rd.ret _)⟩
    · rename_i n1 n2
      obtain ⟨rfl, h⟩ := h
      cases op <;> simp only [intBin] at h <;>
        first
          | exact h.elim
          | exact absurd rfl n1
          | exact absurd rfl n2
          | exact ⟨_, h, key _ (by simp only [binOp, ne_eq, not_true_eq_false, if_false]; exact Rd.ret _)⟩
          | exact ⟨_, h.2, key _ (by simp only [binOp, ne_eq, not_true_eq_false, if_false, Op.intDiv, if_neg h.1]; exact Rd.ret _)⟩
  · rename_i a b
    have hg : eqGuard op t ox oy (.string a) (.string b) = Pure.pure () := eqGuard_plain _ _ _ _ _ _ (by simp) (by simp)
    have key : ∀ v, Rd P H (binOp op t (.string a) (.string b)) v → Rd P H (do eqGuard op t ox oy (.string a) (.string b); binOp op t (.string a) (.string b)) v := fun v hv =>
      Rd.bind (Rd.getUnit hg) hv
    cases op <;> simp only [strBin] at h <;>
      first
        | exact h.elim
        | exact ⟨_, h, key _ (by simp only [binOp, Op.stringOp]; exact Rd.ret _)⟩
        | exact ⟨_, h.2, key _ (by simp only [binOp, Op.stringOp]; rw [if_neg (by omega)]; exact Rd.ret _)⟩
  · rename_i p
    have hg : eqGuard op t ox oy (.pointer p) (.pointer none) = Pure.pure () := eqGuard_plain _ _ _ _ _ _ (by simp) (by simp)
    obtain ⟨h1, h2⟩ := h
    have he := rd_equal_ptr (H := H) h1 p
    cases op <;> simp only at h2 <;> first
      | exact h2.elim
      | exact ⟨_, h2, Rd.bind (Rd.getUnit hg) (Rd.bind he (Rd.ret _))⟩
  · rename_i a b
    have hg : eqGuard op t ox oy (.bool a) (.bool b) = Pure.pure () := eqGuard_plain _ _ _ _ _ _ (by simp) (by simp)
    obtain ⟨h1, h2⟩ := h
    have he := rd_equal_bool (H := H) h1 a b
    cases op <;> simp only at h2 <;> first
      | exact h2.elim
      | exact ⟨_, h2, Rd.bind (Rd.getUnit hg) (Rd.bind he (Rd.ret _))⟩
  · obtain ⟨v, h1, h2⟩ := h
    exact ⟨v, h2, h1⟩
end Go.Hp

namespace Go.Hp
open Go
set_option linter.unusedVariables false
set_option linter.unusedSimpArgs false

def nilX (v : Value) (K : Value → Prop) : Prop :=
  match v with
  | .pointer p => ∃ a, p = some a ∧ K (.pointer (some a))
  | .func (.func f) a b => K (.func (.func f) a b)
  | _ => False
theorem nilX_some {a : Addr} {K : Value → Prop} : nilX (.pointer (some a)) K = K (.pointer (some a)) := by simp [nilX]
/-- &x[i]. -/
def indexX (P : Program) (t : TypeId) (x i : Value) (K : Value → Prop) : Prop :=
  match elems P t, x, i with
  | some (none, _, n), .slice b len _, .int _ i => ∃ p, b = some p ∧ 0 ≤ i ∧ i < len ∧ K (.pointer (some (p.add (i.toNat * n))))
  | some (some len, _, n), .pointer b, .int _ i => ∃ p, b = some p ∧ 0 ≤ i ∧ i < len ∧ K (.pointer (some (p.add (i.toNat * n))))
  | _, _, _ => False
/-- x[i], x an array of one-cell elements as a value, or a string. -/
def indexVX (P : Program) (t : TypeId) (x i : Value) (H : Heap) (K : Value → Prop) : Prop :=
  match x, i with
  | .agg cs, .int _ i => match elems P t with
    | some (some len, e, n) => ∃ v, 0 ≤ i ∧ i < len ∧ Rd P H (part e cs (i.toNat * n)) v ∧ K v
    | _ => False
  | .string s, .int _ i => isString P t = true ∧ ∃ b, 0 ≤ i ∧ s[i.toNat]? = some b ∧ K (.int .u8 b.toNat)
  | _, _ => False
def boundX (v : Option Value) (d : Nat) (K : Int → Prop) : Prop :=
  match v with
  | none => K d
  | some (.int _ i) => K i
  | _ => False
def sliceX (P : Program) (t : TypeId) (x : Value) (lo hi mx : Option Value) (K : Value → Prop) : Prop :=
  match mx, x with
  | none, .slice a len cap => match elems P t with
    | some (none, _, n) => boundX hi len fun h => boundX lo 0 fun l => 0 ≤ l ∧ l ≤ h ∧ h ≤ cap ∧
        K (.slice (if cap = l.toNat then a else a.map (·.add (l.toNat * n))) (h.toNat - l.toNat) (cap - l.toNat))
    | _ => False
  | none, .string s => isString P t = true ∧ boundX hi s.size fun h => boundX lo 0 fun l => 0 ≤ l ∧ l ≤ h ∧ h ≤ s.size ∧ K (.string (s.extract l.toNat h.toNat))
  | none, .pointer p => match elems P t with
    | some (some m, _, n) => boundX hi m fun h => boundX lo 0 fun l => ∃ a, p = some a ∧ 0 ≤ l ∧ l ≤ h ∧ h ≤ m ∧
        K (.slice (some (if m = l.toNat then a else a.add (l.toNat * n))) (h.toNat - l.toNat) (m - l.toNat))
    | _ => False
  | _, _ => False
def tupX (v : Value) (i : Nat) (K : Value → Prop) : Prop := match v with | .tuple vs => ∃ x, vs[i]? = some x ∧ K x | _ => False
/-- A part of a struct's value. -/
def fieldX (P : Program) (s : TypeId) (x : Value) (i : Nat) (K : Value → Prop) : Prop :=
  match x, flay P s with
  | .agg cs, some l => match l[i]? with
    | some (o, n, true) => K (.agg (cs.extract o (o + n)))
    | some (o, _, false) => ∃ v, cs[o]? = some v ∧ K v
    | none => False
  | _, _ => False
def lenX (P : Program) (t : TypeId) (x : Value) (H : Heap) (K : Value → Prop) : Prop :=
  match x with
  | .slice _ n _ => isSlice P t = true ∧ K (.int .i64 n)
  | .string s => isString P t = true ∧ K (.int .i64 s.size)
  | x => ∃ v, Rd P H (Builtin.len_ #[t] 0 #[x]) v ∧ K v
def convX (P : Program) (src dst : TypeId) (x : Value) (H : Heap) (K : Value → Prop) : Prop :=
  match tl P src, tl P dst, x with
  | some s, some d, .int _ n => match s.kind, d.kind with
    | .int _, .int k' => K (.int k' (k'.wrap n))
    | _, _ => False
  | _, _, x => ∃ v, Rd P H (convert src dst x) v ∧ K v
def fieldAX (P : Program) (s : TypeId) (i : Nat) (a : Addr) (K : Value → Prop) : Prop :=
  match flay P s with
  | some l => match l[i]? with
    | some (o, n, _) => n ≠ 0 ∧ K (.pointer (some (a.add o)))
    | none => False
  | none => False
/-- Reading operations. -/
def rdX (P : Program) (o : Oper) (ρ : Operand → Value) (H : Heap) (K : Value → Prop) : Prop :=
  match o.op with
  | .move x => K (ρ x)
  | .assign x => K (ρ x)
  | .pick c a b => boolX (ρ c) fun c => K (if c then ρ a else ρ b)
  | .load t x => ptrX (ρ x) fun a => match tl P t with | some ti => loadX ti H a K | none => False
  | .nilCheck x => nilX (ρ x) K
  | .binOp op t x y _ => binX P op t x y (ρ x) (ρ y) H K
  | .unOp .not _ x => boolX (ρ x) fun b => K (.bool (!b))
  | .unOp .neg _ x => intX (ρ x) fun k n => K (.int k (k.wrap (0 - n)))
  | .fieldAddr t x i => ptrX (ρ x) fun a => fieldAX P t i a K
  | .field t x i => fieldX P t (ρ x) i K
  | .indexAddr t x i => indexX P t (ρ x) (ρ i) K
  | .index t x i => indexVX P t (ρ x) (ρ i) H K
  | .slice t x lo hi mx => sliceX P t (ρ x) (lo.map ρ) (hi.map ρ) (mx.map ρ) K
  | .extract x i => tupX (ρ x) i K
  | .makeFunc f a b => K (.func f (a.map ρ) (b.map ρ))
  | .convert s d x => convX P s d (ρ x) H K
  | .call c => match c.callee with
    | .builtin .len => match c.args.toList, c.argTypes.toList with
      | [x], [t] => lenX P t (ρ x) H K
      | _, _ => False
    | .builtin .min => match c.args.toList with
      | [x, y] => intX (ρ x) fun k a => intX (ρ y) fun _ b => K (.int k (if b < a then b else a))
      | _ => False
    | .builtin .max => match c.args.toList with
      | [x, y] => intX (ρ x) fun k a => intX (ρ y) fun _ b => K (.int k (if b > a then b else a))
      | _ => False
    | _ => ∃ v, Rd P H (execOp ρ o) (.value v) ∧ K v
  | _ => ∃ v, Rd P H (execOp ρ o) (.value v) ∧ K v
theorem Rd.value {P : Program} {H : Heap} {s : Sem Value} {v : Value} (h : Rd P H s v) : Rd P H (do pure (.value (← s)) : Sem Next) (.value v) :=
  Rd.bind h (Rd.ret _)
theorem rd_sureAddr {P : Program} {H : Heap} {a : Addr} : Rd P H (Instr.sureAddr (.pointer (some a))) a := Rd.ret _
def descOf (e : TypeId) : Option Nat → TypeDesc
  | none => .slice e
  | some k => .array k e
theorem elems_spec {P : Program} {t : TypeId} {m : Option Nat} {e : TypeId} {n : Nat} (h : elems P t = some (m, e, n)) :
    ∃ ti te, tab P t = some ti ∧ tab P e = some te ∧ te.size = n ∧ ti.desc = descOf e m := by
  unfold elems at h
  split at h
  · rename_i ti ht
    split at h
    · rename_i e' hd
      split at h
      · rename_i te hte
        simp only [Option.some.injEq, Prod.mk.injEq] at h
        obtain ⟨rfl, rfl, rfl⟩ := h
        exact ⟨ti, te, ht, hte, rfl, hd⟩
      · cases h
    · rename_i n' e' hd
      split at h
      · rename_i te hte
        simp only [Option.some.injEq, Prod.mk.injEq] at h
        obtain ⟨rfl, rfl, rfl⟩ := h
        exact ⟨ti, te, ht, hte, rfl, hd⟩
      · cases h
    · cases h
  · cases h
theorem rd_field {P : Program} {H : Heap} {s : TypeId} {a : Addr} {i : Nat} {K : Value → Prop} (h : fieldAX P s i a K) : ∃ v, K v ∧ Rd P H (Instr.fieldAt s (.pointer (some a)) i) v := by
  unfold fieldAX at h
  split at h
  · rename_i l hl
    split at h
    · rename_i o n b hi
      obtain ⟨hn, hk⟩ := h
      obtain ⟨ti, fs, f, tf, h1, h2, h3, h4, h5, h6, h7⟩ := flay_get hl hi
      have hu := rd_underlying (H := H) h1
      rw [h2] at hu
      refine ⟨_, hk, Rd.bind hu ?_⟩
      simp only [h3]
      refine Rd.bind rd_sureAddr (Rd.bind (x := a.add o) ?_ (Rd.ret _))
      unfold fieldPlace
      refine Rd.bind (rd_sizeOf h4) ?_
      rw [if_neg (by rw [h6]; exact hn), h5]
      exact Rd.ret _
    · exact h.elim
  · exact h.elim
theorem rd_index {P : Program} {H : Heap} {t : TypeId} {x i : Value} {K : Value → Prop} (h : indexX P t x i K) : ∃ v, K v ∧ Rd P H (Instr.indexAt t x i) v := by
  unfold indexX at h
  split at h
  · rename_i n b len c k i he
    obtain ⟨p, rfl, h0, h1, hK⟩ := h
    obtain ⟨ti, te, h2, h3, h4, h5⟩ := elems_spec he
    have hu := rd_underlying (H := H) h2
    rw [h5] at hu
    simp only [descOf] at hu
    refine ⟨_, hK, Rd.bind (x := (_, _)) (Rd.ret _) (Rd.bind hu (Rd.bind (x := (some p, len, _)) (Rd.ret _) ?_))⟩
    refine Rd.bind hu ?_
    simp only [h0, h1, and_self, if_true]
    exact Rd.bind (rd_sizeOf h3) (by rw [h4]; exact Rd.ret _)
  · rename_i len n b k i he
    obtain ⟨p, rfl, h0, h1, hK⟩ := h
    obtain ⟨ti, te, h2, h3, h4, h5⟩ := elems_spec he
    have hu := rd_underlying (H := H) h2
    rw [h5] at hu
    simp only [descOf] at hu
    refine ⟨_, hK, Rd.bind (x := (_, _)) (Rd.ret _) (Rd.bind hu (Rd.bind rd_sureAddr (Rd.bind (x := (some p, _, _)) (Rd.ret _) ?_)))⟩
    refine Rd.bind hu ?_
    simp only [h0, h1, and_self, if_true]
    exact Rd.bind (rd_sizeOf h3) (by rw [h4]; exact Rd.ret _)
  · exact h.elim
theorem rd_bound {P : Program} {H : Heap} {i : Int} {k : IntKind} {y : Nat} {c : BoundsCode} (h0 : 0 ≤ i) (h1 : i ≤ y) : Rd P H (Instr.sliceBound (.int k i) y c) i.toNat := by
  refine Rd.bind (x := (k, i)) (Rd.ret _) ?_
  simp only [h0, h1, and_self, if_true]
  exact Rd.ret _
theorem bound_cases {v : Option Value} {d : Nat} {K : Int → Prop} (h : boundX v d K) : (v = none ∧ K d) ∨ ∃ k i, v = some (.int k i) ∧ K i := by
  cases v with
  | none => exact .inl ⟨rfl, h⟩
  | some v =>
    cases v <;> first | exact .inr ⟨_, _, rfl, h⟩ | exact (show False from h).elim
theorem rd_bounds {P : Program} {H : Heap} {b : Bool} {len cap : Nat} {lo hi : Option Value} {K : Int → Int → Prop}
    (h : boundX hi len fun h => boundX lo 0 fun l => 0 ≤ l ∧ l ≤ h ∧ h ≤ cap ∧ K l h) :
    ∃ l h : Int, K l h ∧ Rd P H (Instr.sliceBounds b len cap lo hi none) (l.toNat, h.toNat, cap) := by
  rcases bound_cases h with ⟨rfl, hb⟩ | ⟨k, i, rfl, hb⟩ <;> rcases bound_cases hb with ⟨rfl, h1, h2, h3, hk⟩ | ⟨k', i', rfl, h1, h2, h3, hk⟩
  · exact ⟨_, _, hk, Rd.bind (Rd.ret _) (Rd.bind (x := len) (Rd.ret _) (Rd.bind (x := 0) (Rd.ret _) (Rd.ret _)))⟩
  · exact ⟨_, _, hk, Rd.bind (Rd.ret _) (Rd.bind (x := len) (Rd.ret _) (Rd.bind (x := i'.toNat) (rd_bound h1 (by omega)) (Rd.ret _)))⟩
  · exact ⟨_, _, hk, Rd.bind (Rd.ret _) (Rd.bind (x := i.toNat) (rd_bound (by omega) (by omega)) (Rd.bind (x := 0) (Rd.ret _) (Rd.ret _)))⟩
  · exact ⟨_, _, hk, Rd.bind (Rd.ret _) (Rd.bind (x := i.toNat) (rd_bound (by omega) (by omega)) (Rd.bind (x := i'.toNat) (rd_bound h1 (by omega)) (Rd.ret _)))⟩
theorem rd_slice {P : Program} {H : Heap} {t : TypeId} {x : Value} {lo hi mx : Option Value} {K : Value → Prop} (h : sliceX P t x lo hi mx K) : ∃ v, K v ∧ Rd P H (Instr.sliceAt t x lo hi mx) v := by
  unfold sliceX at h
  split at h
  · rename_i a len cap
    split at h
    · rename_i e n he
      obtain ⟨ti, te, h2, h3, h4, h5⟩ := elems_spec he
      have hu := rd_underlying (H := H) h2
      rw [h5] at hu
      simp only [descOf] at hu
      obtain ⟨l, hh, hk, hr⟩ := rd_bounds (P := P) (H := H) (b := true) (cap := cap) (K := fun l h => K (.slice (if cap = l.toNat then a else a.map (·.add (l.toNat * n))) (h.toNat - l.toNat) (cap - l.toNat))) h
      refine ⟨_, hk, Rd.bind hu (Rd.bind hu (Rd.bind hr (Rd.bind (rd_sizeOf h3) ?_)))⟩
      rw [h4]
      exact Rd.ret _
    · exact h.elim
  · rename_i s
    obtain ⟨h1, h⟩ := h
    obtain ⟨ti, ht, hd⟩ := kind_string h1
    have hu := rd_underlying (H := H) ht
    rw [hd] at hu
    obtain ⟨l, hh, hk, hr⟩ := rd_bounds (P := P) (H := H) (b := false) (cap := s.size) (K := fun l h => K (.string (s.extract l.toNat h.toNat))) h
    exact ⟨_, hk, Rd.bind hu (Rd.bind hu (Rd.bind hr (Rd.ret _)))⟩
  · rename_i p
    split at h
    · rename_i m e n he
      obtain ⟨ti, te, h2, h3, h4, h5⟩ := elems_spec he
      have hu := rd_underlying (H := H) h2
      rw [h5] at hu
      simp only [descOf] at hu
      have : ∃ a, p = some a := by
        rcases bound_cases h with ⟨rfl, hb⟩ | ⟨k, i, rfl, hb⟩ <;> rcases bound_cases hb with ⟨rfl, hc⟩ | ⟨k', i', rfl, hc⟩ <;> exact ⟨_, hc.choose_spec.1⟩
      obtain ⟨a, rfl⟩ := this
      obtain ⟨l, hh, hk, hr⟩ := rd_bounds (P := P) (H := H) (b := false) (len := m) (cap := m) (K := fun l h => K (.slice (some (if m = l.toNat then a else a.add (l.toNat * n))) (h.toNat - l.toNat) (m - l.toNat)))
        (by simpa using h)
      refine ⟨_, hk, Rd.bind hu (Rd.bind rd_sureAddr (Rd.bind hr (Rd.bind (rd_sizeOf h3) ?_)))⟩
      rw [h4]
      exact Rd.ret _
    · exact h.elim
  · exact h.elim
theorem rd_indexV {P : Program} {H : Heap} {t : TypeId} {x i : Value} {K : Value → Prop} (h : indexVX P t x i H K) : ∃ v, K v ∧ Rd P H (Instr.index t x i) v := by
  unfold indexVX at h
  split at h
  · rename_i cs k i
    split at h
    · rename_i len e n he
      obtain ⟨v, h0, h1, hr, hK⟩ := h
      obtain ⟨ti, te, h2, h3, h4, h5⟩ := elems_spec he
      have hu := rd_underlying (H := H) h2
      rw [h5] at hu
      simp only [descOf] at hu
      refine ⟨_, hK, Rd.bind (x := (_, _)) (Rd.ret _) (Rd.bind hu ?_)⟩
      simp only [h0, h1, and_self, if_true]
      exact Rd.bind (rd_sizeOf h3) (by rw [h4]; exact hr)
    · exact h.elim
  · rename_i s k i
    obtain ⟨h1, b, h0, hb, hK⟩ := h
    obtain ⟨ti, ht, hd⟩ := kind_string h1
    have hu := rd_underlying (H := H) ht
    rw [hd] at hu
    refine ⟨_, hK, Rd.bind (x := (_, _)) (Rd.ret _) (Rd.bind hu ?_)⟩
    simp only [h0, if_true, hb]
    exact Rd.ret _
  · exact h.elim
theorem rd_fieldV {P : Program} {H : Heap} {s : TypeId} {x : Value} {i : Nat} {K : Value → Prop} (h : fieldX P s x i K) : ∃ v, K v ∧ Rd P H (Instr.field s x i) v := by
  unfold fieldX at h
  split at h
  · rename_i cs l hl
    split at h
    · rename_i o n hi
      obtain ⟨ti, fs, f, tf, h1, h2, h3, h4, h5, h6, h7⟩ := flay_get hl hi
      have hu := rd_underlying (H := H) h1
      rw [h2] at hu
      have ha := rd_isAgg (H := H) h4
      rw [h7] at ha
      refine ⟨_, h, Rd.bind hu ?_⟩
      simp only [h3]
      refine Rd.bind (x := cs) (Rd.ret _) (Rd.bind ha (Rd.bind (rd_sizeOf h4) ?_))
      rw [h5, h6]
      exact Rd.ret _
    · rename_i o n hi
      obtain ⟨ti, fs, f, tf, h1, h2, h3, h4, h5, h6, h7⟩ := flay_get hl hi
      have hu := rd_underlying (H := H) h1
      rw [h2] at hu
      have ha := rd_isAgg (H := H) h4
      rw [h7] at ha
      obtain ⟨v, hv, hK⟩ := h
      refine ⟨_, hK, Rd.bind hu ?_⟩
      simp only [h3]
      refine Rd.bind (x := cs) (Rd.ret _) (Rd.bind ha ?_)
      simp only [Bool.false_eq_true, if_false, h5, hv]
      exact Rd.ret _
    · exact h.elim
  · exact h.elim
theorem rd_len {P : Program} {H : Heap} {t : TypeId} {x : Value} {K : Value → Prop} (ty : TypeId) (h : lenX P t x H K) : ∃ v, K v ∧ Rd P H (Builtin.len_ #[t] ty #[x]) v := by
  unfold lenX at h
  split at h
  · obtain ⟨h1, hK⟩ := h
    obtain ⟨ti, e, ht, hd⟩ := kind_slice h1
    have hu := rd_underlying (H := H) ht
    rw [hd] at hu
    exact ⟨_, hK, Rd.bind hu (Rd.ret _)⟩
  · obtain ⟨h1, hK⟩ := h
    obtain ⟨ti, ht, hd⟩ := kind_string h1
    have hu := rd_underlying (H := H) ht
    rw [hd] at hu
    exact ⟨_, hK, Rd.bind hu (Rd.ret _)⟩
  · obtain ⟨v, h1, h2⟩ := h
    exact ⟨v, h2, h1⟩
theorem rd_conv {P : Program} {H : Heap} {s d : TypeId} {x : Value} {K : Value → Prop} (h : convX P s d x H K) : ∃ v, K v ∧ Rd P H (convert s d x) v := by
  unfold convX at h
  split at h
  · rename_i ts td k n hs hd
    split at h
    · rename_i k1 k2 h1 h2
      obtain ⟨t1, ht1, hk1, _⟩ := tl_spec hs
      obtain ⟨t2, ht2, hk2, _⟩ := tl_spec hd
      have hu := rd_underlying (H := H) ht1
      have hv := rd_underlying (H := H) ht2
      rw [h1] at hk1
      rw [h2] at hk2
      have e1 : t1.desc = .int k1 := by cases hd1 : t1.desc <;> rw [hd1] at hk1 <;> simp [kindD] at hk1; rw [hk1]
      have e2 : t2.desc = .int k2 := by cases hd2 : t2.desc <;> rw [hd2] at hk2 <;> simp [kindD] at hk2; rw [hk2]
      rw [e1] at hu
      rw [e2] at hv
      exact ⟨_, h, Rd.bind hu (Rd.bind hv (Rd.ret _))⟩
    · exact h.elim
  · obtain ⟨v, h1, h2⟩ := h
    exact ⟨v, h2, h1⟩
theorem rdX_sound {P : Program} {o : Oper} {ρ : Operand → Value} {H : Heap} {K : Value → Prop} (h : rdX P o ρ H K) : ∃ v, K v ∧ Rd P H (execOp ρ o) (.value v) := by
  have fall : (∃ v, Rd P H (execOp ρ o) (.value v) ∧ K v) → ∃ v, K v ∧ Rd P H (execOp ρ o) (.value v) := fun ⟨v, a, b⟩ => ⟨v, b, a⟩
  have val : ∀ s : Sem Value, execOp ρ o = (do pure (.value (← s))) → (∃ v, K v ∧ Rd P H s v) → ∃ v, K v ∧ Rd P H (execOp ρ o) (.value v) := fun s e ⟨v, a, b⟩ => ⟨v, a, by rw [e]; exact b.value⟩
  obtain ⟨dst, op, type, pos, after, guard⟩ := o
  cases op <;> unfold rdX at h <;> simp only at h <;> try (exact fall h)
  case move x => exact ⟨_, h, Rd.ret _⟩
  case assign x => exact ⟨_, h, Rd.ret _⟩
  case pick c a b =>
    unfold boolX at h
    split at h
    · rename_i hc
      exact ⟨_, h, by simp only [execOp, hc]; exact Rd.bind (Rd.ret _) (Rd.ret _)⟩
    · exact h.elim
  case load t x =>
    unfold ptrX at h
    split at h
    · rename_i p hp
      obtain ⟨a, rfl, h⟩ := h
      split at h
      · rename_i ti ht
        obtain ⟨v, h1, h2⟩ := rd_loadVar ht h
        exact val _ rfl ⟨v, h1, Rd.bind (by rw [hp]; exact rd_sureAddr) h2⟩
      · exact h.elim
    · exact h.elim
  case nilCheck x =>
    unfold nilX at h
    split at h
    · rename_i p hp
      obtain ⟨a, rfl, h⟩ := h
      exact ⟨_, h, by simp only [execOp, hp]; exact Rd.ret _⟩
    · rename_i f a b hp
      exact ⟨_, h, by simp only [execOp, hp]; exact Rd.ret _⟩
    · exact h.elim
  case binOp op t x y ty =>
    obtain ⟨v, h1, h2⟩ := rd_bin h
    exact val _ rfl ⟨v, h1, h2⟩
  case unOp op t x =>
    cases op <;> simp only at h <;> try (exact fall h)
    · unfold intX at h
      split at h
      · rename_i k n hb
        exact val _ rfl ⟨_, h, by rw [hb]; exact Rd.ret _⟩
      · exact h.elim
    · unfold boolX at h
      split at h
      · rename_i b hb
        exact val _ rfl ⟨_, h, by rw [hb]; exact Rd.ret _⟩
      · exact h.elim
  case convert s d x =>
    obtain ⟨v, h1, h2⟩ := rd_conv h
    exact val _ rfl ⟨v, h1, h2⟩
  case makeFunc f a b => exact val _ rfl ⟨_, h, Rd.ret _⟩
  case slice t x lo hi mx =>
    obtain ⟨v, h1, h2⟩ := rd_slice (H := H) h
    exact val _ rfl ⟨v, h1, h2⟩
  case fieldAddr t x i =>
    unfold ptrX at h
    split at h
    · rename_i p hp
      obtain ⟨a, rfl, h⟩ := h
      obtain ⟨v, h1, h2⟩ := rd_field (H := H) h
      exact val _ rfl ⟨v, h1, by rw [hp]; exact h2⟩
    · exact h.elim
  case field t x i =>
    obtain ⟨v, h1, h2⟩ := rd_fieldV (H := H) h
    exact val _ rfl ⟨v, h1, h2⟩
  case indexAddr t x i =>
    obtain ⟨v, h1, h2⟩ := rd_index (H := H) h
    exact val _ rfl ⟨v, h1, h2⟩
  case index t x i =>
    obtain ⟨v, h1, h2⟩ := rd_indexV h
    exact val _ rfl ⟨v, h1, h2⟩
  case extract x i =>
    unfold tupX at h
    split at h
    · rename_i vs hvs
      obtain ⟨v, hv, hK⟩ := h
      exact val _ rfl ⟨v, hK, by rw [hvs]; simp only [Instr.extract, hv]; exact Rd.ret _⟩
    · exact h.elim
  case call c =>
    obtain ⟨callee, args, argTypes⟩ := c
    split at h
    · rename_i hc
      simp only at hc
      subst hc
      split at h
      · rename_i x t ha ht
        obtain rfl : args = #[x] := Array.ext' ha
        obtain rfl : argTypes = #[t] := Array.ext' ht
        obtain ⟨v, h1, h2⟩ := rd_len type h
        refine ⟨v, h1, ?_⟩
        refine Rd.bind (Rd.ret _) ?_
        have e : Array.map ρ #[x] = #[ρ x] := by simp
        show Rd P H (do pure (.value (← Builtin.len_ #[t] type (Array.map ρ #[x]))) : Sem Next) _
        rw [e]
        exact h2.value
      · exact h.elim
    · rename_i hc
      simp only at hc
      subst hc
      split at h
      · rename_i x y ha
        obtain rfl : args = #[x, y] := Array.ext' ha
        unfold intX at h
        split at h
        · rename_i k a hx
          split at h
          · rename_i k' b hy
            refine ⟨_, h, Rd.bind (Rd.ret _) ?_⟩
            have e : Array.map ρ #[x, y] = #[.int k a, .int k' b] := by simp [hx, hy]
            show Rd P H (do pure (.value (← Builtin.min_ argTypes type (Array.map ρ #[x, y]))) : Sem Next) _
            rw [e]
            exact Rd.value (Rd.ret _)
          · exact h.elim
        · exact h.elim
      · exact h.elim
    · rename_i hc
      simp only at hc
      subst hc
      split at h
      · rename_i x y ha
        obtain rfl : args = #[x, y] := Array.ext' ha
        unfold intX at h
        split at h
        · rename_i k a hx
          split at h
          · rename_i k' b hy
            refine ⟨_, h, Rd.bind (Rd.ret _) ?_⟩
            have e : Array.map ρ #[x, y] = #[.int k a, .int k' b] := by simp [hx, hy]
            show Rd P H (do pure (.value (← Builtin.max_ argTypes type (Array.map ρ #[x, y]))) : Sem Next) _
            rw [e]
            exact Rd.value (Rd.ret _)
          · exact h.elim
        · exact h.elim
      · exact h.elim
    · exact fall h
end Go.Hp

namespace Go.Hp
open Go
set_option linter.unusedVariables false
set_option linter.unusedSimpArgs false

def callable (P : Program) (f : FuncId) : Bool :=
  match P.funcs[f]? with
  | some fn => fn.body.isSome && !(fn.name == "runtime.NumGoroutine")
  | none => false
/-- The function, called in any world with this heap, returns, and K holds of its value and the heap behind it. -/
def CallsH (P : Program) (f : FuncId) (args : Array Value) (H : Heap) (K : Value → Heap → Prop) : Prop :=
  callable P f = true ∧ ∀ w : World, w.heap = H → Calls P f args w (fun e w' => ∃ v, e = .returned v ∧ K v w'.heap ∧ Like w w')
theorem CallsH.mono {P : Program} {f : FuncId} {args : Array Value} {H : Heap} {K K' : Value → Heap → Prop} (h : CallsH P f args H K) (hk : ∀ v H', K v H' → K' v H') : CallsH P f args H K' :=
  ⟨h.1, fun w hw => (h.2 w hw).mono fun _ _ ⟨v, h1, h2, h3⟩ => ⟨v, h1, hk _ _ h2, h3⟩⟩
def nextHp (P : Program) (K : Value → Heap → Prop) : Next → Heap → Prop
  | .value v, H => K v H
  | .skip, H => K undef H
  | .enter f args, H => CallsH P f args H K
  | _, _ => False

def okW (H : Heap) (a : Addr) : Prop := (∃ u, hcell H a = some u) ∧ hfrozen H a = false
def storesX (a : Addr) : Nat → List Value → Heap → (Heap → Prop) → Prop
  | _, [], H, K => K H
  | i, v :: vs, H, K => plainVal v = true ∧ okW H (a.add i) ∧ storesX a (i + 1) vs (hset H (a.add i) v) K
def readL (H : Heap) (a : Addr) : Nat → Nat → Option (List Value)
  | _, 0 => some []
  | i, n + 1 => match hcell H (a.add i), readL H a (i + 1) n with
    | some v, some vs => some (v :: vs)
    | _, _ => none
def repL : Nat → List Value → List Value
  | 0, _ => []
  | n + 1, z => z ++ repL n z
def putL : List Value → Nat → List Value → List Value
  | l, 0, [] => l
  | _ :: l, 0, v :: vs => v :: putL l 0 vs
  | x :: l, n + 1, vs => x :: putL l n vs
  | [], _, _ => []
def fillX (lay : Nat → Option (Nat × Nat)) : List Value → List (Nat × Value) → Option (List Value)
  | cs, [] => some cs
  | cs, (i, v) :: rest => match lay i with
    | none => none
    | some (off, n) => if v.cells.size = n ∧ off + n ≤ cs.length then fillX lay (putL cs off v.cells.toList) rest else none
def buildX (P : Program) (t : TypeId) (parts : List (Nat × Value)) (K : Value → Prop) : Prop :=
  match tl P t with
  | some ti => match ti.kind with
    | .struct => match flay P t with
      | some l => match fillX (fun i => (l[i]?).map fun (o, n, _) => (o, n)) ti.zero.cells.toList parts with
        | some cs => K (.agg cs.toArray)
        | none => False
      | none => False
    | .array => match elems P t with
      | some (_, _, n) => match fillX (fun i => some (i * n, n)) ti.zero.cells.toList parts with
        | some cs => K (.agg cs.toArray)
        | none => False
      | none => False
    | _ => False
  | none => False
def newPtr (H : Heap) : Value := .pointer (some ⟨H.size, 0, none⟩)
def srcX (H : Heap) (sz : Nat) (x : Value) (n : Nat) (new : List Value) : Prop :=
  match x with
  | .slice (some b) n' _ => n' = n ∧ readL H b 0 (n * sz) = some new
  | .slice none n' _ => n' = n ∧ n = 0 ∧ new = []
  | .string s => s.size = n ∧ new = s.data.toList.map fun b => .int .u8 b.toNat
  | _ => False
def appendX (P : Program) (t : TypeId) (s x : Value) (H : Heap) (K : Value → Heap → Prop) : Prop :=
  match elems P t, s with
  | some (none, e, sz), .slice base sLen sCap => match tl P e with
    | some te => ∃ (n : Nat) (new : List Value),
        srcX H sz x n new ∧
        if sLen + n ≤ sCap then
          (match base with
            | some a => storesX (a.add (sLen * sz)) 0 new H fun H' => K (.slice base (sLen + n) sCap) H'
            | none => K (.slice base (sLen + n) sCap) H)
        else ∃ old : List Value,
          (match base with
            | some a => readL H a 0 (sLen * sz) = some old
            | none => old = []) ∧ 0 < te.bytes ∧ 2 * (sLen + n) * te.bytes ≤ 2 ^ 48 ∧
          ∀ c, sLen + n ≤ c → c < 2 ^ 63 → K (.slice (some ⟨H.size, 0, none⟩) (sLen + n) c) (H.push (.cells (old ++ new ++ repL (c - (sLen + n)) te.zero.cells.toList).toArray e))
    | none => False
  | _, _ => False
def isRdOp : Op → Bool
  | .move _ | .assign _ | .pick .. | .load .. | .nilCheck _ | .binOp .. | .unOp .. | .fieldAddr .. | .field .. | .indexAddr .. | .index .. | .slice .. | .extract .. | .makeFunc .. | .convert .. | .lookup .. => true
  | .call { callee := .builtin .len, .. } | .call { callee := .builtin .cap, .. } | .call { callee := .builtin .min, .. } | .call { callee := .builtin .max, .. } => true
  | _ => false
def callX (P : Program) (f : Value) (args : Array Value) (H : Heap) (K : Value → Heap → Prop) : Prop :=
  match f with
  | .func (.func f) first captured => CallsH P f (first ++ args ++ captured) H K
  | _ => False
/-- One operation. -/
def opX (P : Program) (o : Oper) (ρ : Operand → Value) (H : Heap) (K : Value → Heap → Prop) : Prop :=
  match isRdOp o.op with
  | true => rdX P o ρ H fun v => K v H
  | false => match o.op with
    | .build t parts => buildX P t (parts.toList.map fun (i, x) => (i, ρ x)) fun v => K v H
    | .store t x y => ptrX (ρ x) fun a => match tl P t with
      | some ti => (ρ y).cells.size = ti.size ∧ storesX a 0 (ρ y).cells.toList H (K undef)
      | none => False
    | .alloc t => match tl P t with
      | some ti => K (newPtr H) (H.push (.cells ti.zero.cells t))
      | none => False
    | .box t x => K (newPtr H) (H.push (.cells (ρ x).cells t))
    | .buildSlice t n parts => match elems P t with
      | some (none, e, sz) => match tl P e with
        | some te => n * sz ≤ 2 ^ 24 ∧ match fillX (fun i => some (i * sz, sz)) (repL n te.zero.cells.toList) (parts.toList.map fun (i, x) => (i, ρ x)) with
          | some cs => K (.slice (some ⟨H.size, 0, none⟩) n n) (H.push (.cells cs.toArray e))
          | none => False
        | none => False
      | _ => False
    | .makeSlice t l c => match elems P t with
      | some (none, e, _) => match tl P e with
        | some te => intX (ρ l) fun _ l => intX (ρ c) fun _ c => 0 ≤ l ∧ l ≤ c ∧ 0 < te.bytes ∧ c.toNat * te.bytes ≤ 281474976710656 ∧
            K (.slice (some ⟨H.size, 0, none⟩) l.toNat c.toNat) (H.push (.cells (repL c.toNat te.zero.cells.toList).toArray e))
        | none => False
      | _ => False
    | .makeMap _ none => K (.map (some H.size)) (H.push (.map #[] 0))
    | .call c => match c.callee with
      | .value f => callX P (ρ f) (c.args.map ρ) H K
      | .builtin .append => match c.args.toList, c.argTypes.toList with
        | [s, x], [t, t'] => t = t' ∧ appendX P t (ρ s) (ρ x) H K
        | _, _ => False
      | _ => semHp P (execOp ρ o) H (nextHp P K)
    | _ => semHp P (execOp ρ o) H (nextHp P K)
theorem hp_val {P : Program} {H : Heap} {s : Sem Value} {K : Value → Heap → Prop} (h : semHp P s H K) : semHp P (do pure (.value (← s)) : Sem Next) H (nextHp P K) := by
  rw [semHp_bind']; exact semHp_mono s _ _ _ (fun _ _ h => h) h
end Go.Hp

namespace Go.Hp
open Go
set_option linter.unusedVariables false
set_option linter.unusedSimpArgs false

theorem wrap_i64 {n : Int} (h0 : -9223372036854775808 ≤ n) (h1 : n ≤ 9223372036854775807) : IntKind.i64.wrap n = n := by
  have e : (2 : Int) ^ IntKind.i64.bits = 18446744073709551616 := by decide
  have e' : (2 : Int) ^ (IntKind.i64.bits - 1) = 9223372036854775808 := by decide
  have s : IntKind.i64.signed = true := rfl
  unfold IntKind.wrap
  rw [e, e', s]
  simp only [Bool.true_and]
  split <;> rename_i h <;> simp only [ge_iff_le, decide_eq_true_eq, Int.not_le] at h <;> omega
section
variable {P : Program}
theorem hp_stores {a : Addr} : ∀ (vs : List Value) (i : Nat) (H : Heap) (K : Heap → Prop), storesX a i vs H K → semHp P (storeCells a vs i) H (fun _ H' => K H')
  | [], _, _, _, h => h
  | v :: vs, i, H, K, h => by
    obtain ⟨h1, ⟨h2, h3⟩, h4⟩ := h
    show semHp P (store (a.add i) v >>= fun _ => storeCells a vs (i + 1)) H _
    rw [semHp_bind']
    exact ⟨h1, h2, h3, hp_stores vs (i + 1) _ _ h4⟩
theorem hp_storeVar {t : TypeId} {ti : TL} (hl : tl P t = some ti) {a : Addr} {v : Value} {H : Heap} {K : Heap → Prop} (hs : v.cells.size = ti.size) (h : storesX a 0 v.cells.toList H K) :
    semHp P (storeVar t a v) H (fun _ H' => K H') := by
  obtain ⟨tt, ht, _, hsz, _⟩ := tl_spec hl
  unfold storeVar
  rw [semHp_bind', hp_sizeOf ht]
  simp only [hs, hsz, ne_eq, not_true_eq_false, if_false]
  exact hp_stores _ _ _ _ h
theorem hp_newRow {e : TypeId} {cs : Array Value} {H : Heap} {K : Addr → Heap → Prop} : semHp P (newRow e cs) H K = K ⟨H.size, 0, none⟩ (H.push (.cells cs e)) := rfl
theorem hp_mapM_places : ∀ (fs : List Field) (l : List (Nat × Nat × Bool)) (H : Heap) (K : List (Nat × Nat) → Heap → Prop), layOf P fs = some l → K (l.map fun (o, n, _) => (o, n)) H →
    semHp P (fs.mapM fun f => do pure (f.offset, ← sizeOf f.type) : Sem (List (Nat × Nat))) H K
  | [], l, H, K, hl, h => by
    obtain rfl := Option.some.inj hl
    simpa [semHp_pure] using h
  | f :: fs, l, H, K, hl, h => by
    unfold layOf at hl
    split at hl
    · rename_i tf l' ht hl'
      obtain rfl := Option.some.inj hl
      rw [List.mapM_cons, semHp_bind', semHp_bind', hp_sizeOf ht, semHp_pure, semHp_bind']
      exact hp_mapM_places fs l' H _ hl' (by rw [semHp_pure]; exact h)
    · cases hl
theorem putL_length : ∀ (l : List Value) (n : Nat) (vs : List Value), (putL l n vs).length = l.length
  | [], 0, [] => rfl
  | _ :: _, 0, [] => rfl
  | _ :: l, 0, v :: vs => by simp [putL, putL_length l 0 vs]
  | x :: l, n + 1, vs => by simp [putL, putL_length l n vs]
  | [], 0, _ :: _ => rfl
  | [], _ + 1, _ => by simp [putL]
theorem putL_nil : ∀ (l : List Value) (n : Nat), putL l n [] = l
  | [], 0 => rfl
  | _ :: _, 0 => rfl
  | [], n + 1 => rfl
  | x :: l, n + 1 => by simp [putL, putL_nil l n]
theorem putL_cons : ∀ (l : List Value) (n : Nat) (v : Value) (vs : List Value), putL l n (v :: vs) = putL (l.set n v) (n + 1) vs
  | [], 0, v, vs => by simp [putL]
  | [], n + 1, v, vs => by simp [putL]
  | x :: l, 0, v, vs => by simp [putL]
  | x :: l, n + 1, v, vs => by simp only [putL, List.set_cons_succ]; rw [putL_cons l n v vs]
theorem foldl_put (off : Nat) : ∀ (vs : List Value) (i : Nat) (cs : Array Value),
    ((vs.zipIdx i).foldl (fun cs (c, j) => cs.setIfInBounds (off + j) c) cs).toList = putL cs.toList (off + i) vs
  | [], i, cs => by simp [putL_nil]
  | v :: vs, i, cs => by
    simp only [List.zipIdx_cons, List.foldl_cons]
    rw [foldl_put off vs (i + 1) _, Array.toList_setIfInBounds, putL_cons]
    rfl
theorem fill_eq (lay : Nat → Option (Nat × Nat)) : ∀ (parts : List (Nat × Value)) (cs : Array Value), Instr.fill lay cs parts = (fillX lay cs.toList parts).map List.toArray
  | [], cs => by simp [Instr.fill, fillX]
  | (i, v) :: rest, cs => by
    unfold Instr.fill fillX
    cases lay i with
    | none => rfl
    | some p =>
      obtain ⟨off, n⟩ := p
      simp only [Array.length_toList]
      by_cases hc : v.cells.size = n ∧ off + n ≤ cs.size
      · have hc' : ¬ (v.cells.size ≠ n ∨ off + v.cells.size > cs.size) := by omega
        rw [if_pos hc]
        rw [if_neg (by simpa using hc')]
        rw [fill_eq lay rest]
        congr 1
        have := foldl_put off v.cells.toList 0 cs
        rw [← Array.foldl_toList, Array.toList_zipIdx]
        rw [this]
        rfl
      · rw [if_neg hc]
        have hc' : (v.cells.size ≠ n ∨ off + v.cells.size > cs.size) := by omega
        rw [if_pos (by simpa using hc')]
        rfl
theorem flay_spec {s : TypeId} {l : List (Nat × Nat × Bool)} {ti : TI} {fs : Array Field} (ht : tab P s = some ti) (hd : ti.desc = .struct fs) (h : flay P s = some l) : layOf P fs.toList = some l := by
  unfold flay at h
  simpa [ht, hd] using h
theorem hp_build {t : TypeId} {parts : Array (Nat × Value)} {H : Heap} {K : Value → Heap → Prop} (h : buildX P t parts.toList fun v => K v H) : semHp P (Instr.build t parts) H K := by
  unfold buildX at h
  split at h
  · rename_i ti hl
    obtain ⟨tt, ht, hk, hs, hb, hz⟩ := tl_spec hl
    unfold Instr.build
    rw [semHp_bind', hp_zeroValue ht, semHp_bind', hp_underlying ht]
    split at h
    · rename_i hkk
      rw [hkk] at hk
      obtain ⟨fs, hd⟩ : ∃ fs, tt.desc = .struct fs := by cases hd : tt.desc <;> rw [hd] at hk <;> simp [kindD] at hk; exact ⟨_, rfl⟩
      simp only [hd]
      split at h
      · rename_i l hl
        have hlay := flay_spec ht hd hl
        split at h
        · rename_i cs hcs
          rw [semHp_bind']
          have hm : (fs.mapM fun f => do pure (f.offset, ← sizeOf f.type) : Sem (Array (Nat × Nat))) = (do let l ← (fs.toList.mapM fun f => do pure (f.offset, ← sizeOf f.type) : Sem (List (Nat × Nat))); pure l.toArray) := by
            rw [Array.mapM_eq_mapM_toList]
            simp
          rw [hm, semHp_bind']
          refine hp_mapM_places _ l H _ hlay ?_
          rw [semHp_pure]
          have : Instr.fill ((l.map fun (o, n, _) => (o, n)).toArray[·]?) tt.zero.cells parts.toList = some cs.toArray := by
            rw [fill_eq, hz]
            have e : (fun i : Nat => (l.map fun ((o, n, _) : Nat × Nat × Bool) => (o, n)).toArray[i]?) = fun i : Nat => (l[i]?).map fun (o, n, _) => (o, n) := by funext i; simp
            rw [e, hcs]; rfl
          rw [this]
          exact h
        · exact h.elim
      · exact h.elim
    · rename_i hkk
      rw [hkk] at hk
      obtain ⟨n, e, hd⟩ : ∃ n e, tt.desc = .array n e := by cases hd : tt.desc <;> rw [hd] at hk <;> simp [kindD] at hk; exact ⟨_, _, rfl⟩
      simp only [hd]
      split at h
      · rename_i m e' sz he
        obtain ⟨ti', te, h2, h3, h4, h5⟩ := elems_spec he
        rw [ht] at h2
        obtain rfl := Option.some.inj h2
        have : e' = e := by
          rw [hd] at h5
          cases m <;> simp [descOf] at h5
          exact h5.2.symm
        subst this
        split at h
        · rename_i cs hcs
          rw [semHp_bind', hp_sizeOf h3, h4]
          have : Instr.fill (fun i => some (i * sz, sz)) tt.zero.cells parts.toList = some cs.toArray := by
            rw [fill_eq, hz, hcs]; rfl
          rw [this]
          exact h
        · exact h.elim
      · exact h.elim
    · exact h.elim
  · exact h.elim
theorem repL_length (z : List Value) : ∀ n, (repL n z).length = n * z.length
  | 0 => by simp [repL]
  | n + 1 => by simp [repL, repL_length z n, Nat.succ_mul, Nat.add_comm]
theorem repL_getElem (z : List Value) : ∀ (n i : Nat), i < n * z.length → (repL n z)[i]? = z[i % z.length]?
  | 0, i, h => absurd h (by simp)
  | n + 1, i, h => by
    unfold repL
    by_cases hi : i < z.length
    · rw [List.getElem?_append_left hi, Nat.mod_eq_of_lt hi]
    · rw [List.getElem?_append_right (by omega), repL_getElem z n (i - z.length) (by rw [Nat.succ_mul] at h; omega)]
      congr 1
      rw [← Nat.sub_add_cancel (Nat.le_of_not_lt hi)]
      simp
theorem zeros_eq (z : Array Value) (n : Nat) : ((Array.range (n * z.size)).map (z[· % z.size]!)) = (repL n z.toList).toArray := by
  apply Array.ext
  · simp [repL_length]
  · intro i h1 h2
    have hi : i < n * z.toList.length := by simpa using h1
    have hz : i % z.size < z.size := Nat.mod_lt _ (by
      rcases Nat.eq_zero_or_pos z.size with h0 | h0
      · rw [Array.length_toList, h0] at hi; simp at hi
      · exact h0)
    have h3 := repL_getElem z.toList n i hi
    have h4 : (repL n z.toList)[i]? = some ((repL n z.toList)[i]'(by simpa using h2)) := List.getElem?_eq_getElem _
    rw [Array.length_toList] at h3
    rw [h4] at h3
    simp only [Array.getElem_map, Array.getElem_range, List.getElem_toArray]
    have h5 : z.toList[i % z.size]? = some (z[i % z.size]) := by simp [hz]
    rw [h5] at h3
    rw [Option.some.inj h3]
    simp [hz]
theorem zeroCells_eq (z : Array Value) (n : Nat) : Builtin.zeroCells z n = (repL n z.toList).toArray := by
  unfold Builtin.zeroCells
  rw [← zeros_eq]
theorem hp_loadCells {H : Heap} {a : Addr} : ∀ (n i : Nat) (vs acc : List Value) (K : Array Value → Heap → Prop), readL H a i n = some vs → K (acc ++ vs).toArray H →
    semHp P (loadCellsFrom a i n acc.toArray) H K
  | 0, i, vs, acc, K, hr, h => by
    obtain rfl := Option.some.inj hr
    simpa [loadCellsFrom, semHp_pure] using h
  | n + 1, i, vs, acc, K, hr, h => by
    unfold readL at hr
    split at hr
    · rename_i v vs' hv hvs
      obtain rfl := Option.some.inj hr
      unfold loadCellsFrom
      rw [semHp_bind']
      refine ⟨v, hv, ?_⟩
      have := hp_loadCells n (i + 1) vs' (acc ++ [v]) K hvs (by simpa using h)
      show semHp P (loadCellsFrom a (i + 1) n (acc.toArray.push v)) H K
      simpa using this
    · cases hr
theorem nextslicecap_le (need cap : Nat) (h : cap < need) : Builtin.nextslicecap need cap ≤ 2 * need := by
  have grow : ∀ (r c : Nat), 256 ≤ need → c ≤ 2 * need → Builtin.growBy need r c ≤ 2 * need := by
    intro r
    induction r with
    | zero => intro c _ hc; exact hc
    | succ r ih =>
      intro c hn hc
      unfold Builtin.growBy
      split
      · exact hc
      · exact ih _ hn (by omega)
  unfold Builtin.nextslicecap
  split
  · omega
  · split
    · omega
    · exact grow 4 cap (by omega) (by omega)
end
end Go.Hp

namespace Go.Hp
open Go
set_option linter.unusedVariables false
set_option linter.unusedSimpArgs false

section
variable {P : Program}
/-- What one operation comes to in a world. -/
def Runs (P : Program) (o : Oper) (ρ : Operand → Value) (w : World) (K : Value → Heap → Prop) : Prop :=
  ∃ nx w', (execOp ρ o).run P w = .ok nx w' ∧ nextHp P K nx w'.heap ∧ Like w w'
theorem runs_of_rd {o : Oper} {ρ : Operand → Value} {w : World} {K : Value → Heap → Prop} (h : rdX P o ρ w.heap fun v => K v w.heap) : Runs P o ρ w K := by
  obtain ⟨v, h1, h2⟩ := rdX_sound h
  exact ⟨_, w, h2.run w rfl, h1, .refl w⟩
theorem runs_of_hp {o : Oper} {ρ : Operand → Value} {w : World} {K : Value → Heap → Prop} (h : semHp P (execOp ρ o) w.heap (nextHp P K)) : Runs P o ρ w K := by
  obtain ⟨x, w', h1, h2, h3⟩ := semHp_run _ w _ h
  exact ⟨x, w', h1, h2, h3⟩
theorem hp_callFunc {f : FuncId} {args : Array Value} {H : Heap} {K : Value → Heap → Prop} (h : CallsH P f args H K) : semHp P (callFunc f args) H (nextHp P K) := by
  have hc := h.1
  unfold callable at hc
  unfold callFunc
  rw [semHp_bind']
  show semHp P (match P.funcs[f]? with | none => _ | some fn => _) H _
  split at hc
  · rename_i fn hf
    simp only [Bool.and_eq_true, Bool.not_eq_true'] at hc
    rw [hf]
    simp only []
    have h2 : fn.body.isNone = false := by cases hb : fn.body <;> simp [hb] at hc ⊢
    rw [if_neg (by rw [hc.2]; simp), if_neg (by rw [h2]; simp)]
    exact h
  · cases hc
theorem hp_append {t : TypeId} {ty : TypeId} {s x : Value} {H : Heap} {K : Value → Heap → Prop} (h : appendX P t s x H K) : semHp P (Builtin.append_ #[t, t] ty #[s, x]) H K := by
  unfold appendX at h
  split at h
  · rename_i e sz base sLen sCap he
    obtain ⟨ti, tt, h2, h3, h4, h5⟩ := elems_spec he
    have htl : tl P e = some ⟨kindD tt.desc, tt.size, tt.bytes, tt.zero⟩ := by unfold tl; rw [h3]; rfl
    rw [htl] at h
    simp only [] at h
    obtain ⟨n, new, hx, h⟩ := h
    unfold srcX at hx
    have hlen : Builtin.lenOf x = (Pure.pure n : Sem Nat) := by
      split at hx
      · rw [← hx.1]; rfl
      · rw [← hx.1]; rfl
      · rw [← hx.1]; rfl
      · exact hx.elim
    have hnew : ∀ (H' : Heap) (K' : Array Value → Heap → Prop), H' = H → K' new.toArray H' → semHp P (Builtin.firstCells sz n x) H' K' := by
      rintro H' K' rfl hk
      split at hx
      · obtain ⟨rfl, hr⟩ := hx
        unfold Builtin.firstCells loadCells
        exact hp_loadCells _ 0 new [] K' hr (by simpa using hk)
      · obtain ⟨rfl, h0, rfl⟩ := hx
        unfold Builtin.firstCells
        exact hk
      · rename_i s
        obtain ⟨rfl, rfl⟩ := hx
        unfold Builtin.firstCells
        rw [semHp_pure]
        have : s.extract 0 s.size = s := by
          apply ByteArray.ext
          rw [ByteArray.data_extract]
          exact Array.extract_size
        rw [this]
        have h6 : (s.data.map fun b => Value.int .u8 b.toNat) = (s.data.toList.map fun b => Value.int .u8 b.toNat).toArray := by
          apply Array.ext' ; simp
        rw [h6]; exact hk
      · exact hx.elim
    unfold Builtin.append_
    simp only [List.getElem?_toArray, List.getElem?_cons_zero, List.getElem?_cons_succ]
    rw [semHp_bind', hp_underlying h2, h5]
    simp only [descOf]
    rw [semHp_bind', hp_sizeOf h3, h4, semHp_bind', hp_underlying h2, h5]
    simp only [descOf]
    rw [semHp_bind', semHp_pure]
    simp only [Bool.false_eq_true, if_false, Bool.not_false, if_true]
    rw [semHp_bind', hlen, semHp_pure]
    split at h
    · rename_i hc
      rw [if_pos hc, semHp_bind']
      refine hnew H _ rfl ?_
      cases base with
      | none => exact h
      | some a =>
        simp only [] at h ⊢
        rw [semHp_bind']
        exact semHp_mono _ _ _ _ (fun _ _ h => h) (hp_stores (P := P) _ _ _ _ h)
    · rename_i hc
      obtain ⟨old, ho, hb0, hb, hk⟩ := h
      rw [if_neg hc]
      obtain ⟨i, hi1, hi2, hi3, hi4, hi5, hi6⟩ := tab_spec h3
      have hns : Builtin.nextslicecap (sLen + n) sCap * tt.bytes ≤ 2 ^ 48 :=
        Nat.le_trans (Nat.mul_le_mul_right _ (nextslicecap_le _ _ (by omega))) hb
      rw [semHp_bind', hp_typeInfo hi1, hi5]
      have hne : ¬ (((sLen + n : Nat) : Int) > IntKind.i64.max ∧ (False ∨ tt.bytes = 0)) := by
        rintro ⟨_, h | h⟩
        · exact h
        · omega
      rw [if_neg hne, semHp_bind', hp_typeInfo hi1, hi5, if_neg (by omega), semHp_bind']
      show semHp P (choose _) H _
      unfold Go.choose semHp
      rw [if_neg (by simp [Question.forced])]
      intro tp
      show semHp P (Sem.pure _) H _
      unfold semHp
      generalize hcap : Question.cut (.appendCap (sLen + n) sCap e) tp = c
      have hc1 : sLen + n ≤ c ∧ (c < 2 ^ 63 ∨ sLen + n ≥ 2 ^ 63) := by
        rw [← hcap]
        unfold Question.cut
        simp only []
        refine ⟨by omega, ?_⟩
        by_cases hbig : sLen + n < 2 ^ 63
        · left
          have := Nat.mod_lt tp (show 2 ^ 63 - (sLen + n) > 0 by omega)
          omega
        · right; omega
      have hc2 : c < 2 ^ 63 := by
        rcases hc1.2 with h | h
        · exact h
        · exfalso
          have : 2 * (sLen + n) * 1 ≤ 2 * (sLen + n) * tt.bytes := Nat.mul_le_mul_left _ hb0
          omega
      have hold : ∀ K' : Array Value → Heap → Prop, K' old.toArray H → semHp P (Builtin.firstCells sz sLen (.slice base sLen sCap)) H K' := by
        intro K' hk'
        cases base with
        | none =>
          simp only [] at ho
          subst ho
          exact hk'
        | some a =>
          simp only [] at ho
          unfold Builtin.firstCells loadCells
          exact hp_loadCells _ 0 old [] K' ho (by simpa using hk')
      rw [semHp_bind', hp_typeInfo hi1, semHp_bind']
      have hroom : ∀ (b : Nat) (K' : Unit → Heap → Prop), K' () H → semHp P (askRoom b) H K' := by
        intro b K' h
        unfold askRoom
        split
        · exact h
        · exact h
      refine hroom _ _ ?_
      rw [semHp_bind']
      refine hold _ ?_
      rw [semHp_bind']
      refine hnew H _ rfl ?_
      rw [semHp_bind', hp_zeroValue h3, semHp_bind', hp_newRow, semHp_pure]
      have := hk c hc1.1 hc2
      rw [zeroCells_eq]
      simpa using this
  · exact h.elim
theorem hp_makeSlice {t : TypeId} {l c : Value} {H : Heap} {K : Value → Heap → Prop} {e : TypeId} {sz : Nat} (he : elems P t = some (none, e, sz)) {tc : TL} (hl : tl P e = some tc)
    (h : intX l fun _ l => intX c fun _ c => 0 ≤ l ∧ l ≤ c ∧ 0 < tc.bytes ∧ c.toNat * tc.bytes ≤ 281474976710656 ∧
            K (.slice (some ⟨H.size, 0, none⟩) l.toNat c.toNat) (H.push (.cells (repL c.toNat tc.zero.cells.toList).toArray e))) : semHp P (Instr.makeSlice t l c) H K := by
  obtain ⟨ti, te, h2, ht, h4, h5⟩ := elems_spec he
  have htl : tl P e = some ⟨kindD te.desc, te.size, te.bytes, te.zero⟩ := by unfold tl; rw [ht]; rfl
  rw [htl] at hl
  obtain rfl := Option.some.inj hl
  simp only [] at *
  obtain ⟨i, hi1, hi2, hi3, hi4, hi5, hi6⟩ := tab_spec ht
  unfold intX at h
  split at h
  · rename_i kl l
    split at h
    · rename_i kc c
      obtain ⟨h0, h1, hb0, hbn, hk⟩ := h
      have hb : c * (te.bytes : Int) ≤ 2 ^ 48 := by
        have e : c = (c.toNat : Int) := by omega
        rw [e, ← Int.natCast_mul]
        omega
      unfold Instr.makeSlice
      rw [semHp_bind', hp_underlying h2, h5]
      simp only [descOf]
      have hl : ∀ (k : IntKind) (n : Int) (K' : Int → Heap → Prop), K' n H → semHp P (asInt (.int k n)) H K' := fun _ _ _ h => h
      rw [semHp_bind']
      refine hl _ _ _ ?_
      rw [semHp_bind']
      refine hl _ _ _ ?_
      rw [semHp_bind', hp_typeInfo hi1, hi5]
      have hc48 : c ≤ 2 ^ 48 := by
        have h7 : c * 1 ≤ c * (te.bytes : Int) := Int.mul_le_mul_of_nonneg_left (by omega) (by omega)
        omega
      have wl : IntKind.i64.wrap l = l := wrap_i64 (by omega) (by omega)
      have wc : IntKind.i64.wrap c = c := wrap_i64 (by omega) (by omega)
      simp only [wl, wc]
      have hneg : ¬ (decide (c < 0) || decide ((te.bytes : Int) * c > 2 ^ 48) || decide (l < 0) || decide (l > c)) = true := by
        simp only [Bool.or_eq_true, decide_eq_true_eq]
        have : (te.bytes : Int) * c = c * te.bytes := Int.mul_comm _ _
        omega
      rw [if_neg hneg]
      have hroom : ∀ (b : Nat) (K' : Unit → Heap → Prop), K' () H → semHp P (askRoom b) H K' := by
        intro b K' h
        unfold askRoom
        split
        · exact h
        · exact h
      rw [semHp_bind']
      refine hroom _ _ ?_
      rw [semHp_bind', hp_sizeOf ht]
      have hfin : ∀ z : Array Value, (c.toNat * te.size = 0 ∨ z = te.zero.cells) → ((Array.range (c.toNat * te.size)).map (z[· % z.size]!)) = (repL c.toNat te.zero.cells.toList).toArray := by
        rintro z (h0 | rfl)
        · have : (repL c.toNat te.zero.cells.toList).length = 0 := by rw [repL_length, Array.length_toList, hi6, h0]
          rw [h0, List.length_eq_zero_iff.1 this]
          simp
        · rw [← hi6, zeros_eq]
      split
      · rename_i h0
        rw [semHp_bind', semHp_pure, semHp_bind', hp_newRow, semHp_pure]
        rw [hfin #[] (.inl h0)]
        exact hk
      · rw [semHp_bind', hp_zeroValue ht, semHp_bind', semHp_pure, semHp_bind', hp_newRow, semHp_pure]
        rw [hfin te.zero.cells (.inr rfl)]
        exact hk
    · exact h.elim
  · exact h.elim
theorem hp_buildSlice {t : TypeId} {n : Nat} {parts : Array (Nat × Value)} {H : Heap} {K : Value → Heap → Prop} {e : TypeId} {sz : Nat} (he : elems P t = some (none, e, sz)) {tc : TL} (hl : tl P e = some tc)
    (hn : n * sz ≤ 2 ^ 24) {cs : List Value} (hf : fillX (fun i => some (i * sz, sz)) (repL n tc.zero.cells.toList) parts.toList = some cs)
    (h : K (.slice (some ⟨H.size, 0, none⟩) n n) (H.push (.cells cs.toArray e))) : semHp P (Instr.buildSlice t n parts) H K := by
  obtain ⟨ti, te, h2, ht, h4, h5⟩ := elems_spec he
  have htl : tl P e = some ⟨kindD te.desc, te.size, te.bytes, te.zero⟩ := by unfold tl; rw [ht]; rfl
  rw [htl] at hl
  obtain rfl := Option.some.inj hl
  simp only [] at *
  obtain ⟨i, hi1, hi2, hi3, hi4, hi5, hi6⟩ := tab_spec ht
  unfold Instr.buildSlice
  rw [semHp_bind', hp_underlying h2, h5]
  simp only [descOf]
  rw [semHp_bind', hp_sizeOf ht, h4, if_neg (by omega)]
  have hfin : ∀ z : Array Value, (n * sz = 0 ∨ z = te.zero.cells) → Instr.fill (fun i => some (i * sz, sz)) ((Array.range (n * sz)).map (z[· % z.size]!)) parts.toList = some cs.toArray := by
    intro z hz
    have : ((Array.range (n * sz)).map (z[· % z.size]!)) = (repL n te.zero.cells.toList).toArray := by
      rcases hz with h0 | rfl
      · have : (repL n te.zero.cells.toList).length = 0 := by rw [repL_length, Array.length_toList, hi6, h4, h0]
        rw [h0, List.length_eq_zero_iff.1 this]
        simp
      · rw [← zeros_eq, hi6, h4]
    rw [this, fill_eq, hf]
    rfl
  split
  · rename_i h0
    rw [semHp_bind', semHp_pure, hfin #[] (.inl h0)]
    simp only []
    rw [semHp_bind', hp_newRow, semHp_pure]
    exact h
  · rw [semHp_bind', hp_zeroValue ht, semHp_bind', semHp_pure, hfin te.zero.cells (.inr rfl)]
    simp only []
    rw [semHp_bind', hp_newRow, semHp_pure]
    exact h
theorem ptrX_spec {v : Value} {K : Addr → Prop} (h : ptrX v K) : ∃ a, v = .pointer (some a) ∧ K a := by
  unfold ptrX at h
  split at h
  · obtain ⟨a, rfl, h⟩ := h
    exact ⟨a, rfl, h⟩
  · exact h.elim
theorem opX_run {o : Oper} {ρ : Operand → Value} {w : World} {K : Value → Heap → Prop} (h : opX P o ρ w.heap K) : Runs P o ρ w K := by
  unfold opX at h
  split at h
  · exact runs_of_rd h
  · rename_i hrd
    clear hrd
    refine runs_of_hp ?_
    obtain ⟨dst, op, type, pos, after, guard⟩ := o
    cases op <;> simp only [] at h <;> try (exact h)
    case alloc t =>
      split at h
      · rename_i ti hl
        obtain ⟨tt, ht, _, _, _, hz⟩ := tl_spec hl
        refine hp_val ?_
        unfold Instr.alloc
        rw [semHp_bind', hp_zeroValue ht, hz]
        exact h
      · exact h.elim
    case build t parts =>
      refine hp_val (hp_build ?_)
      rw [Array.toList_map]
      exact h
    case buildSlice t n parts =>
      split at h
      · rename_i e sz he
        split at h
        · rename_i te hte
          obtain ⟨hn, h⟩ := h
          split at h
          · rename_i cs hcs
            exact hp_val (hp_buildSlice he hte hn (by rw [Array.toList_map]; exact hcs) h)
          · exact h.elim
        · exact h.elim
      · exact h.elim
    case store t x y =>
      obtain ⟨a, ha, h⟩ := ptrX_spec h
      split at h
      · rename_i ti ht
        show semHp P (Instr.storeAt t (ρ x) (ρ y) >>= fun _ => Pure.pure Next.skip) w.heap _
        rw [ha, semHp_bind']
        exact semHp_mono _ _ _ _ (fun _ _ h => h) (hp_storeVar ht h.1 h.2)
      · exact h.elim
    case makeMap t r =>
      cases r with
      | none => exact hp_val (K := K) (by exact h)
      | some r => exact h
    case makeSlice t l c =>
      split at h
      · rename_i e sz he
        split at h
        · rename_i te hte
          exact hp_val (hp_makeSlice he hte h)
        · exact h.elim
      · exact h.elim
    case call c =>
      obtain ⟨callee, args, argTypes⟩ := c
      split at h
      · rename_i f hf
        simp only [] at hf h
        subst hf
        unfold callX at h
        split at h
        · rename_i f' first captured hfv
          show semHp P (resolve ρ _ type >>= fun d => invoke d.target d.args) w.heap _
          unfold resolve
          rw [semHp_bind']
          simp only [hfv, Deferred.ofValue]
          rw [semHp_pure]
          exact hp_callFunc h
        · exact h.elim
      · rename_i hf
        simp only [] at hf
        subst hf
        split at h
        · rename_i s x t t' ha ht
          obtain rfl : args = #[s, x] := Array.ext' ha
          obtain rfl : argTypes = #[t, t'] := Array.ext' ht
          obtain ⟨rfl, h⟩ := h
          show semHp P (resolve ρ _ type >>= fun d => invoke d.target d.args) w.heap _
          unfold resolve
          rw [semHp_bind']
          simp only []
          rw [semHp_pure]
          have e : Array.map ρ #[s, x] = #[ρ s, ρ x] := by simp
          show semHp P (do pure (.value (← Builtin.append_ #[t, t] type (Array.map ρ #[s, x]))) : Sem Next) _ _
          rw [e]
          exact hp_val (hp_append h)
        · exact h.elim
      · exact h
end
end Go.Hp

namespace Go.Hp
open Go
set_option linter.unusedVariables false
set_option linter.unusedSimpArgs false

def Env.set (e : Env) (d : Nat) (v : Value) : Env := fun i => if i = d then v else e i
def Env.put (e : Env) : Option Tmp → Value → Env
  | none, _ => e
  | some d, v => e.set d v
def Env.eval (e : Env) : Operand → Value
  | .tmp t => e t
  | .const v => v
  | .global g => .pointer (some ⟨g, 0, none⟩)
  | .func f => .func (.func f) #[] #[]
def envOf (a : Act) : Env := fun t => a.tmps.getD t undef
theorem eval_env (a : Act) : a.eval = Env.eval (envOf a) := by
  funext x; cases x <;> rfl
def dstOk (n : Nat) (o : Oper) : Bool := match o.dst with | none => true | some d => decide (d < n)
theorem env_put {a : Act} {o : Oper} {v : Value} (h : dstOk a.tmps.size o = true) : envOf (a.put o.dst v) = (envOf a).put o.dst v := by
  unfold dstOk at h
  cases hd : o.dst with
  | none => rfl
  | some d =>
    rw [hd] at h
    simp only [decide_eq_true_eq] at h
    funext t
    unfold envOf Act.put Env.put Env.set
    simp only [Array.getD_eq_getD_getElem?]
    by_cases ht : t = d
    · subst ht; simp [h]
    · rw [Array.getElem?_setIfInBounds_ne (Ne.symm ht), if_neg ht]
theorem size_put {a : Act} {d : Option Tmp} {v : Value} : (a.put d v).tmps.size = a.tmps.size := by
  cases d <;> simp [Act.put]
theorem defers_put {a : Act} {d : Option Tmp} {v : Value} : (a.put d v).defers = a.defers := by
  cases d <;> rfl
def yieldedE (ops : Array Oper) (e : Env) (j : Nat) : Option Bool :=
  match (ops[j]?).bind (·.dst) with
  | some d => match e d with
    | .bool b => some b
    | _ => none
  | none => none
theorem yielded_env (ops : Array Oper) (a : Act) : yielded ops a.tmps = yieldedE ops (envOf a) := by
  funext j
  unfold yielded yieldedE envOf
  cases (ops[j]?).bind (·.dst) with
  | none => rfl
  | some d =>
    simp only [Option.bind_some, Array.getD_eq_getD_getElem?]
    cases h : a.tmps[d]? with
    | none => rfl
    | some v => simp only [Option.getD_some]; cases v <;> rfl

section
variable (P : Program)
def opAt (ops : Array Oper) (o : Oper) (e : Env) (H : Heap) (K : Env → Heap → Prop) : Prop :=
  match o.guard with
  | none => opX P o (Env.eval e) H fun v H' => K (e.put o.dst v) H'
  | some (j, want) => if yieldedE ops e j = some want then opX P o (Env.eval e) H fun v H' => K (e.put o.dst v) H' else K (e.put o.dst undef) H
def opsX (ops : Array Oper) : List Oper → Env → Heap → (Env → Heap → Prop) → Prop
  | [], e, H, K => K e H
  | o :: rest, e, H, K => opAt P ops o e H fun e' H' => opsX ops rest e' H' K
/-- What one operation comes to, in every world with this heap. -/
def opR (o : Oper) (ρ : Operand → Value) (H : Heap) (K : Value → Heap → Prop) : Prop := ∀ w : World, w.heap = H → Runs P o ρ w K
def opAtR (ops : Array Oper) (o : Oper) (e : Env) (H : Heap) (K : Env → Heap → Prop) : Prop :=
  match o.guard with
  | none => opR P o (Env.eval e) H fun v H' => K (e.put o.dst v) H'
  | some (j, want) => if yieldedE ops e j = some want then opR P o (Env.eval e) H fun v H' => K (e.put o.dst v) H' else K (e.put o.dst undef) H
/-- A region that draws its order: whatever order; S holds of the heap behind each operation but those of Z. -/
def anyH (ops : Array Oper) (S : Heap → Prop) (Z : List Nat) (K : Env → Heap → Prop) : Nat → Array Bool → Env → Heap → Prop
  | 0, listed, e, H => Region.ready .any ops listed = [] ∧ K e H
  | fuel + 1, listed, e, H => (Region.ready .any ops listed = [] → K e H) ∧
    ∀ i ∈ Region.ready .any ops listed, match ops[i]? with
      | none => anyH ops S Z K fuel (listed.setIfInBounds i true) e H
      | some o => opAtR P ops o e H fun e' H' => (Z.contains i = false → S H') ∧ anyH ops S Z K fuel (listed.setIfInBounds i true) e' H'
inductive HX where
  | normal
  | exit (id : Nat)
  | ret
def HX.to : HX → Exit
  | .normal => .normal
  | .exit id => .exit id
  | .ret => .ret
def seqQ (K : Env → Heap → Prop) (Q : HX → Env → Heap → Prop) : HX → Env → Heap → Prop
  | .normal, e, H => K e H
  | .exit i, e, H => Q (.exit i) e H
  | .ret, e, H => Q .ret e H
def blockQ (id : Nat) (Q : HX → Env → Heap → Prop) : HX → Env → Heap → Prop
  | .normal, e, H => Q .normal e H
  | .exit i, e, H => if i = id then Q .normal e H else Q (.exit i) e H
  | .ret, e, H => Q .ret e H
def loopQ (I : Nat → Env → Heap → Prop) (m : Nat) (Q : HX → Env → Heap → Prop) : HX → Env → Heap → Prop
  | .normal, e, H => ∃ m', m' < m ∧ I m' e H
  | .exit i, e, H => Q (.exit i) e H
  | .ret, e, H => Q .ret e H
def assignedOps (ops : Array Oper) : List Nat := ops.toList.filterMap (·.dst)
def assigned : Code → List Nat
  | .region _ ops _ => assignedOps ops
  | .seq a b => assigned a ++ assigned b
  | .cond _ a b => assigned a ++ assigned b
  | .block _ b => assigned b
  | .loop b => assigned b
  | .scope b => assigned b
  | _ => []
/-- qs: the regions that draw their order and only read. -/
def codeX (qs : List Nat) : Code → (HX → Env → Heap → Prop) → Env → Heap → Prop
  | .skip, Q, e, H => Q .normal e H
  | .label _, Q, e, H => Q .normal e H
  | .region id ops draw, Q, e, H => if (draw && !qs.contains id) = true then (∃ (S : Heap → Prop) (Z : List Nat), S H ∧ anyH P ops S Z (Q .normal) ops.size (Array.replicate ops.size false) e H) else opsX P ops ops.toList e H (Q .normal)
  | .seq a b, Q, e, H => codeX qs a (seqQ (codeX qs b Q) Q) e H
  | .cond c a b, Q, e, H => boolX (Env.eval e c) fun t => (t = true → codeX qs a Q e H) ∧ (t = false → codeX qs b Q e H)
  | .block id b, Q, e, H => codeX qs b (blockQ id Q) e H
  | .loop b, Q, e, H => ∃ I : Nat → Env → Heap → Prop, (∃ m, I m e H) ∧ ∀ m e' H', I m e' H' → (∀ i, (assigned b).contains i = false → e' i = e i) → codeX qs b (loopQ I m Q) e' H'
  | .scope b, Q, e, H => codeX qs b Q e H
  | .exit id, Q, e, H => Q (.exit id) e H
  | .ret, Q, e, H => Q .ret e H
  | _, _, _, _ => False
end

section
variable {P : Program}
theorem opX_mono {o : Oper} {ρ : Operand → Value} {H : Heap} {K : Value → Heap → Prop} (h : opX P o ρ H K) (w : World) (hw : w.heap = H) : Runs P o ρ w K := by
  subst hw; exact opX_run h
structure At (n : Nat) (w0 : World) (e : Env) (H : Heap) (a : Act) (w : World) : Prop where
  env : envOf a = e
  heap : w.heap = H
  defers : a.defers = []
  size : a.tmps.size = n
  like : Like w0 w
theorem At.put {n : Nat} {w0 : World} {e : Env} {H : Heap} {a : Act} {w : World} (h : At n w0 e H a w) {o : Oper} (ho : dstOk n o = true) (v : Value) {w' : World} (hl : Like w w') :
    At n w0 (e.put o.dst v) w'.heap (a.put o.dst v) w' :=
  ⟨by rw [env_put (by rw [h.size]; exact ho), h.env], rfl, by rw [defers_put, h.defers], by rw [size_put, h.size], h.like.trans hl⟩
def Off (A : List Nat) (e e' : Env) : Prop := ∀ i, A.contains i = false → e' i = e i
theorem Off.refl (A : List Nat) (e : Env) : Off A e e := fun _ _ => rfl
theorem Off.trans {A B : List Nat} {e e' e'' : Env} (h : Off A e e') (k : Off B e' e'') : Off (A ++ B) e e'' := fun i hi => by
  simp only [List.contains_eq_mem, List.mem_append, decide_eq_false_iff_not, not_or] at hi
  rw [k i (by simpa using hi.2), h i (by simpa using hi.1)]
theorem Off.mono {A B : List Nat} {e e' : Env} (h : Off A e e') (k : ∀ i, i ∈ A → i ∈ B) : Off B e e' := fun i hi => h i (by
  simp only [List.contains_eq_mem, decide_eq_false_iff_not] at hi ⊢
  exact fun h => hi (k i h))
theorem off_put (e : Env) (d : Option Tmp) (v : Value) : Off d.toList e (e.put d v) := fun i hi => by
  cases d with
  | none => rfl
  | some d =>
    simp only [Option.toList_some, List.contains_eq_mem, List.mem_singleton, decide_eq_false_iff_not] at hi
    exact if_neg hi
theorem opAtR_of {ops : Array Oper} {o : Oper} {e : Env} {H : Heap} {K : Env → Heap → Prop} (h : opAt P ops o e H K) : opAtR P ops o e H K := by
  unfold opAt at h
  unfold opAtR
  cases hg : o.guard with
  | none => rw [hg] at h; exact fun w hw => opX_mono h w hw
  | some g =>
    obtain ⟨j, want⟩ := g
    rw [hg] at h
    simp only [] at h ⊢
    split
    · rename_i hy; rw [if_pos hy] at h; exact fun w hw => opX_mono h w hw
    · rename_i hy; rw [if_neg hy] at h; exact h
theorem opAtR_sound {n : Nat} {w0 : World} {ops : Array Oper} {o : Oper} {e : Env} {H : Heap} {K : Env → Heap → Prop} {a : Act} {w : World} {N : Act → World → Prop} {Q : Exit → Act → World → Prop}
    (hat : At n w0 e H a w) (ho : dstOk n o = true) (h : opAtR P ops o e H K) (hN : ∀ e' H' a' w', At n w0 e' H' a' w' → Off o.dst.toList e e' → K e' H' → N a' w') :
    (if Region.wanted o (yielded ops a.tmps) then o.wp P a w N Q ∨ (o.asks P a w ∧ LetsOut Q) else N (a.put o.dst undef) w) := by
  have run : ∀ K' : Value → Heap → Prop, opR P o (Env.eval e) H K' → (∀ v H', K' v H' → K (e.put o.dst v) H') → o.wp P a w N Q := by
    intro K' hx hk
    obtain ⟨nx, w', h1, h2, h3⟩ := hx w hat.heap
    rw [← hat.env, ← eval_env] at h1
    unfold Oper.wp
    rw [h1]
    cases nx <;> simp only [nextHp] at h2 <;> first | exact h2.elim | skip
    case value v => exact hN _ _ _ _ (hat.put ho v h3) (off_put _ _ _) (hk _ _ h2)
    case skip => exact hN _ _ _ _ (hat.put ho _ h3) (off_put _ _ _) (hk _ _ h2)
    case enter f args =>
      refine (h2.2 w' rfl).mono ?_
      rintro _ w'' ⟨v, rfl, h4, h5⟩
      exact hN _ _ _ _ (hat.put ho v (h3.trans h5)) (off_put _ _ _) (hk _ _ h4)
  unfold opAtR at h
  cases hg : o.guard with
  | none =>
    rw [hg] at h
    rw [if_pos (by simp [Region.wanted, hg])]
    exact .inl (run _ h fun _ _ h => h)
  | some g =>
    obtain ⟨j, want⟩ := g
    rw [hg] at h
    simp only [] at h
    have hw : Region.wanted o (yielded ops a.tmps) = (yieldedE ops e j == some want) := by
      unfold Region.wanted
      rw [hg, yielded_env, hat.env]
    rw [hw]
    by_cases hy : yieldedE ops e j = some want
    · rw [if_pos hy] at h
      rw [if_pos (by rw [hy]; simp)]
      exact .inl (run _ h fun _ _ h => h)
    · rw [if_neg hy] at h
      rw [if_neg (by simpa using hy)]
      exact hN _ _ _ _ (by have := hat.put ho undef (.refl w); rw [hat.heap] at this; exact this) (off_put _ _ _) h
theorem off_step {A : List Nat} {o : Oper} {e e' e'' : Env} (h : ∀ d, o.dst = some d → d ∈ A) (k : Off A e e') (l : Off o.dst.toList e' e'') : Off A e e'' :=
  (k.trans l).mono fun i hi => by
    rcases List.mem_append.1 hi with hi | hi
    · exact hi
    · exact h i (by simpa using hi)
theorem opsX_sound {n : Nat} {w0 : World} {ops : Array Oper} {A : List Nat} {e0 : Env} {Q : Exit → Act → World → Prop} {K : Env → Heap → Prop} (hQ : ∀ e' H' a' w', At n w0 e' H' a' w' → Off A e0 e' → K e' H' → Q .normal a' w') :
    ∀ (l : List Oper) (e : Env) (H : Heap) (a : Act) (w : World), (∀ o ∈ l, dstOk n o = true) → (∀ o ∈ l, ∀ d, o.dst = some d → d ∈ A) → Off A e0 e → At n w0 e H a w → opsX P ops l e H K → wpList P ops Q l a w
  | [], e, H, a, w, _, _, hoff, hat, h => hQ _ _ _ _ hat hoff h
  | o :: rest, e, H, a, w, hd, hA, hoff, hat, h => by
    unfold wpList
    exact opAtR_sound hat (hd o (.head _)) (opAtR_of h) fun e' H' a' w' hat' hoff' h' => opsX_sound hQ rest e' H' a' w' (fun o ho => hd o (.tail _ ho)) (fun o ho => hA o (.tail _ ho)) (off_step (hA o (.head _)) hoff hoff') hat' h'
theorem anyH_sound {n : Nat} {w0 : World} {ops : Array Oper} {A : List Nat} {e0 : Env} {Q : Exit → Act → World → Prop} {S : Heap → Prop} {Z : List Nat} {K : Env → Heap → Prop} (hQ : ∀ e' H' a' w', At n w0 e' H' a' w' → Off A e0 e' → K e' H' → Q .normal a' w')
    (hd : ∀ o ∈ ops, dstOk n o = true) (hA : ∀ o ∈ ops, ∀ d, o.dst = some d → d ∈ A) :
    ∀ (fuel : Nat) (listed : Array Bool) (e : Env) (H : Heap) (a : Act) (w : World), Off A e0 e → At n w0 e H a w → anyH P ops S Z K fuel listed e H → wpAny P .any ops Q fuel listed a w
  | 0, listed, e, H, a, w, hoff, hat, h => ⟨h.1, hQ _ _ _ _ hat hoff h.2⟩
  | fuel + 1, listed, e, H, a, w, hoff, hat, h => by
    refine ⟨fun hr => hQ _ _ _ _ hat hoff (h.1 hr), fun i hi => ?_⟩
    have h2 := h.2 i hi
    unfold wpOp
    cases ho : ops[i]? with
    | none =>
      rw [ho] at h2
      exact anyH_sound hQ hd hA fuel _ e H a w hoff hat h2
    | some o =>
      rw [ho] at h2
      have hm := Array.mem_of_getElem? ho
      exact opAtR_sound hat (hd o hm) h2 fun e' H' a' w' hat' hoff' h' => anyH_sound hQ hd hA fuel _ e' H' a' w' (off_step (hA o hm) hoff hoff') hat' h'.2
end
end Go.Hp

namespace Go.Hp
open Go
set_option linter.unusedVariables false
set_option linter.unusedSimpArgs false

section
variable {P : Program} {ops : Array Oper} {S : Heap → Prop} {K : Env → Heap → Prop}
theorem Runs.mono {o : Oper} {ρ : Operand → Value} {w : World} {K K' : Value → Heap → Prop} (h : Runs P o ρ w K) (hk : ∀ v H, K v H → K' v H) : Runs P o ρ w K' := by
  obtain ⟨nx, w', h1, h2, h3⟩ := h
  refine ⟨nx, w', h1, ?_, h3⟩
  cases nx <;> simp only [nextHp] at h2 ⊢ <;> first | exact hk _ _ h2 | exact h2.mono hk | exact h2
theorem opR_mono {o : Oper} {ρ : Operand → Value} {H : Heap} {K K' : Value → Heap → Prop} (h : opR P o ρ H K) (hk : ∀ v H, K v H → K' v H) : opR P o ρ H K' :=
  fun w hw => (h w hw).mono hk
theorem opAtR_mono {o : Oper} {e : Env} {H : Heap} {K K' : Env → Heap → Prop} (h : opAtR P ops o e H K) (hk : ∀ e H, K e H → K' e H) : opAtR P ops o e H K' := by
  unfold opAtR at h ⊢
  split
  · rename_i hg; rw [hg] at h; exact opR_mono h fun _ _ => hk _ _
  · rename_i j want hg
    rw [hg] at h
    simp only [] at h
    split
    · rename_i hy; rw [if_pos hy] at h; exact opR_mono h fun _ _ => hk _ _
    · rename_i hy; rw [if_neg hy] at h; exact hk _ _ h
theorem Env.put_comm (e : Env) {x y : Option Tmp} (v u : Value) (h : ∀ d, x = some d → y ≠ some d) : (e.put x v).put y u = (e.put y u).put x v := by
  cases x with
  | none => rfl
  | some d =>
    cases y with
    | none => rfl
    | some d' =>
      have hne : d ≠ d' := fun h' => h d rfl (by rw [h'])
      funext i
      simp only [Env.put, Env.set]
      by_cases h1 : i = d
      · subst h1; simp [hne]
      · simp [h1]
theorem eval_put {e : Env} {d : Option Tmp} {v : Value} {x : Operand} (h : ∀ t, d = some t → x ≠ .tmp t) : Env.eval (e.put d v) x = Env.eval e x := by
  cases d with
  | none => rfl
  | some t =>
    cases x with
    | tmp t' =>
      have hne : t' ≠ t := fun h' => h t rfl (by rw [h'])
      show Env.set e t v t' = e t'
      unfold Env.set
      rw [if_neg hne]
    | _ => rfl
theorem exec_put (o : Oper) (hs : ∀ cs b, o.op ≠ .select cs b) (e : Env) (d : Option Tmp) (v : Value) (h : ∀ t, d = some t → t ∉ o.looksAt ops) : execOp (Env.eval (e.put d v)) o = execOp (Env.eval e) o :=
  execOp_congr o hs fun x hx => eval_put fun t ht hxt => h t ht (by
    subst hxt
    exact List.mem_append_left _ (List.mem_filterMap.2 ⟨.tmp t, by simpa using hx, rfl⟩))
theorem yielded_put (o : Oper) (e : Env) (d : Option Tmp) (v : Value) {j : Nat} {want : Bool} (hg : o.guard = some (j, want)) (h : ∀ t, d = some t → t ∉ o.looksAt ops) : yieldedE ops (e.put d v) j = yieldedE ops e j := by
  cases d with
  | none => rfl
  | some t =>
    unfold yieldedE
    cases ht : (ops[j]?).bind (·.dst) with
    | none => rfl
    | some t' =>
      have hne : t' ≠ t := fun e => h t rfl (by subst e; simp [Oper.looksAt, hg, ht])
      simp only []
      show (match Env.set e t v t' with | .bool b => some b | _ => none) = _
      unfold Env.set
      rw [if_neg hne]
      cases e t' <;> rfl
theorem opAtR_put {o : Oper} {e : Env} {d : Option Tmp} {v : Value} {H : Heap} (hs : ∀ cs b, o.op ≠ .select cs b) (h1 : ∀ t, d = some t → t ∉ o.looksAt ops) (h2 : ∀ t, d = some t → o.dst ≠ some t)
    (h : opAtR P ops o (e.put d v) H K) : opAtR P ops o e H fun e' H' => K (e'.put d v) H' := by
  unfold opAtR at h ⊢
  have he : ∀ K', opR P o (Env.eval (e.put d v)) H K' → opR P o (Env.eval e) H K' := fun K' h w hw => by
    have := h w hw
    unfold Runs at this ⊢
    rw [exec_put o hs e d v h1] at this
    exact this
  have hc : ∀ u, (e.put d v).put o.dst u = (e.put o.dst u).put d v := fun u => Env.put_comm e v u h2
  split
  · rename_i hg
    rw [hg] at h
    simp only [hc] at h
    exact he _ h
  · rename_i j want hg
    rw [hg] at h
    simp only [yielded_put o e d v hg h1, hc] at h
    split
    · rename_i hy; rw [if_pos hy] at h; exact he _ h
    · rename_i hy; rw [if_neg hy] at h; exact h
/-- In every heap of S operation o, in this state, yields v and leaves the heap. -/
def Still (P : Program) (ops : Array Oper) (S : Heap → Prop) (o : Oper) (e : Env) (v : Value) : Prop :=
  match o.guard with
  | none => ∀ H, S H → Rd P H (execOp (Env.eval e) o) (.value v)
  | some (j, want) => if yieldedE ops e j = some want then ∀ H, S H → Rd P H (execOp (Env.eval e) o) (.value v) else v = undef
theorem Still.opAtR {o : Oper} {e : Env} {v : Value} {H : Heap} (h : Still P ops S o e v) (hS : S H) (hk : K (e.put o.dst v) H) : opAtR P ops o e H K := by
  unfold Still at h
  unfold Hp.opAtR
  have run : (∀ H, S H → Rd P H (execOp (Env.eval e) o) (.value v)) → opR P o (Env.eval e) H fun v H' => K (e.put o.dst v) H' := fun h w hw => by
    have := h H hS
    subst hw
    exact ⟨_, w, this.run w rfl, hk, .refl w⟩
  split
  · rename_i hg; rw [hg] at h; exact run h
  · rename_i j want hg
    rw [hg] at h
    simp only [] at h
    split
    · rename_i hy; rw [if_pos hy] at h; exact run h
    · rename_i hy; rw [if_neg hy] at h; rw [← h]; exact hk
theorem Still.put {o oj : Oper} {e : Env} {v u : Value} (h : Still P ops S o e v) (hs : ∀ cs b, o.op ≠ .select cs b) (h3 : ∀ t, oj.dst = some t → t ∉ o.looksAt ops) : Still P ops S o (e.put oj.dst u) v := by
  unfold Still at h ⊢
  split
  · rename_i hg; rw [hg] at h; rw [exec_put o hs e _ u h3]; exact h
  · rename_i j want hg
    rw [hg] at h
    simp only [] at h
    rw [exec_put o hs e _ u h3, yielded_put o e _ u hg h3]
    exact h
theorem ready_set {i j : Nat} {listed : Array Bool} (hj : j ∈ Region.ready .any ops listed) (hne : j ≠ i) : j ∈ Region.ready .any ops (listed.setIfInBounds i true) := ready_mono hj hne
end
structure Ext (H H' : Heap) : Prop where
  size : H.size ≤ H'.size
  same : ∀ b, b < H.size → H'[b]? = H[b]?
theorem Ext.refl (H : Heap) : Ext H H := ⟨Nat.le_refl _, fun _ _ => rfl⟩
theorem Ext.trans {A B C : Heap} (h : Ext A B) (k : Ext B C) : Ext A C := ⟨Nat.le_trans h.size k.size, fun b hb => (k.same b (Nat.lt_of_lt_of_le hb h.size)).trans (h.same b hb)⟩
theorem Ext.push (H : Heap) (o : Obj) : Ext H (H.push o) := ⟨by simp, fun b hb => by rw [Array.getElem?_push, if_neg (by omega)]⟩
theorem Ext.nil (H : Heap) : Ext #[] H := ⟨Nat.zero_le _, fun b hb => absurd hb (by simp)⟩
/-- Its value hangs on no heap. -/
def pureOp : Op → Bool
  | .move _ | .assign _ | .pick .. | .nilCheck _ | .unOp .not .. | .unOp .neg .. | .fieldAddr .. | .field .. | .indexAddr .. | .slice .. | .extract .. | .makeFunc .. => true
  | _ => false
/-- It leaves what was there. -/
def smallOp (o : Op) : Bool := isRdOp o || match o with
  | .build .. | .alloc .. | .box .. | .buildSlice .. | .makeSlice .. | .makeMap _ none => true
  | _ => false
section
variable {P : Program} {ops : Array Oper}
theorem buildX_mono {t : TypeId} {parts : List (Nat × Value)} {K K' : Value → Prop} (h : buildX P t parts K) (hk : ∀ v, K v → K' v) : buildX P t parts K' := by
  unfold buildX at h ⊢
  cases ht : tl P t with
  | none => rw [ht] at h; exact h.elim
  | some ti =>
    rw [ht] at h
    simp only [] at h ⊢
    cases hd : ti.kind <;> rw [hd] at h <;> simp only [] at h ⊢
    case struct =>
      cases hf : flay P t with
      | none => rw [hf] at h; exact h.elim
      | some l =>
        rw [hf] at h
        simp only [] at h ⊢
        split at h
        · rename_i cs hc; exact hk _ h
        · exact h.elim
    case array =>
      cases he : elems P t with
      | none => rw [he] at h; exact h.elim
      | some x =>
        rw [he] at h
        simp only [] at h ⊢
        split at h
        · rename_i cs hc; exact hk _ h
        · exact h.elim
theorem opR_small {o : Oper} {ρ : Operand → Value} {H : Heap} {K : Value → Heap → Prop} (hs : smallOp o.op = true) (h : opX P o ρ H K) : opR P o ρ H fun v H' => Ext H H' ∧ K v H' := by
  cases hr : isRdOp o.op with
  | true =>
    unfold opX at h
    rw [hr] at h
    obtain ⟨v, h1, h2⟩ := rdX_sound h
    intro w hw
    subst hw
    exact ⟨_, w, h2.run w rfl, ⟨.refl _, h1⟩, .refl w⟩
  | false =>
    refine opX_mono ?_
    have hs' := hs
    unfold smallOp at hs'
    rw [hr, Bool.false_or] at hs'
    obtain ⟨dst, op, type, pos, after, guard⟩ := o
    unfold opX at h ⊢
    rw [hr] at h ⊢
    try simp only [] at h ⊢
    cases op <;> simp only [Bool.false_eq_true] at hs' h ⊢
    case build t parts => exact buildX_mono h fun v h => ⟨.refl _, h⟩
    case alloc t =>
      cases ht : tl P t with
      | none => rw [ht] at h; exact h.elim
      | some ti => rw [ht] at h; exact ⟨.push _ _, h⟩
    case box => exact ⟨.push _ _, h⟩
    case buildSlice t n parts =>
      cases he : elems P t with
      | none => rw [he] at h; exact h.elim
      | some x =>
        obtain ⟨m, e, sz⟩ := x
        rw [he] at h
        cases m with
        | some m => exact h.elim
        | none =>
          simp only [] at h ⊢
          cases ht : tl P e with
          | none => rw [ht] at h; exact h.elim
          | some te =>
            rw [ht] at h
            simp only [] at h ⊢
            refine ⟨h.1, ?_⟩
            have h2 := h.2
            split at h2
            · rename_i cs hc; exact ⟨.push _ _, h2⟩
            · exact h2.elim
    case makeSlice t l c =>
      cases he : elems P t with
      | none => rw [he] at h; exact h.elim
      | some x =>
        obtain ⟨m, e, sz⟩ := x
        rw [he] at h
        cases m with
        | some m => exact h.elim
        | none =>
          simp only [] at h ⊢
          cases ht : tl P e with
          | none => rw [ht] at h; exact h.elim
          | some te =>
            rw [ht] at h
            simp only [] at h ⊢
            unfold intX at h ⊢
            split at h
            · split at h
              · exact ⟨h.1, h.2.1, h.2.2.1, h.2.2.2.1, .push _ _, h.2.2.2.2⟩
              · exact h.elim
            · exact h.elim
    case makeMap t c =>
      cases c with
      | none => exact ⟨.push _ _, h⟩
      | some c => simp at hs'
theorem opAtR_small {o : Oper} {e : Env} {H : Heap} {K : Env → Heap → Prop} (h : opAt P ops o e H K) : opAtR P ops o e H fun e' H' => (smallOp o.op = true → Ext H H') ∧ K e' H' := by
  cases hs : smallOp o.op with
  | false => exact opAtR_mono (opAtR_of h) fun e H h => ⟨fun h' => (by cases h'), h⟩
  | true =>
    unfold opAt at h
    unfold opAtR
    split
    · rename_i hg; rw [hg] at h; exact opR_mono (opR_small hs h) fun v H' ⟨a, b⟩ => ⟨fun _ => a, b⟩
    · rename_i j want hg
      rw [hg] at h
      simp only [] at h
      split
      · rename_i hy; rw [if_pos hy] at h; exact opR_mono (opR_small hs h) fun v H' ⟨a, b⟩ => ⟨fun _ => a, b⟩
      · rename_i hy; rw [if_neg hy] at h; exact ⟨fun _ => .refl _, h⟩
theorem still_rd {o : Oper} {e : Env} {H : Heap} {K : Env → Heap → Prop} (hr : isRdOp o.op = true) (h : opAt P ops o e H K) : ∃ v, Still P ops (Ext (if pureOp o.op then #[] else H)) o e v ∧ K (e.put o.dst v) H := by
  have key : ∀ K' : Value → Heap → Prop, opX P o (Env.eval e) H K' → ∃ v, K' v H ∧ ∀ H', Ext (if pureOp o.op then #[] else H) H' → Rd P H' (execOp (Env.eval e) o) (.value v) := by
    intro K' hx
    unfold opX at hx
    rw [hr] at hx
    simp only [] at hx
    by_cases hp : pureOp o.op = true
    · rw [if_pos hp]
      have h0 : rdX P o (Env.eval e) #[] fun v => K' v H := by
        obtain ⟨dst, op, type, pos, after, guard⟩ := o
        cases op <;> first | exact hx | (simp [pureOp] at hp; done) | skip
        rename_i op t x
        cases op <;> first | exact hx | (simp [pureOp] at hp; done)
      obtain ⟨v, h1, h2⟩ := rdX_sound h0
      exact ⟨v, h1, fun H' hE => h2.more hE.size hE.same⟩
    · rw [if_neg hp]
      obtain ⟨v, h1, h2⟩ := rdX_sound hx
      exact ⟨v, h1, fun H' hE => h2.more hE.size hE.same⟩
  unfold opAt at h
  unfold Still
  split at h
  · rename_i hg
    rw [hg]
    obtain ⟨v, h1, h2⟩ := key _ h
    exact ⟨v, h2, h1⟩
  · rename_i j want hg
    rw [hg]
    simp only []
    split at h
    · rename_i hy
      obtain ⟨v, h1, h2⟩ := key _ h
      exact ⟨v, by rw [if_pos hy]; exact h2, h1⟩
    · rename_i hy
      exact ⟨_, by rw [if_neg hy], h⟩
variable (P ops) in
def anyE (K : Env → Heap → Prop) : Nat → Array Bool → Env → Heap → Prop
  | 0, listed, e, H => Region.ready .any ops listed = [] ∧ K e H
  | fuel + 1, listed, e, H => (Region.ready .any ops listed = [] → K e H) ∧
    ∀ i ∈ Region.ready .any ops listed, match ops[i]? with
      | none => anyE K fuel (listed.setIfInBounds i true) e H
      | some o => opAtR P ops o e H fun e' H' => (smallOp o.op = true → Ext H H') ∧ anyE K fuel (listed.setIfInBounds i true) e' H'
theorem anyH_of {K : Env → Heap → Prop} : ∀ (fuel : Nat) (listed : Array Bool) (e : Env) (H : Heap), anyE P ops K fuel listed e H → anyH P ops (fun _ => True) [] K fuel listed e H
  | 0, _, _, _, h => h
  | fuel + 1, listed, e, H, h => ⟨h.1, fun i hi => by
      have h2 := h.2 i hi
      cases ho : ops[i]? with
      | none => rw [ho] at h2; exact anyH_of fuel _ e H h2
      | some o => rw [ho] at h2; exact opAtR_mono h2 fun e' H' ⟨_, h⟩ => ⟨fun _ => trivial, anyH_of fuel _ e' H' h⟩⟩
variable {K : Env → Heap → Prop}
theorem anyE_first {i : Nat} {oi : Oper} {v : Value} {B : Heap} {L : List Nat} (hi : ops[i]? = some oi) (hsel : ∀ (j : Nat) (o : Oper) cs b, ops[j]? = some o → o.op ≠ .select cs b)
    (hiL : i ∈ L) (hL : ∀ j ∈ L, j ≠ i → ∀ oj, ops[j]? = some oj → ∃ x ∈ oj.after, Region.binds .any x = true ∧ x.on ∈ L) :
    ∀ (fuel : Nat) (listed : Array Bool) (e : Env) (H : Heap), (∀ j ∈ L, listed.getD j false = false) →
      (∀ j oj, ops[j]? = some oj → j ∉ L → listed.getD j true = false → oi.apart ops oj = true ∧ (B = #[] ∨ smallOp oj.op = true)) →
      i ∈ Region.ready .any ops listed → Still P ops (Ext B) oi e v → Ext B H → (∀ H', Ext H H' → smallOp oi.op = true → True) →
      anyE P ops K fuel (listed.setIfInBounds i true) (e.put oi.dst v) H → anyE P ops K (fuel + 1) listed e H := by
  have run : ∀ {fuel : Nat} {listed : Array Bool} {e : Env} {H : Heap}, Still P ops (Ext B) oi e v → Ext B H → anyE P ops K fuel (listed.setIfInBounds i true) (e.put oi.dst v) H →
      opAtR P ops oi e H fun e' H' => (smallOp oi.op = true → Ext H H') ∧ anyE P ops K fuel (listed.setIfInBounds i true) e' H' :=
    fun hy hS hh => hy.opAtR hS ⟨fun _ => .refl _, hh⟩
  intro fuel
  induction fuel with
  | zero =>
    intro listed e H _ _ hr hy hS _ hh
    refine ⟨fun h => (by rw [h] at hr; cases hr), fun j hj => ?_⟩
    by_cases hji : j = i
    · subst hji; simp only [hi]; exact run hy hS hh
    · have := ready_mono hj hji
      rw [hh.1] at this
      cases this
  | succ fuel ih =>
    intro listed e H hLl hfree hr hy hS hx hh
    refine ⟨fun h => (by rw [h] at hr; cases hr), fun j hj => ?_⟩
    by_cases hji : j = i
    · subst hji; simp only [hi]; exact run hy hS hh
    · have h1 := hh.2 j (ready_mono hj hji)
      obtain ⟨hjun, oj, hoj, hall⟩ := mem_ready.1 hj
      have hjL : j ∉ L := fun hm => by
        obtain ⟨x, hx, hb, hxL⟩ := hL j hm hji oj hoj
        have := hall x hx hb
        rw [hLl _ hxL] at this
        cases this
      obtain ⟨hap0, hsm⟩ := hfree j oj hoj hjL hjun
      have hap := Oper.apart_spec hap0
      have hLl' : ∀ k ∈ L, (listed.setIfInBounds j true).getD k false = false := fun k hk => by
        rw [getD_set_ne (i := j) (j := k) false (fun he => hjL (by rw [he]; exact hk))]
        exact hLl k hk
      have hfree' : ∀ k ok, ops[k]? = some ok → k ∉ L → (listed.setIfInBounds j true).getD k true = false → oi.apart ops ok = true ∧ (B = #[] ∨ smallOp ok.op = true) := fun k ok hk hkL hun => by
        refine hfree k ok hk hkL ?_
        by_cases hjk : j = k
        · subst hjk; exact hjun
        · rw [getD_set_ne true hjk] at hun; exact hun
      simp only [hoj] at h1 ⊢
      have h2 := opAtR_put (fun cs b => hsel j oj cs b hoj) hap.1 hap.2.1 h1
      have h3 : opAtR P ops oj e H fun e' H' => (∃ u, e' = e.put oj.dst u) ∧ (smallOp oj.op = true → Ext H H') ∧ anyE P ops K fuel ((listed.setIfInBounds i true).setIfInBounds j true) (e'.put oi.dst v) H' := by
        unfold opAtR at h2 ⊢
        split
        · rename_i hg; rw [hg] at h2; exact opR_mono h2 fun u _ h => ⟨⟨u, rfl⟩, h⟩
        · rename_i j' want hg
          rw [hg] at h2
          simp only [] at h2
          split
          · rename_i hy'; rw [if_pos hy'] at h2; exact opR_mono h2 fun u _ h => ⟨⟨u, rfl⟩, h⟩
          · rename_i hy'; rw [if_neg hy'] at h2; exact ⟨⟨_, rfl⟩, h2⟩
      refine opAtR_mono h3 ?_
      rintro e' H' ⟨⟨u, rfl⟩, hE, h4⟩
      have hS' : Ext B H' := by
        rcases hsm with rfl | hs
        · exact .nil _
        · exact hS.trans (hE hs)
      refine ⟨hE, ih (listed.setIfInBounds j true) _ H' hLl' hfree' (ready_mono hr (Ne.symm hji)) (hy.put (fun cs b => hsel i oi cs b hi) hap.2.2) hS' (fun _ _ _ => trivial) ?_⟩
      rw [Array.setIfInBounds_comm _ _ hji]
      exact h4
/-- What must come behind i. -/
def behind (ops : Array Oper) (i : Nat) : Nat → List Nat → List Nat
  | 0, L => L
  | n + 1, L => match (List.range ops.size).filter fun j => !L.contains j && match ops[j]? with
      | some oj => oj.after.any fun x => Region.binds .any x && L.contains x.on
      | none => false with
    | [] => L
    | new => behind ops i n (L ++ new)
def takeB (ops : Array Oper) (listed : Array Bool) (i : Nat) (oi : Oper) (L : List Nat) : Bool :=
  L.contains i && L.all (fun j => !listed.getD j false && (j == i || match ops[j]? with
      | some oj => oj.after.any fun x => Region.binds .any x && L.contains x.on
      | none => true)) &&
    (List.range ops.size).all fun j => L.contains j || listed.getD j true || match ops[j]? with
      | some oj => oi.apart ops oj && (pureOp oi.op || smallOp oj.op)
      | none => true
def lexEFrom (ops : Array Oper) : List Oper → Nat → Array Bool → Bool
  | [], _, listed => (Region.ready .any ops listed).isEmpty
  | o :: l, k, listed => (Region.ready .any ops listed).contains k && (isRdOp o.op && (takeB ops listed k o (behind ops k 1 [k]) || takeB ops listed k o (behind ops k ops.size [k])) || Region.ready .any ops listed == [k]) && lexEFrom ops l (k + 1) (listed.setIfInBounds k true)
/-- Text order stands for every order. -/
def lexE (ops : Array Oper) : Bool := Region.noSelect ops && lexEFrom ops ops.toList 0 (Array.replicate ops.size false)
theorem anyE_lex (hs : Region.noSelect ops = true) : ∀ (l : List Oper) (k : Nat) (listed : Array Bool) (e : Env) (H : Heap), (∀ j, l[j]? = ops[k + j]?) → lexEFrom ops l k listed = true → opsX P ops l e H K → anyE P ops K l.length listed e H
  | [], _, _, _, _, _, hB, h => ⟨by simpa [lexEFrom] using hB, h⟩
  | o :: l, k, listed, e, H, hl, hB, h => by
    have h0 : ops[k]? = some o := by simpa using (hl 0).symm
    simp only [lexEFrom, Bool.and_eq_true, Bool.or_eq_true, beq_iff_eq, List.contains_eq_mem, decide_eq_true_eq] at hB
    obtain ⟨⟨hr, hf⟩, hB'⟩ := hB
    have hl' : ∀ j, l[j]? = ops[k + 1 + j]? := fun j => by have := hl (j + 1); simpa [Nat.add_assoc, Nat.add_comm 1 j] using this
    unfold opsX at h
    rcases hf with ⟨h1, hf⟩ | hf
    · obtain ⟨L, hf⟩ : ∃ L, takeB ops listed k o L = true := hf.elim (fun h => ⟨_, h⟩) (fun h => ⟨_, h⟩)
      simp only [takeB, Bool.and_eq_true, List.all_eq_true, Bool.or_eq_true, Bool.not_eq_true', beq_iff_eq, List.contains_eq_mem, decide_eq_true_eq, List.mem_range] at hf
      obtain ⟨⟨h2, h3⟩, h4⟩ := hf
      obtain ⟨v, hst, hK⟩ := still_rd h1 h
      refine anyE_first (L := L) h0 (Region.noSelect_spec hs) h2 ?_ l.length listed e H (fun j hj => (h3 j hj).1) ?_ hr hst ?_ (fun _ _ _ => trivial) (anyE_lex hs l (k + 1) _ _ H hl' hB' hK)
      · intro j hj hjk oj hoj
        have := (h3 j hj).2
        rw [hoj] at this
        rcases this with h | h
        · exact absurd h hjk
        · obtain ⟨x, hx, hb⟩ := Array.any_eq_true'.1 h
          simp only [Bool.and_eq_true, decide_eq_true_eq] at hb
          exact ⟨x, hx, hb.1, hb.2⟩
      · intro j oj hoj hjL hun
        have hlt : j < ops.size := (Array.getElem?_eq_some_iff.1 hoj).1
        have := h4 j hlt
        rw [hoj] at this
        rcases this with (h | h) | h
        · exact absurd h hjL
        · rw [hun] at h; cases h
        · simp only [Bool.and_eq_true, Bool.or_eq_true] at h
          refine ⟨h.1, h.2.imp (fun h => ?_) id⟩
          rw [if_pos h]
      · split
        · exact .nil _
        · exact .refl _
    · refine ⟨fun h => (by rw [h] at hr; cases hr), fun j hj => ?_⟩
      rw [hf] at hj
      obtain rfl := List.mem_singleton.1 hj
      simp only [h0]
      exact opAtR_mono (opAtR_small h) fun e' H' ⟨a, b⟩ => ⟨a, anyE_lex hs l (j + 1) _ e' H' hl' hB' b⟩
theorem anyH_lex (h : lexE ops = true) {e : Env} {H : Heap} (hx : opsX P ops ops.toList e H K) : anyH P ops (fun _ => True) [] K ops.size (Array.replicate ops.size false) e H := by
  unfold lexE at h
  rw [Bool.and_eq_true] at h
  have := anyE_lex h.1 ops.toList 0 _ e H (fun j => by simp) h.2 hx
  rw [Array.length_toList] at this
  exact anyH_of _ _ e H this
end
end Go.Hp

namespace Go.Hp
open Go
set_option linter.unusedVariables false
set_option linter.unusedSimpArgs false

def codeOk (n : Nat) (qs : List Nat) : Code → Bool
  | .region id ops draw => ops.all (dstOk n) && (!(draw && qs.contains id) || lexE ops)
  | .seq a b => codeOk n qs a && codeOk n qs b
  | .cond _ a b => codeOk n qs a && codeOk n qs b
  | .block _ b => codeOk n qs b
  | .loop b => codeOk n qs b
  | .scope b => codeOk n qs b
  | _ => true
section
variable {P : Program}
def LQ (n : Nat) (w0 : World) (e0 : Env) (A : List Nat) (Q : HX → Env → Heap → Prop) : Exit → Act → World → Prop :=
  fun x a w => ∃ hx e H, x = HX.to hx ∧ At n w0 e H a w ∧ Off A e0 e ∧ Q hx e H
theorem LQ.mono {n : Nat} {w0 : World} {e0 e1 : Env} {A B : List Nat} {Q : HX → Env → Heap → Prop} {x : Exit} {a : Act} {w : World} (h : LQ n w0 e1 B Q x a w) (h0 : Off A e0 e1) (hB : ∀ i ∈ B, i ∈ A) : LQ n w0 e0 A Q x a w := by
  obtain ⟨hx, e, H, h1, h2, h3, h4⟩ := h
  exact ⟨hx, e, H, h1, h2, (h0.trans h3).mono fun i hi => by
    rcases List.mem_append.1 hi with hi | hi
    · exact hi
    · exact hB i hi, h4⟩
theorem mem_assignedOps {ops : Array Oper} : ∀ o ∈ ops, ∀ d, o.dst = some d → d ∈ assignedOps ops := fun o ho d hd =>
  List.mem_filterMap.2 ⟨o, by simpa using ho, hd⟩
theorem codeX_sound (hm : P.follows .mixedOrders = true) {n : Nat} {qs : List Nat} : ∀ (c : Code) (Q : HX → Env → Heap → Prop) (e : Env) (H : Heap) (w0 : World) (a : Act) (w : World),
    codeOk n qs c = true → At n w0 e H a w → codeX P qs c Q e H → c.wp P (LQ n w0 e (assigned c) Q) a w := by
  intro c
  induction c with
  | skip => exact fun Q e H w0 a w _ hat h => wp_skip ⟨.normal, e, H, rfl, hat, .refl _ _, h⟩
  | label l => exact fun Q e H w0 a w _ hat h => wp_label ⟨.normal, e, H, rfl, hat, .refl _ _, h⟩
  | exit id => exact fun Q e H w0 a w _ hat h => wp_exit ⟨.exit id, e, H, rfl, hat, .refl _ _, h⟩
  | ret => exact fun Q e H w0 a w _ hat h => wp_ret ⟨.ret, e, H, rfl, hat, .refl _ _, h⟩
  | region id ops draw =>
    intro Q e H w0 a w hok hat h
    simp only [codeOk, Bool.and_eq_true] at hok
    have hd : ∀ o ∈ ops, dstOk n o = true := fun o ho => (Array.all_eq_true_iff_forall_mem.1 hok.1) o ho
    have hQ : ∀ e' H' a' w', At n w0 e' H' a' w' → Off (assignedOps ops) e e' → Q .normal e' H' → LQ n w0 e (assigned (.region id ops draw)) Q .normal a' w' :=
      fun e' H' a' w' h1 h2 h3 => ⟨.normal, e', H', rfl, h1, h2, h3⟩
    unfold codeX at h
    cases draw with
    | false =>
      simp only [Bool.false_and, Bool.false_eq_true, if_false] at h
      exact wp_region_list (opsX_sound hQ ops.toList e H a w (fun o ho => hd o (by simpa using ho)) (fun o ho => mem_assignedOps o (by simpa using ho)) (.refl _ _) hat h)
    | true =>
      by_cases hq : qs.contains id = true
      · simp only [hq, Bool.not_true, Bool.and_false, Bool.false_eq_true, if_false] at h
        have hqb := hok.2
        simp only [hq, Bool.true_and, Bool.not_true, Bool.false_or] at hqb
        refine wp_region_any hm (anyH_sound hQ hd mem_assignedOps _ _ e H a _ (.refl _ _) ⟨hat.env, hat.heap, hat.defers, hat.size, hat.like.trans ⟨rfl, rfl, rfl⟩⟩ (anyH_lex hqb h))
      · simp only [Bool.not_eq_true] at hq
        simp only [hq, Bool.not_false, Bool.and_true, if_true] at h
        obtain ⟨S, Z, _, h⟩ := h
        refine wp_region_any hm (anyH_sound hQ hd mem_assignedOps _ _ e H a _ (.refl _ _) ⟨hat.env, hat.heap, hat.defers, hat.size, hat.like.trans ⟨rfl, rfl, rfl⟩⟩ h)
  | seq x y ihx ihy =>
    intro Q e H w0 a w hok hat h
    simp only [codeOk, Bool.and_eq_true] at hok
    refine wp_seq (wp_mono (ihx _ e H w0 a w hok.1 hat h) ?_)
    rintro x' a' w' ⟨hx, e', H', rfl, hat', hoff, hq⟩
    have hA : ∀ i ∈ assigned x, i ∈ assigned (.seq x y) := fun i hi => List.mem_append.2 (.inl hi)
    cases hx with
    | normal =>
      refine wp_mono (ihy Q e' H' w0 a' w' hok.2 hat' hq) ?_
      intro x'' a'' w'' hlq
      exact hlq.mono (hoff.mono hA) fun i hi => List.mem_append.2 (.inr hi)
    | exit i => exact ⟨.exit i, e', H', rfl, hat', hoff.mono hA, hq⟩
    | ret => exact ⟨.ret, e', H', rfl, hat', hoff.mono hA, hq⟩
  | cond c x y ihx ihy =>
    intro Q e H w0 a w hok hat h
    simp only [codeOk, Bool.and_eq_true] at hok
    unfold codeX boolX at h
    split at h
    · rename_i t ht
      refine wp_cond_split (t := t) (by rw [eval_env, hat.env]; exact ht) (fun ht' => ?_) (fun ht' => ?_)
      · exact wp_mono (ihx Q e H w0 a w hok.1 hat (h.1 ht')) fun x' a' w' hlq => hlq.mono (.refl _ _) fun i hi => List.mem_append.2 (.inl hi)
      · exact wp_mono (ihy Q e H w0 a w hok.2 hat (h.2 ht')) fun x' a' w' hlq => hlq.mono (.refl _ _) fun i hi => List.mem_append.2 (.inr hi)
    · exact h.elim
  | block id x ihx =>
    intro Q e H w0 a w hok hat h
    refine wp_block (wp_mono (ihx _ e H w0 a w hok hat h) ?_)
    rintro x' a' w' ⟨hx, e', H', rfl, hat', hoff, hq⟩
    cases hx with
    | normal => exact ⟨.normal, e', H', rfl, hat', hoff, hq⟩
    | exit i =>
      simp only [blockQ] at hq
      by_cases hi : i = id
      · rw [if_pos hi] at hq
        simp only [HX.to, Exit.inBlock]
        rw [if_pos hi]
        exact ⟨.normal, e', H', rfl, hat', hoff, hq⟩
      · rw [if_neg hi] at hq
        simp only [HX.to, Exit.inBlock]
        rw [if_neg hi]
        exact ⟨.exit i, e', H', rfl, hat', hoff, hq⟩
    | ret => exact ⟨.ret, e', H', rfl, hat', hoff, hq⟩
  | scope x ihx =>
    intro Q e H w0 a w hok hat h
    refine wp_scope_straight (wp_mono (ihx _ e H w0 a w hok hat h) ?_)
    rintro x' a' w' ⟨hx, e', H', rfl, hat', hoff, hq⟩
    cases hx <;> exact ⟨_, e', H', rfl, hat', hoff, hq⟩
  | loop x ihx =>
    intro Q e H w0 a w hok hat h
    obtain ⟨I, ⟨m, hI⟩, hround⟩ := h
    have key : ∀ m e1 H1 a1 w1, I m e1 H1 → Off (assigned x) e e1 → At n w0 e1 H1 a1 w1 → ∀ (b : Frame) (k : List Item) (cs : List Frame),
        ∃ e' a' w', LQ n w0 e (assigned (.loop x)) Q e' a' w' ∧ Arrives P (lone (b.at a1 (.code x :: .inLoop x :: k)) cs w1) b k cs e' a' w' := by
      intro m
      induction m using Nat.strongRecOn with
      | _ m ih =>
        intro e1 H1 a1 w1 hI1 hoff1 hat1 b k cs
        obtain ⟨x', a', w', ⟨hx, e', H', rfl, hat', hoff', hq⟩, harr⟩ := ihx _ e1 H1 w0 a1 w1 hok hat1 (hround m e1 H1 hI1 hoff1) b (.inLoop x :: k) cs
        have hoff2 : Off (assigned x) e e' := (hoff1.trans hoff').mono fun i hi => by simpa using hi
        cases hx with
        | normal =>
          obtain ⟨m', hlt, hI'⟩ := hq
          obtain ⟨x2, a2, w2, hq2, harr2⟩ := ih m' hlt e' H' a' w' hI' hoff2 hat' b k cs
          exact ⟨x2, a2, w2, hq2, .of_steps (Steps.trans harr (.one step_inLoop)) harr2⟩
        | exit id => exact ⟨_, a', w', ⟨.exit id, e', H', rfl, hat', hoff2, hq⟩, .pass (x := .inLoop x) rfl (fun _ _ => .inl (by simp [HX.to])) harr⟩
        | ret => exact ⟨_, a', w', ⟨.ret, e', H', rfl, hat', hoff2, hq⟩, .pass (x := .inLoop x) rfl (fun _ _ => .inl (by simp [HX.to])) harr⟩
    intro b k cs
    obtain ⟨x', a', w', hq, harr⟩ := key m e H a w hI (.refl _ _) hat b k cs
    exact ⟨x', a', w', hq, .of_steps (.one step_loop) harr⟩
  | _ => exact fun Q e H w0 a w _ hat h => h.elim
/-- The values that are handed back. -/
def resX (P : Program) : List ResultVar → Env → Heap → (List Value → Prop) → Prop
  | [], _, _, K => K []
  | .tmp t :: rs, e, H, K => resX P rs e H fun vs => K (e t :: vs)
  | .cell a t :: rs, e, H, K => ptrX (e a) fun p => match tl P t with
    | some ti => loadX ti H p fun v => resX P rs e H fun vs => K (v :: vs)
    | none => False
def outX (K : Value → Prop) : List Value → Prop
  | [v] => K v
  | vs => K (.tuple vs.toArray)
theorem rd_results : ∀ (rs : List ResultVar) (tmps : Array Value) (H : Heap) (K : List Value → Prop), resX P rs (fun t => tmps.getD t undef) H K →
    ∃ vs, K vs ∧ Rd P H (rs.mapM fun | .tmp t => pure (tmps.getD t undef) | .cell a t => do loadVar t (← asAddr (tmps.getD a undef)) : Sem (List Value)) vs
  | [], tmps, H, K, h => ⟨[], h, by simpa using Rd.ret _⟩
  | .tmp t :: rs, tmps, H, K, h => by
    obtain ⟨vs, h1, h2⟩ := rd_results rs tmps H _ h
    refine ⟨_, h1, ?_⟩
    rw [List.mapM_cons]
    exact Rd.bind (Rd.ret _) (Rd.bind h2 (Rd.ret _))
  | .cell a t :: rs, tmps, H, K, h => by
    obtain ⟨p, hp, h⟩ := ptrX_spec h
    split at h
    · rename_i ti ht
      obtain ⟨v, h1, h2⟩ := rd_loadVar ht h
      obtain ⟨vs, h3, h4⟩ := rd_results rs tmps H _ h1
      refine ⟨_, h3, ?_⟩
      rw [List.mapM_cons]
      refine Rd.bind (x := v) ?_ (Rd.bind h4 (Rd.ret _))
      simp only [] at hp ⊢
      rw [hp]
      exact Rd.bind (x := p) (Rd.ret _) h2
    · exact h.elim
def Env.init (args : Array Value) : Env := fun t => args.getD t undef
def endQ (P : Program) (rs : List ResultVar) (K : Value → Heap → Prop) : HX → Env → Heap → Prop
  | .exit _, _, _ => False
  | .normal, e, H => resX P rs e H (outX fun v => K v H)
  | .ret, e, H => resX P rs e H (outX fun v => K v H)
/-- A call, by its body. -/
theorem callsH_of (hm : P.follows .mixedOrders = true) {f : FuncId} {fn : Func} {c : Code} {args : Array Value} {H : Heap} {K : Value → Heap → Prop} (qs : List Nat) (n : Nat) (rs : List ResultVar)
    (hf : P.funcs[f]? = some fn) (hc : callable P f = true) (hb : fn.body = some c) (hn : fn.ntmps = n) (hrs : fn.results = rs.toArray) (hok : codeOk n qs c = true) (hargs : args.size ≤ n)
    (h : codeX P qs c (endQ P rs K) (Env.init args) H) : CallsH P f args H K := by
  refine ⟨hc, fun w hw => calls_of_wp hf hb ?_⟩
  have hat : At n w (Env.init args) H { tmps := args ++ Array.replicate (fn.ntmps - args.size) undef, defers := [] } w := by
    refine ⟨?_, hw, rfl, ?_, .refl _⟩
    · funext t
      unfold envOf Env.init
      simp only [Array.getD_eq_getD_getElem?, Array.getElem?_append]
      split
      · rfl
      · rename_i ht
        have hn : args[t]? = none := Array.getElem?_eq_none (by omega)
        rw [hn, Array.getElem?_replicate]
        split <;> rfl
    · simp [hn]; omega
  refine wp_mono (codeX_sound hm c _ _ H w _ w hok hat h) ?_
  rintro x a' w' ⟨hx, e', H', rfl, hat', _, hq⟩
  have fin : resX P rs e' H' (outX fun v => K v H') → a'.defers = [] ∧ ∃ v, (results fn a'.tmps).run P w' = .ok v w' ∧ (∃ v', Ending.returned v = .returned v' ∧ K v' w'.heap ∧ Like w w') := by
    intro hr
    refine ⟨hat'.defers, ?_⟩
    rw [← hat'.env] at hr
    obtain ⟨vs, h1, h2⟩ := rd_results rs a'.tmps H' _ hr
    have hres : Rd P H' (results fn a'.tmps) (if h : vs.toArray.size = 1 then vs.toArray[0] else .tuple vs.toArray) := by
      unfold results
      rw [hrs]
      refine Rd.bind (x := vs.toArray) ?_ (Rd.ret _)
      rw [List.mapM_toArray]
      exact Rd.bind h2 (Rd.ret _)
    have hk : K (if h : vs.toArray.size = 1 then vs.toArray[0] else .tuple vs.toArray) H' := by
      match vs, h1 with
      | [], h1 => exact h1
      | [v], h1 => exact h1
      | v :: v' :: vs, h1 =>
        rw [dif_neg (by simp)]
        exact h1
    exact ⟨_, hres.run w' hat'.heap, _, rfl, by rw [hat'.heap]; exact hk, hat'.like⟩
  cases hx with
  | normal => exact fin hq
  | ret => exact fin hq
  | exit i => exact hq.elim
end
end Go.Hp

namespace Go.Hp
open Go
set_option linter.unusedVariables false

section
variable {K : Env → Heap → Prop} {Q : HX → Env → Heap → Prop} {e : Env} {H : Heap} {i id : Nat}
theorem seq_normal (h : K e H) : seqQ K Q .normal e H := h
theorem seq_exit (h : Q (.exit i) e H) : seqQ K Q (.exit i) e H := h
theorem seq_ret (h : Q .ret e H) : seqQ K Q .ret e H := h
theorem block_normal (h : Q .normal e H) : blockQ id Q .normal e H := h
theorem block_ret (h : Q .ret e H) : blockQ id Q .ret e H := h
theorem block_exit (h : Q .normal e H) : blockQ id Q (.exit id) e H := by
  show (if id = id then Q .normal e H else Q (.exit id) e H)
  rw [if_pos rfl]; exact h
theorem block_exit_ne (hi : i ≠ id) (h : Q (.exit i) e H) : blockQ id Q (.exit i) e H := by
  show (if i = id then Q .normal e H else Q (.exit i) e H)
  rw [if_neg hi]; exact h
end
theorem end_ret {P : Program} {rs : List ResultVar} {K : Value → Heap → Prop} {e : Env} {H : Heap} (h : resX P rs e H (outX fun v => K v H)) : endQ P rs K .ret e H := h
theorem end_normal {P : Program} {rs : List ResultVar} {K : Value → Heap → Prop} {e : Env} {H : Heap} (h : resX P rs e H (outX fun v => K v H)) : endQ P rs K .normal e H := h
theorem put_get {e : Env} {d i : Nat} {v : Value} : (e.put (some d) v) i = if i = d then v else e i := rfl
theorem put_none {e : Env} {v : Value} : e.put none v = e := rfl
/-- The loops of a code, in the text's order, each ahead of those within it. -/
def loops : Code → List Code
  | .loop b => .loop b :: loops b
  | .seq a b => loops a ++ loops b
  | .cond _ a b => loops a ++ loops b
  | .block _ b => loops b
  | .scope b => loops b
  | _ => []
def loopAt (c : Option Code) (k : Nat) : Code := (loops (c.getD .skip)).getD k .skip
theorem ex_slice {a : Option Addr} {n c : Nat} {K : Option Addr → Nat → Nat → Prop} : (∃ p m d, Value.slice a n c = .slice p m d ∧ K p m d) = K a n c := by
  apply propext
  constructor
  · rintro ⟨p, m, d, h, k⟩
    simp only [Value.slice.injEq] at h
    obtain ⟨rfl, rfl, rfl⟩ := h
    exact k
  · exact fun k => ⟨_, _, _, rfl, k⟩
section
variable {P : Program} {qs : List Nat} {Q : HX → Env → Heap → Prop} {e : Env} {H : Heap}
theorem x_seq {a b : Code} (h : ∀ K : Env → Heap → Prop, (∀ e H, codeX P qs b Q e H → K e H) → codeX P qs a (seqQ K Q) e H) : codeX P qs (.seq a b) Q e H :=
  h (codeX P qs b Q) (fun _ _ h => h)
theorem x_block {id : Nat} {b : Code} (h : codeX P qs b (blockQ id Q) e H) : codeX P qs (.block id b) Q e H := h
theorem x_skip (h : Q .normal e H) : codeX P qs .skip Q e H := h
theorem x_label {l : Nat} (h : Q .normal e H) : codeX P qs (.label l) Q e H := h
theorem x_exit {id : Nat} (h : Q (.exit id) e H) : codeX P qs (.exit id) Q e H := h
theorem x_ret (h : Q .ret e H) : codeX P qs .ret Q e H := h
theorem x_loop {b : Code} (I : Nat → Env → Heap → Prop) (m₀ : Nat) (h₀ : I m₀ e H)
    (hr : ∀ m e' H', I m e' H' → (∀ i, (assigned b).contains i = false → e' i = e i) → codeX P qs b (loopQ I m Q) e' H') : codeX P qs (.loop b) Q e H := ⟨I, ⟨m₀, h₀⟩, hr⟩
theorem loop_normal {I : Nat → Env → Heap → Prop} {m m' : Nat} (hm : m' < m) (h : I m' e H) : loopQ I m Q .normal e H := ⟨m', hm, h⟩
theorem loop_exit {I : Nat → Env → Heap → Prop} {m i : Nat} (h : Q (.exit i) e H) : loopQ I m Q (.exit i) e H := h
theorem loop_ret {I : Nat → Env → Heap → Prop} {m : Nat} (h : Q .ret e H) : loopQ I m Q .ret e H := h
theorem x_scope {b : Code} (h : codeX P qs b Q e H) : codeX P qs (.scope b) Q e H := h
theorem x_cond {c : Operand} {a b : Code} {t : Bool} (hc : Env.eval e c = .bool t) (h1 : t = true → codeX P qs a Q e H) (h2 : t = false → codeX P qs b Q e H) : codeX P qs (.cond c a b) Q e H := by
  unfold codeX; rw [hc]; exact ⟨h1, h2⟩
theorem x_cond_true {c : Operand} {a b : Code} (hc : Env.eval e c = .bool true) (h1 : codeX P qs a Q e H) : codeX P qs (.cond c a b) Q e H :=
  x_cond hc (fun _ => h1) (fun h => by cases h)
theorem x_cond_false {c : Operand} {a b : Code} (hc : Env.eval e c = .bool false) (h1 : codeX P qs b Q e H) : codeX P qs (.cond c a b) Q e H :=
  x_cond hc (fun h => by cases h) (fun _ => h1)
theorem x_reg {id : Nat} {ops : Array Oper} {draw : Bool} (hq : (draw && !qs.contains id) = false) (h : opsX P ops ops.toList e H (Q .normal)) : codeX P qs (.region id ops draw) Q e H := by
  unfold codeX; rw [hq]; exact h
theorem x_reg_lit {id : Nat} {l : List Oper} {draw : Bool} (hq : (draw && !qs.contains id) = false) (h : opsX P l.toArray l e H (Q .normal)) : codeX P qs (.region id l.toArray draw) Q e H :=
  x_reg hq h
variable {ops : Array Oper} {K : Env → Heap → Prop}
theorem x_nil (h : K e H) : opsX P ops [] e H K := h
theorem x_op {d : Option Tmp} {op : Op} {t : TypeId} {pos : String} {after : Array Edge} {rest : List Oper} (h : ∀ K' : Value → Heap → Prop, (∀ v H, opsX P ops rest (e.put d v) H K → K' v H) → opX P ⟨d, op, t, pos, after, none⟩ (Env.eval e) H K') : opsX P ops (⟨d, op, t, pos, after, none⟩ :: rest) e H K :=
  h (fun v H' => opsX P ops rest (e.put d v) H' K) (fun _ _ h => h)
theorem x_guard {d : Option Tmp} {op : Op} {t : TypeId} {pos : String} {after : Array Edge} {rest : List Oper} {j : Nat} {w b : Bool} (hy : yieldedE ops e j = some b)
    (h1 : b = w → ∀ K' : Value → Heap → Prop, (∀ v H, opsX P ops rest (e.put d v) H K → K' v H) → opX P ⟨d, op, t, pos, after, some (j, w)⟩ (Env.eval e) H K') (h2 : b ≠ w → opsX P ops rest (e.put d undef) H K) :
    opsX P ops (⟨d, op, t, pos, after, some (j, w)⟩ :: rest) e H K := by
  unfold opsX opAt
  simp only []
  rw [hy]
  by_cases hb : b = w
  · rw [if_pos (by rw [hb])]; exact h1 hb _ (fun _ _ h => h)
  · rw [if_neg (by simpa using hb)]; exact h2 hb
theorem x_guard_yes {d : Option Tmp} {op : Op} {t : TypeId} {pos : String} {after : Array Edge} {rest : List Oper} {j : Nat} {w : Bool} (hy : yieldedE ops e j = some w)
    (h : ∀ K' : Value → Heap → Prop, (∀ v H, opsX P ops rest (e.put d v) H K → K' v H) → opX P ⟨d, op, t, pos, after, some (j, w)⟩ (Env.eval e) H K') :
    opsX P ops (⟨d, op, t, pos, after, some (j, w)⟩ :: rest) e H K := x_guard hy (fun _ => h) (fun h => absurd rfl h)
theorem x_guard_no {d : Option Tmp} {op : Op} {t : TypeId} {pos : String} {after : Array Edge} {rest : List Oper} {j : Nat} {w : Bool} (hy : yieldedE ops e j = some (!w))
    (h : opsX P ops rest (e.put d undef) H K) : opsX P ops (⟨d, op, t, pos, after, some (j, w)⟩ :: rest) e H K := x_guard hy (fun h => absurd h (by cases w <;> decide)) (fun _ => h)
theorem x_guard_none {d : Option Tmp} {op : Op} {t : TypeId} {pos : String} {after : Array Edge} {rest : List Oper} {j : Nat} {w : Bool} (hy : yieldedE ops e j = none)
    (h2 : opsX P ops rest (e.put d undef) H K) : opsX P ops (⟨d, op, t, pos, after, some (j, w)⟩ :: rest) e H K := by
  unfold opsX opAt
  simp only []
  rw [hy]
  rw [if_neg (by simp)]; exact h2
end
end Go.Hp

namespace Go.Hp
open Go
set_option linter.unusedVariables false
set_option linter.unusedSimpArgs false

section
variable {P : Program} {ops : Array Oper} {S : Heap → Prop} {Z : List Nat} {K : Env → Heap → Prop}
theorem anyH_first {i : Nat} {oi : Oper} {v : Value} {L : List Nat} (hi : ops[i]? = some oi) (hsel : ∀ (j : Nat) (o : Oper) cs b, ops[j]? = some o → o.op ≠ .select cs b)
    (hiL : i ∈ L) (hL : ∀ j ∈ L, j ≠ i → ∀ oj, ops[j]? = some oj → ∃ x ∈ oj.after, Region.binds .any x = true ∧ x.on ∈ L) (hZ : ∀ j ∈ Z, j ∈ L) :
    ∀ (fuel : Nat) (listed : Array Bool) (e : Env) (H : Heap), (∀ j ∈ L, listed.getD j false = false) →
      (∀ j oj, ops[j]? = some oj → j ∉ L → listed.getD j true = false → oi.apart ops oj = true) →
      i ∈ Region.ready .any ops listed → Still P ops S oi e v → S H →
      anyH P ops S Z K fuel (listed.setIfInBounds i true) (e.put oi.dst v) H → anyH P ops S Z K (fuel + 1) listed e H := by
  intro fuel
  induction fuel with
  | zero =>
    intro listed e H _ _ hr hy hS hh
    refine ⟨fun h => (by rw [h] at hr; cases hr), fun j hj => ?_⟩
    by_cases hji : j = i
    · subst hji; simp only [hi]; exact hy.opAtR hS ⟨fun _ => hS, hh⟩
    · have := ready_mono hj hji
      rw [hh.1] at this
      cases this
  | succ fuel ih =>
    intro listed e H hLl hfree hr hy hS hh
    refine ⟨fun h => (by rw [h] at hr; cases hr), fun j hj => ?_⟩
    by_cases hji : j = i
    · subst hji; simp only [hi]; exact hy.opAtR hS ⟨fun _ => hS, hh⟩
    · have h1 := hh.2 j (ready_mono hj hji)
      obtain ⟨hjun, oj, hoj, hall⟩ := mem_ready.1 hj
      have hjL : j ∉ L := fun hm => by
        obtain ⟨x, hx, hb, hxL⟩ := hL j hm hji oj hoj
        have := hall x hx hb
        rw [hLl _ hxL] at this
        cases this
      have hjZ : Z.contains j = false := by
        simp only [List.contains_eq_mem, decide_eq_false_iff_not]
        exact fun h => hjL (hZ j h)
      have hap := Oper.apart_spec (hfree j oj hoj hjL hjun)
      have hLl' : ∀ k ∈ L, (listed.setIfInBounds j true).getD k false = false := fun k hk => by
        rw [getD_set_ne (i := j) (j := k) false (fun he => hjL (by rw [he]; exact hk))]
        exact hLl k hk
      have hfree' : ∀ k ok, ops[k]? = some ok → k ∉ L → (listed.setIfInBounds j true).getD k true = false → oi.apart ops ok = true := fun k ok hk hkL hun => by
        refine hfree k ok hk hkL ?_
        by_cases hjk : j = k
        · subst hjk; exact hjun
        · rw [getD_set_ne true hjk] at hun; exact hun
      simp only [hoj] at h1 ⊢
      have h2 := opAtR_put (fun cs b => hsel j oj cs b hoj) hap.1 hap.2.1 h1
      have h3 : opAtR P ops oj e H fun e' H' => (∃ u, e' = e.put oj.dst u) ∧ (Z.contains j = false → S H') ∧ anyH P ops S Z K fuel ((listed.setIfInBounds i true).setIfInBounds j true) (e'.put oi.dst v) H' := by
        unfold opAtR at h2 ⊢
        split
        · rename_i hg; rw [hg] at h2; exact opR_mono h2 fun u _ h => ⟨⟨u, rfl⟩, h⟩
        · rename_i j' want hg
          rw [hg] at h2
          simp only [] at h2
          split
          · rename_i hy'; rw [if_pos hy'] at h2; exact opR_mono h2 fun u _ h => ⟨⟨u, rfl⟩, h⟩
          · rename_i hy'; rw [if_neg hy'] at h2; exact ⟨⟨_, rfl⟩, h2⟩
      refine opAtR_mono h3 ?_
      rintro e' H' ⟨⟨u, rfl⟩, hS', h4⟩
      refine ⟨hS', ih (listed.setIfInBounds j true) _ H' hLl' hfree' (ready_mono hr (Ne.symm hji)) (hy.put (fun cs b => hsel i oi cs b hi) hap.2.2) (hS' hjZ) ?_⟩
      rw [Array.setIfInBounds_comm _ _ hji]
      exact h4
def takeS (ops : Array Oper) (listed : Array Bool) (Z : List Nat) (i : Nat) : Bool :=
  let L := behind ops i ops.size [i]
  Region.noSelect ops && (Region.ready .any ops listed).contains i && L.contains i && L.all (fun j => !listed.getD j false && (j == i || match ops[j]? with
      | some oj => oj.after.any fun x => Region.binds .any x && L.contains x.on
      | none => true)) && Z.all (fun j => L.contains j) &&
    (List.range ops.size).all fun j => L.contains j || listed.getD j true || match ops[i]?, ops[j]? with
      | some oi, some oj => oi.apart ops oj
      | _, _ => true
/-- The next operation that only reads is taken first. -/
theorem anyH_take {i : Nat} {oi : Oper} {v : Value} {fuel : Nat} {listed : Array Bool} {e : Env} {H : Heap} (hi : ops[i]? = some oi) (ht : takeS ops listed Z i = true)
    (hy : Still P ops S oi e v) (hS : S H) (h : anyH P ops S Z K fuel (listed.setIfInBounds i true) (e.put oi.dst v) H) : anyH P ops S Z K (fuel + 1) listed e H := by
  simp only [takeS, Bool.and_eq_true, List.all_eq_true, Bool.or_eq_true, Bool.not_eq_true', beq_iff_eq, List.contains_eq_mem, decide_eq_true_eq, List.mem_range] at ht
  obtain ⟨⟨⟨⟨⟨h0, h1⟩, h2⟩, h3⟩, h4⟩, h5⟩ := ht
  refine anyH_first (L := behind ops i ops.size [i]) hi (Region.noSelect_spec h0) h2 ?_ h4 fuel listed e H (fun j hj => (h3 j hj).1) ?_ h1 hy hS h
  · intro j hj hjk oj hoj
    have := (h3 j hj).2
    rw [hoj] at this
    rcases this with h | h
    · exact absurd h hjk
    · obtain ⟨x, hx, hb⟩ := Array.any_eq_true'.1 h
      simp only [Bool.and_eq_true, decide_eq_true_eq] at hb
      exact ⟨x, hx, hb.1, hb.2⟩
  · intro j oj hoj hjL hun
    have hlt : j < ops.size := (Array.getElem?_eq_some_iff.1 hoj).1
    have := h5 j hlt
    rw [hoj, hi] at this
    rcases this with (h | h) | h
    · exact absurd h hjL
    · rw [hun] at h; cases h
    · exact h
theorem still_of {o : Oper} {e : Env} {v : Value} (hg : o.guard = none) (h : ∀ H, S H → rdX P o (Env.eval e) H (· = v)) : Still P ops S o e v := by
  unfold Still
  rw [hg]
  intro H hS
  obtain ⟨u, h1, h2⟩ := rdX_sound (h H hS)
  rw [← h1]; exact h2
/-- The one operation that may come up. -/
theorem anyH_one {i : Nat} {o : Oper} {fuel : Nat} {listed : Array Bool} {e : Env} {H : Heap} (hr : Region.ready .any ops listed = [i]) (ho : ops[i]? = some o) (hg : o.guard = none)
    (h : ∀ K' : Value → Heap → Prop, (∀ v H', (Z.contains i = false → S H') ∧ anyH P ops S Z K fuel (listed.setIfInBounds i true) (e.put o.dst v) H' → K' v H') → opX P o (Env.eval e) H K') : anyH P ops S Z K (fuel + 1) listed e H := by
  refine ⟨fun h => (by rw [h] at hr; cases hr), fun j hj => ?_⟩
  rw [hr] at hj
  obtain rfl := List.mem_singleton.1 hj
  simp only [ho]
  refine opAtR_of ?_
  unfold opAt
  rw [hg]
  exact h _ fun _ _ h => h
theorem anyH_done {fuel : Nat} {listed : Array Bool} {e : Env} {H : Heap} (hr : Region.ready .any ops listed = []) (h : K e H) : anyH P ops S Z K fuel listed e H := by
  cases fuel with
  | zero => exact ⟨hr, h⟩
  | succ n => exact ⟨fun _ => h, fun i hi => by rw [hr] at hi; cases hi⟩
theorem x_draw {qs : List Nat} {id : Nat} {Q : HX → Env → Heap → Prop} {e : Env} {H : Heap} (hq : qs.contains id = false) (S : Heap → Prop) (Z : List Nat) (hS : S H) (h : anyH P ops S Z (Q .normal) ops.size (Array.replicate ops.size false) e H) :
    codeX P qs (.region id ops true) Q e H := by
  unfold codeX
  rw [hq]
  exact ⟨S, Z, hS, h⟩
/-- In the order given, the reads of which stand in every heap of S; the operations of Z come last: nothing else may come up. -/
def opsS (P : Program) (ops : Array Oper) (S : Heap → Prop) (Z : List Nat) : List Nat → Env → Heap → (Env → Heap → Prop) → Prop
  | [], e, H, K => K e H
  | i :: rest, e, H, K => match ops[i]? with
    | none => False
    | some o => if (isRdOp o.op && !Z.contains i) = true then ∃ v, Still P ops S o e v ∧ opsS P ops S Z rest (e.put o.dst v) H K
      else opAt P ops o e H fun e' H' => (Z.contains i = false → S H') ∧ opsS P ops S Z rest e' H' K
def lexSFrom (ops : Array Oper) (Z : List Nat) : List Nat → Array Bool → Bool
  | [], listed => (Region.ready .any ops listed).isEmpty
  | i :: rest, listed => (match ops[i]? with
    | none => false
    | some o => if isRdOp o.op && !Z.contains i then takeS ops listed Z i else Region.ready .any ops listed == [i] && (!Z.contains i || rest.all fun j => Z.contains j)) && lexSFrom ops Z rest (listed.setIfInBounds i true)
def lexS (ops : Array Oper) (Z ord : List Nat) : Bool := ord.length == ops.size && lexSFrom ops Z ord (Array.replicate ops.size false)
theorem anyH_lexS : ∀ (ord : List Nat) (listed : Array Bool) (e : Env) (H : Heap), lexSFrom ops Z ord listed = true → ((∃ i rest, ord = i :: rest ∧ Z.contains i = false) → S H) → opsS P ops S Z ord e H K → anyH P ops S Z K ord.length listed e H
  | [], _, _, _, hB, _, h => ⟨by simpa [lexSFrom] using hB, h⟩
  | i :: rest, listed, e, H, hB, hS, h => by
    unfold lexSFrom at hB
    rw [Bool.and_eq_true] at hB
    obtain ⟨hB, hB'⟩ := hB
    unfold opsS at h
    cases h0 : ops[i]? with
    | none => rw [h0] at hB; cases hB
    | some o =>
      rw [h0] at hB h
      simp only [] at hB h
      by_cases hc : (isRdOp o.op && !Z.contains i) = true
      · rw [if_pos hc] at h hB
        simp only [Bool.and_eq_true, Bool.not_eq_true'] at hc
        obtain ⟨v, h1, h2⟩ := h
        have hSH := hS ⟨i, rest, rfl, hc.2⟩
        exact anyH_take h0 hB h1 hSH (anyH_lexS rest _ _ H hB' (fun _ => hSH) h2)
      · rw [if_neg hc] at h hB
        rw [Bool.and_eq_true, beq_iff_eq] at hB
        obtain ⟨hB, hZ⟩ := hB
        refine ⟨fun h => (by rw [h] at hB; cases hB), fun j hj => ?_⟩
        rw [hB] at hj
        obtain rfl := List.mem_singleton.1 hj
        simp only [h0]
        refine opAtR_mono (opAtR_of h) fun e' H' ⟨a, b⟩ => ⟨a, anyH_lexS rest _ e' H' hB' ?_ b⟩
        rintro ⟨k, rest', rfl, hk⟩
        refine a ?_
        rw [Bool.or_eq_true] at hZ
        rcases hZ with hZ | hZ
        · simpa using hZ
        · have := List.all_eq_true.1 hZ k (.head _)
          rw [hk] at this
          cases this
theorem x_drawS {qs : List Nat} {id : Nat} {l : List Oper} {Q : HX → Env → Heap → Prop} {e : Env} {H : Heap} (Z ord : List Nat) (hq : qs.contains id = false) (hl : lexS l.toArray Z ord = true) (S : Heap → Prop) (hS : S H) (h : opsS P l.toArray S Z ord e H (Q .normal)) :
    codeX P qs (.region id l.toArray true) Q e H := by
  refine x_draw hq S Z hS ?_
  unfold lexS at hl
  rw [Bool.and_eq_true, beq_iff_eq] at hl
  have := anyH_lexS (K := Q .normal) (ops := l.toArray) ord _ e H hl.2 (fun _ => hS) h
  rw [hl.1] at this
  exact this
theorem xs_nil {e : Env} {H : Heap} (h : K e H) : opsS P ops S Z [] e H K := h
theorem xs_rd {l : List Oper} {i : Nat} {d : Option Tmp} {op : Op} {t : TypeId} {pos : String} {after : Array Edge} {rest : List Nat} {e : Env} {H : Heap} {v : Value} (hi : l[i]? = some ⟨d, op, t, pos, after, none⟩) (hr : (isRdOp op && !Z.contains i) = true) (h1 : ∀ H', S H' → rdX P ⟨d, op, t, pos, after, none⟩ (Env.eval e) H' (· = v))
    (h2 : opsS P l.toArray S Z rest (e.put d v) H K) : opsS P l.toArray S Z (i :: rest) e H K := by
  unfold opsS
  rw [List.getElem?_toArray, hi]
  simp only []
  rw [if_pos hr]
  exact ⟨v, still_of rfl h1, h2⟩
theorem xs_guard_yes {l : List Oper} {i : Nat} {d : Option Tmp} {op : Op} {t : TypeId} {pos : String} {after : Array Edge} {rest : List Nat} {e : Env} {H : Heap} {v : Value} {j : Nat} {w : Bool} (hi : l[i]? = some ⟨d, op, t, pos, after, some (j, w)⟩) (hr : (isRdOp op && !Z.contains i) = true) (hy : yieldedE l.toArray e j = some w)
    (h1 : ∀ H', S H' → rdX P ⟨d, op, t, pos, after, some (j, w)⟩ (Env.eval e) H' (· = v))
    (h2 : opsS P l.toArray S Z rest (e.put d v) H K) : opsS P l.toArray S Z (i :: rest) e H K := by
  unfold opsS
  rw [List.getElem?_toArray, hi]
  simp only []
  rw [if_pos hr]
  refine ⟨v, ?_, h2⟩
  unfold Still
  simp only []
  rw [if_pos hy]
  intro H hS
  obtain ⟨u, h3, h4⟩ := rdX_sound (h1 H hS)
  rw [← h3]; exact h4
theorem xs_guard_no {l : List Oper} {i : Nat} {d : Option Tmp} {op : Op} {t : TypeId} {pos : String} {after : Array Edge} {rest : List Nat} {e : Env} {H : Heap} {j : Nat} {w : Bool} (hi : l[i]? = some ⟨d, op, t, pos, after, some (j, w)⟩) (hy : yieldedE l.toArray e j = some (!w)) (hS : S H)
    (h2 : opsS P l.toArray S Z rest (e.put d undef) H K) : opsS P l.toArray S Z (i :: rest) e H K := by
  have hne : ¬ yieldedE l.toArray e j = some w := by rw [hy]; cases w <;> simp
  unfold opsS
  rw [List.getElem?_toArray, hi]
  simp only []
  by_cases hr : (isRdOp op && !Z.contains i) = true
  · rw [if_pos hr]
    refine ⟨undef, ?_, h2⟩
    unfold Still
    simp only []
    rw [if_neg hne]
    trivial
  · rw [if_neg hr]
    unfold opAt
    simp only []
    rw [if_neg hne]
    exact ⟨fun _ => hS, h2⟩
theorem xs_op {l : List Oper} {i : Nat} {d : Option Tmp} {op : Op} {t : TypeId} {pos : String} {after : Array Edge} {rest : List Nat} {e : Env} {H : Heap} (hi : l[i]? = some ⟨d, op, t, pos, after, none⟩) (hr : (isRdOp op && !Z.contains i) = false)
    (h : ∀ K' : Value → Heap → Prop, (∀ v H', (Z.contains i = false → S H') ∧ opsS P l.toArray S Z rest (e.put d v) H' K → K' v H') → opX P ⟨d, op, t, pos, after, none⟩ (Env.eval e) H K') : opsS P l.toArray S Z (i :: rest) e H K := by
  unfold opsS
  rw [List.getElem?_toArray, hi]
  simp only []
  rw [if_neg (by rw [hr]; simp)]
  exact h _ fun _ _ h => h
theorem xs_op_yes {l : List Oper} {i : Nat} {d : Option Tmp} {op : Op} {t : TypeId} {pos : String} {after : Array Edge} {rest : List Nat} {e : Env} {H : Heap} {j : Nat} {w : Bool} (hi : l[i]? = some ⟨d, op, t, pos, after, some (j, w)⟩) (hr : (isRdOp op && !Z.contains i) = false) (hy : yieldedE l.toArray e j = some w)
    (h : ∀ K' : Value → Heap → Prop, (∀ v H', (Z.contains i = false → S H') ∧ opsS P l.toArray S Z rest (e.put d v) H' K → K' v H') → opX P ⟨d, op, t, pos, after, some (j, w)⟩ (Env.eval e) H K') : opsS P l.toArray S Z (i :: rest) e H K := by
  unfold opsS
  rw [List.getElem?_toArray, hi]
  simp only []
  rw [if_neg (by rw [hr]; simp)]
  unfold opAt
  simp only []
  rw [if_pos hy]
  exact h _ fun _ _ h => h
theorem xs_tail {i : Nat} {rest : List Nat} {e : Env} {H : Heap} (hz : Z.contains i = true) (h : opsS P ops S Z rest e H K) : (Z.contains i = false → S H) ∧ opsS P ops S Z rest e H K :=
  ⟨fun hk => (by rw [hz] at hk; cases hk), h⟩
theorem xs_keep {i : Nat} {rest : List Nat} {e : Env} {H : Heap} (hS : S H) (h : opsS P ops S Z rest e H K) : (Z.contains i = false → S H) ∧ opsS P ops S Z rest e H K := ⟨fun _ => hS, h⟩
end
end Go.Hp

namespace Go.Hp
open Go
set_option linter.unusedVariables false

theorem add_mk (b o n : Nat) : (⟨b, o, none⟩ : Addr).add n = ⟨b, o + n, none⟩ := by
  unfold Addr.add
  split
  · rename_i h; subst h; rfl
  · rfl
/-- A plain block: its cells. -/
def Blk (H : Heap) (b : Nat) (l : List Value) : Prop := ∃ T, H[b]? = some (.cells l.toArray T (0, 0))
theorem Blk.lt {H : Heap} {b : Nat} {l : List Value} (h : Blk H b l) : b < H.size := by
  obtain ⟨T, h⟩ := h
  rcases Nat.lt_or_ge b H.size with hb | hb
  · exact hb
  · rw [Array.getElem?_eq_none hb] at h; cases h
theorem Blk.cell {H : Heap} {b : Nat} {l : List Value} (h : Blk H b l) (i : Nat) : hcell H ⟨b, i, none⟩ = l[i]? := by
  obtain ⟨T, h⟩ := h
  unfold hcell
  simp only [h]
  simp
theorem Blk.cellOf {H : Heap} {b : Nat} {l : List Value} (h : Blk H b l) {i : Nat} {v : Value} (hi : l[i]? = some v) : hcell H ⟨b, i, none⟩ = some v := by
  rw [h.cell, hi]
theorem Blk.okW {H : Heap} {b : Nat} {l : List Value} (h : Blk H b l) {i : Nat} (hi : i < l.length) : okW H ⟨b, i, none⟩ := by
  refine ⟨⟨l[i], by rw [h.cell]; simp [hi]⟩, ?_⟩
  obtain ⟨T, h⟩ := h
  unfold hfrozen
  simp only [h]
  simp
theorem hset_get_ne {H : Heap} {a : Addr} {v : Value} {b : Nat} (h : b ≠ a.block) : (hset H a v)[b]? = H[b]? := by
  unfold hset
  rw [Array.getElem?_modify, if_neg (Ne.symm h)]
theorem Blk.set_same {H : Heap} {b : Nat} {l : List Value} (h : Blk H b l) (i : Nat) (v : Value) : Blk (hset H ⟨b, i, none⟩ v) b (l.set i v) := by
  obtain ⟨T, h⟩ := h
  refine ⟨T, ?_⟩
  unfold hset
  rw [Array.getElem?_modify, if_pos rfl, h]
  simp
theorem Blk.set_ne {H : Heap} {b : Nat} {l : List Value} (h : Blk H b l) {a : Addr} (hb : b ≠ a.block) (v : Value) : Blk (hset H a v) b l := by
  obtain ⟨T, h⟩ := h
  exact ⟨T, by rw [hset_get_ne hb, h]⟩
theorem Blk.push {H : Heap} {b : Nat} {l : List Value} (h : Blk H b l) (o : Obj) : Blk (H.push o) b l := by
  have hb := h.lt
  obtain ⟨T, h⟩ := h
  exact ⟨T, by rw [Array.getElem?_push, if_neg (by omega), h]⟩
theorem Blk.new (H : Heap) (l : List Value) (T : TypeId) : Blk (H.push (.cells l.toArray T)) H.size l :=
  ⟨T, by rw [Array.getElem?_push, if_pos rfl]⟩
theorem Blk.inj {H : Heap} {b : Nat} {l l' : List Value} (h : Blk H b l) (h' : Blk H b l') : l = l' := by
  obtain ⟨T, h⟩ := h
  obtain ⟨T', h'⟩ := h'
  rw [h] at h'
  simp only [Option.some.injEq, Obj.cells.injEq] at h'
  simpa using h'.1
/-- Of what was there nothing has turned but blocks of S; none has gone. -/
structure Fr (S : Nat → Prop) (H H' : Heap) : Prop where
  size : H.size ≤ H'.size
  same : ∀ b, b < H.size → ¬ S b → H'[b]? = H[b]?
theorem Fr.refl (S : Nat → Prop) (H : Heap) : Fr S H H := ⟨Nat.le_refl _, fun _ _ _ => rfl⟩
theorem Fr.trans {S : Nat → Prop} {H H' H'' : Heap} (h : Fr S H H') (k : Fr S H' H'') : Fr S H H'' :=
  ⟨Nat.le_trans h.size k.size, fun b hb hs => (k.same b (Nat.lt_of_lt_of_le hb h.size) hs).trans (h.same b hb hs)⟩
theorem Fr.mono {S S' : Nat → Prop} {H H' : Heap} (h : Fr S H H') (k : ∀ b, b < H.size → S b → S' b) : Fr S' H H' :=
  ⟨h.size, fun b hb hs => h.same b hb fun h => hs (k b hb h)⟩
/-- New blocks count as one's own. -/
theorem Fr.trans' {S S' : Nat → Prop} {H H' H'' : Heap} (h : Fr S H H') (k : Fr S' H' H'') (hS : ∀ b, b < H.size → S' b → S b) : Fr S H H'' :=
  ⟨Nat.le_trans h.size k.size, fun b hb hs => (k.same b (Nat.lt_of_lt_of_le hb h.size) fun h => hs (hS b hb h)).trans (h.same b hb hs)⟩
theorem hset_size (H : Heap) (a : Addr) (v : Value) : (hset H a v).size = H.size := by unfold hset; simp
theorem Fr.set {S : Nat → Prop} {H H' : Heap} (h : Fr S H H') {a : Addr} (ha : S a.block ∨ H.size ≤ a.block) (v : Value) : Fr S H (hset H' a v) :=
  h.trans' (S' := fun b => b = a.block) ⟨by rw [hset_size]; exact Nat.le_refl _, fun b _ hb => hset_get_ne hb⟩ fun b hb e => by
    subst e
    rcases ha with ha | ha
    · exact ha
    · omega
theorem Fr.push {S : Nat → Prop} {H H' : Heap} (h : Fr S H H') (o : Obj) : Fr S H (H'.push o) :=
  h.trans ⟨by simp, fun b hb _ => by rw [Array.getElem?_push, if_neg (by omega)]⟩
theorem Blk.frame {S : Nat → Prop} {H H' : Heap} {b : Nat} {l : List Value} (h : Blk H b l) (k : Fr S H H') (hb : ¬ S b) : Blk H' b l := by
  have hlt := h.lt
  obtain ⟨T, h⟩ := h
  exact ⟨T, by rw [k.same b hlt hb, h]⟩
theorem Fr.cell {S : Nat → Prop} {H H' : Heap} (k : Fr S H H') {a : Addr} (ha : a.block < H.size) (hs : ¬ S a.block) : hcell H' a = hcell H a := by
  unfold hcell; rw [k.same _ ha hs]
/-! ### cells behind stores -/
theorem hcell_hset_same {H : Heap} {b o : Nat} {v u : Value} (h : hcell H ⟨b, o, none⟩ = some u) : hcell (hset H ⟨b, o, none⟩ v) ⟨b, o, none⟩ = some v := by
  unfold hcell hset at *
  simp only [Array.getElem?_modify, if_true] at *
  cases hb : H[b]? with
  | none => rw [hb] at h; cases h
  | some x =>
    rw [hb] at h
    cases x <;> simp at h ⊢
    rename_i c T fr
    have : o < c.size := by
      rcases Nat.lt_or_ge o c.size with h' | h'
      · exact h'
      · rw [Array.getElem?_eq_none h'] at h; cases h
    simp [this]
theorem hcell_hset_off {H : Heap} {b o o' : Nat} {v : Value} (h : o ≠ o') : hcell (hset H ⟨b, o, none⟩ v) ⟨b, o', none⟩ = hcell H ⟨b, o', none⟩ := by
  unfold hcell hset
  simp only [Array.getElem?_modify, if_true]
  cases hb : H[b]? with
  | none => rfl
  | some x => cases x <;> simp [h]
theorem hcell_hset_ne {H : Heap} {a a' : Addr} {v : Value} (h : a'.block ≠ a.block) : hcell (hset H a v) a' = hcell H a' := by
  unfold hcell; rw [hset_get_ne h]
theorem hfrozen_hset {H : Heap} {a a' : Addr} {v : Value} : hfrozen (hset H a v) a' = hfrozen H a' := by
  unfold hfrozen hset
  rw [Array.getElem?_modify]
  by_cases h : a.block = a'.block
  · rw [if_pos h, ← h]
    cases hb : H[a.block]? with
    | none => rfl
    | some x => cases x <;> rfl
  · rw [if_neg h]
theorem hcell_isSome_hset {H : Heap} {a a' : Addr} {v : Value} : (hcell (hset H a v) a').isSome = (hcell H a').isSome := by
  unfold hcell hset
  rw [Array.getElem?_modify]
  by_cases hb : a.block = a'.block
  · rw [if_pos hb]
    cases hx : H[a'.block]? with
    | none => rfl
    | some x =>
      cases x <;> first | rfl | skip
      rename_i c T fr
      simp only [Option.map_some]
      cases a'.spot with
      | some s => rfl
      | none =>
        simp only [Option.isSome_none, Bool.false_eq_true, if_false]
        cases a.spot with
        | some s => rfl
        | none =>
          simp only [Option.isSome_none, Bool.false_eq_true, if_false]
          by_cases h : a'.off < c.size <;> simp [h]
  · rw [if_neg hb]
theorem okW_hset {H : Heap} {a a' : Addr} {v : Value} : okW (hset H a v) a' = okW H a' := by
  unfold okW
  rw [hfrozen_hset]
  have : (∃ u, hcell (hset H a v) a' = some u) = (∃ u, hcell H a' = some u) := by
    rw [← Option.isSome_iff_exists, ← Option.isSome_iff_exists, hcell_isSome_hset]
  rw [this]
theorem hcell_hset_eq {H : Heap} {b o : Nat} {v : Value} (h : okW H ⟨b, o, none⟩) : hcell (hset H ⟨b, o, none⟩ v) ⟨b, o, none⟩ = some v := by
  obtain ⟨⟨u, hu⟩, _⟩ := h
  exact hcell_hset_same hu
theorem hcell_push {H : Heap} {a : Addr} {o : Obj} (h : a.block < H.size) : hcell (H.push o) a = hcell H a := by
  unfold hcell; rw [Array.getElem?_push, if_neg (by omega)]
theorem hcell_lt {H : Heap} {a : Addr} {v : Value} (h : hcell H a = some v) : a.block < H.size := by
  rcases Nat.lt_or_ge a.block H.size with hb | hb
  · exact hb
  · unfold hcell at h; rw [Array.getElem?_eq_none hb] at h; cases h
theorem hcell_new {H : Heap} {l : List Value} {T : TypeId} {i : Nat} : hcell (H.push (.cells l.toArray T)) ⟨H.size, i, none⟩ = l[i]? := (Blk.new H l T).cell i
/-! ### a slice's own row -/
/-- The slice value s (n elements of k cells) owns a row of its own in which the cells l stand; nil: none. The row's block, if any: B. -/
def Own (H : Heap) (B : Option Nat) (s : Value) (k n : Nat) (l : List Value) : Prop :=
  l.length = n * k ∧ ((B = none ∧ s = .slice none 0 0 ∧ n = 0) ∨
    ∃ g c rest, B = some g ∧ s = .slice (some ⟨g, 0, none⟩) n c ∧ Blk H g (l ++ rest) ∧ (l ++ rest).length = c * k ∧ n ≤ c)
theorem Own.frame {S : Nat → Prop} {H H' : Heap} {B : Option Nat} {s : Value} {k n : Nat} {l : List Value} (h : Own H B s k n l) (hf : Fr S H H') (hb : ∀ g, B = some g → ¬ S g) : Own H' B s k n l := by
  obtain ⟨hl, h | ⟨g, c, rest, h1, h2, h3, h4, h5⟩⟩ := h
  · exact ⟨hl, .inl h⟩
  · exact ⟨hl, .inr ⟨g, c, rest, h1, h2, h3.frame hf (hb g h1), h4, h5⟩⟩
theorem readL_blk {H : Heap} {b : Nat} {l : List Value} (h : Blk H b l) : ∀ (n o i : Nat), o + i + n ≤ l.length → readL H ⟨b, o, none⟩ i n = some ((l.drop (o + i)).take n)
  | 0, o, i, _ => by simp [readL]
  | n + 1, o, i, hn => by
    unfold readL
    rw [add_mk, h.cell, readL_blk h n o (i + 1) (by omega), List.getElem?_eq_getElem (by omega)]
    simp only []
    rw [List.drop_eq_getElem_cons (show o + i < l.length by omega), List.take_succ_cons]
    rfl
theorem storesX_blk {b : Nat} : ∀ (vs : List Value) (H : Heap) (o i : Nat) (l : List Value) (K : Heap → Prop), Blk H b l → o + i + vs.length ≤ l.length → (∀ v ∈ vs, plainVal v = true) →
    (∀ H', Blk H' b (l.take (o + i) ++ vs ++ l.drop (o + i + vs.length)) → Fr (· = b) H H' → H'.size = H.size → K H') → storesX ⟨b, o, none⟩ i vs H K
  | [], H, o, i, l, K, h, _, _, hk => hk H (by simpa using h) (.refl _ _) rfl
  | v :: vs, H, o, i, l, K, h, hl, hp, hk => by
    simp only [List.length_cons] at hl
    refine ⟨hp v (.head _), by rw [add_mk]; exact h.okW (by omega), ?_⟩
    rw [add_mk]
    refine storesX_blk vs _ o (i + 1) _ K (h.set_same (o + i) v) (by simp; omega) (fun v hv => hp v (.tail _ hv)) fun H' h1 h2 h3 => hk H' ?_ ?_ (by rw [h3, hset_size])
    · have e1 : (l.set (o + i) v).take (o + (i + 1)) = l.take (o + i) ++ [v] := by
        rw [show o + (i + 1) = (o + i) + 1 by omega, List.take_succ_eq_append_getElem (by simp; omega)]
        simp [List.take_set_of_le]
      have e2 : (l.set (o + i) v).drop (o + (i + 1) + vs.length) = l.drop (o + i + (vs.length + 1)) := by
        rw [List.drop_set_of_lt (by omega)]
        congr 1; omega
      rw [e1, e2] at h1
      simpa using h1
    · exact ((Fr.refl (· = b) H).set (.inl rfl) v).trans h2
/-- append: what s owned and the new cells are owned by what comes out. -/
theorem append_own {P : Program} {t e : TypeId} {sz : Nat} {te : TL} {s x : Value} {H : Heap} {B : Option Nat} {n m : Nat} {l new : List Value} {K : Value → Heap → Prop}
    (he : elems P t = some (none, e, sz)) (ht : tl P e = some te) (h : Own H B s sz n l)
    (hx : (∃ b c, x = .slice (some b) m c ∧ readL H b 0 (m * sz) = some new) ∨ (x = .slice none 0 0 ∧ m = 0 ∧ new = [])) (hp : ∀ v ∈ new, plainVal v = true)
    (hb0 : 0 < te.bytes) (hb : 2 * (n + m) * te.bytes ≤ 2 ^ 48) (hnew : new.length = m * sz) (hz : te.zero.cells.size = sz)
    (hk : ∀ v' H' B', Own H' B' v' sz (n + m) (l ++ new) → Fr (fun b => B = some b) H H' → (B' = B ∨ ∃ g, B' = some g ∧ H.size ≤ g) → K v' H') : appendX P t s x H K := by
  unfold appendX
  obtain ⟨hl, h⟩ := h
  have nil : s = .slice none 0 0 → n = 0 → B = none → l = [] := fun _ hn _ => by subst hn; simpa using hl
  have srcs : ∀ Q : Prop, Q → srcX H sz x m new ∧ Q := fun Q q => by
    rcases hx with ⟨b, c, rfl, hr⟩ | ⟨rfl, hm, hn⟩
    · exact ⟨⟨rfl, hr⟩, q⟩
    · exact ⟨⟨hm.symm, hm, hn⟩, q⟩
  rcases h with ⟨rfl, rfl, rfl⟩ | ⟨g, c, rest, rfl, rfl, hblk, hlen, hnc⟩
  · rw [he]
    simp only [ht]
    refine ⟨m, new, srcs _ ?_⟩
    obtain rfl : l = [] := nil rfl rfl rfl
    by_cases hm : 0 + m ≤ 0
    · rw [if_pos hm]
      obtain rfl : m = 0 := by omega
      obtain rfl : new = [] := by simpa using hnew
      exact hk _ _ none ⟨by simp, .inl ⟨rfl, rfl, rfl⟩⟩ (.refl _ _) (.inl rfl)
    · rw [if_neg hm]
      refine ⟨[], rfl, hb0, hb, fun c hc _ => hk _ _ (some H.size) ⟨by simp [hnew], .inr ⟨H.size, c, repL (c - (0 + m)) te.zero.cells.toList, rfl, rfl, ?_, ?_, hc⟩⟩ ((Fr.refl _ _).push _) (.inr ⟨_, rfl, Nat.le_refl _⟩)⟩
      · exact Blk.new H ([] ++ new ++ repL (c - (0 + m)) te.zero.cells.toList) e
      · simp [repL_length, hz, hnew]
        rw [← Nat.add_mul]; congr 1; omega
  · rw [he]
    simp only [ht]
    refine ⟨m, new, srcs _ ?_⟩
    by_cases hc : n + m ≤ c
    · rw [if_pos hc, add_mk]
      have hlt : n * sz + m * sz ≤ c * sz := by rw [← Nat.add_mul]; exact Nat.mul_le_mul_right _ hc
      refine storesX_blk new H _ 0 (l ++ rest) _ hblk (by omega) hp fun H' h1 h2 h3 => hk _ _ (some g) ⟨by simp [hl, hnew, Nat.add_mul], .inr ⟨g, c, rest.drop (m * sz), rfl, rfl, ?_, ?_, hc⟩⟩ (h2.mono fun b _ e => by rw [e]) (.inl rfl)
      · have e1 : (l ++ rest).take (0 + n * sz + 0) = l := by rw [show 0 + n * sz + 0 = l.length by omega]; simp
        have e2 : (l ++ rest).drop (0 + n * sz + 0 + new.length) = rest.drop (m * sz) := by
          rw [show 0 + n * sz + 0 + new.length = l.length + m * sz by omega, List.drop_append]; simp
        rw [e1, e2] at h1
        exact h1
      · simp at hlen ⊢
        omega
    · rw [if_neg hc]
      have hr : readL H ⟨g, 0, none⟩ 0 (n * sz) = some l := by
        rw [readL_blk hblk _ _ _ (by simp at hlen ⊢; omega)]
        simp [← hl]
      refine ⟨l, hr, hb0, hb, fun c' hc' _ => hk _ _ (some H.size) ⟨by simp [hl, hnew, Nat.add_mul], .inr ⟨H.size, c', repL (c' - (n + m)) te.zero.cells.toList, rfl, rfl, Blk.new _ _ _, ?_, hc'⟩⟩ ((Fr.refl _ _).push _) (.inr ⟨_, rfl, Nat.le_refl _⟩)⟩
      simp [repL_length, hz, hnew, hl]
      rw [← Nat.add_mul, ← Nat.add_mul]; congr 1; omega
/-- A slice of ints of its own, all of whose memory lies from block base on. -/
def Ints (H : Heap) (base : Nat) (v : Value) (xs : List Int) : Prop := ∃ B, Own H B v 1 xs.length (xs.map (Value.int .i64)) ∧ ∀ g, B = some g → base ≤ g
theorem Ints.nil (H : Heap) (base : Nat) : Ints H base (.slice none 0 0) [] := ⟨none, ⟨rfl, .inl ⟨rfl, rfl, rfl⟩⟩, fun g h => by cases h⟩
theorem Ints.frame {S : Nat → Prop} {H H' : Heap} {base : Nat} {v : Value} {xs : List Int} (h : Ints H base v xs) (hf : Fr S H H') (hb : ∀ g, base ≤ g → g < H.size → ¬ S g) : Ints H' base v xs := by
  obtain ⟨B, hl, ho⟩ := h
  refine ⟨B, hl.frame hf fun g hg => hb g (ho g hg) ?_, ho⟩
  obtain ⟨_, h | ⟨g', c, rest, h1, h2, h3, h4, h5⟩⟩ := hl
  · rw [h.1] at hg; cases hg
  · rw [h1] at hg
    obtain rfl := Option.some.inj hg
    exact h3.lt
theorem Ints.slice {H : Heap} {base : Nat} {v : Value} {xs : List Int} (h : Ints H base v xs) : ∃ a c, v = .slice a xs.length c := by
  obtain ⟨B, ⟨_, h | ⟨g', c, rest, h1, h2, h3, h4, h5⟩⟩, ho⟩ := h
  · obtain ⟨_, h2, h3⟩ := h
    exact ⟨none, 0, by rw [h2, h3]⟩
  · exact ⟨_, _, h2⟩
theorem Ints.read {H : Heap} {base : Nat} {v : Value} {xs : List Int} (h : Ints H base v xs) {i : Nat} {x : Int} (hi : xs[i]? = some x) :
    ∃ b c, v = .slice (some ⟨b, 0, none⟩) xs.length c ∧ hcell H ⟨b, i, none⟩ = some (.int .i64 x) := by
  obtain ⟨B, ⟨hl, h | ⟨g', c, rest, h1, h2, h3, h4, h5⟩⟩, ho⟩ := h
  · have : xs = [] := List.length_eq_zero_iff.1 h.2.2
    rw [this] at hi; cases hi
  · refine ⟨g', c, h2, h3.cellOf ?_⟩
    have hlt : i < xs.length := by
      rcases Nat.lt_or_ge i xs.length with h | h
      · exact h
      · rw [List.getElem?_eq_none h] at hi; cases hi
    rw [List.getElem?_append_left (by simpa using hlt), List.getElem?_map, hi]
    rfl
/-- A slice of ints that came in reads as zs. -/
def InInts (H : Heap) (a : Option Addr) (len : Nat) (zs : Nat → Int) : Prop :=
  ∀ i, i < len → ∃ p, a = some p ∧ hcell H (p.add i) = some (.int .i64 (zs i)) ∧ -9223372036854775808 ≤ zs i ∧ zs i ≤ 9223372036854775807
theorem InInts.frame {H H' : Heap} {a : Option Addr} {len : Nat} {zs : Nat → Int} (h : InInts H a len zs) (hf : Fr (fun _ => False) H H') : InInts H' a len zs := fun i hi => by
  obtain ⟨p, h1, h2, h3⟩ := h i hi
  exact ⟨p, h1, by rw [hf.cell (hcell_lt h2) (fun h => h)]; exact h2, h3⟩
/-- append(xs, x) -/
theorem append_int {P : Program} {t e : TypeId} {te : TL} {s : Value} {H H0 : Heap} {base d : Nat} {xs : List Int} {x : Int} {K : Value → Heap → Prop}
    (he : elems P t = some (none, e, 1)) (ht : tl P e = some te) (h : Ints H0 base s xs) (hH : H = H0.push (.cells #[.int .i64 x] e)) (hb0 : 0 < te.bytes) (hbase : base ≤ H0.size) (hb : 2 * (xs.length + 1) * te.bytes ≤ 2 ^ 48) (hz : te.zero.cells.size = 1)
    (hk : ∀ v' H', Ints H' base v' (xs ++ [x]) → Fr (fun b => base ≤ b) H0 H' → K v' H') : appendX P t s (.slice (some ⟨H0.size, 0, none⟩) 1 d) H K := by
  subst hH
  obtain ⟨B, hl, ho⟩ := h
  have hfr : Fr (fun _ => False) H0 (H0.push (.cells #[.int .i64 x] e)) := (Fr.refl _ _).push _
  have hlB : ∀ g, B = some g → g < H0.size := fun g hg => by
    obtain ⟨_, h | ⟨g', c, rest, h1, h2, h3, h4, h5⟩⟩ := hl
    · rw [h.1] at hg; cases hg
    · rw [h1] at hg
      obtain rfl := Option.some.inj hg
      exact h3.lt
  refine append_own he ht (hl.frame hfr (fun _ _ h => h)) (.inl ⟨_, _, rfl, readL_blk (Blk.new H0 [.int .i64 x] e) 1 0 0 (by simp)⟩) (by simp [plainVal]) hb0 hb rfl hz ?_
  intro v' H' B' ho' hf hB
  refine hk v' H' ⟨B', by simpa using ho', fun g hg => ?_⟩ ((hfr.mono (S' := fun b => base ≤ b) fun b _ h => h.elim).trans' hf fun b _ h => ho b h)
  rcases hB with rfl | ⟨g', h1, h2⟩
  · exact ho g hg
  · rw [h1] at hg
    obtain rfl := Option.some.inj hg
    simp at h2
    omega
/-- append onto a row that is there. -/
theorem append_row {P : Program} {t e : TypeId} {sz : Nat} {te : TL} {H : Heap} {g b n m c d : Nat} {l rest new : List Value} {K : Value → Heap → Prop}
    (he : elems P t = some (none, e, sz)) (ht : tl P e = some te) (hblk : Blk H g (l ++ rest)) (hl : l.length = n * sz) (hlen : n * sz + rest.length = c * sz) (hnc : n ≤ c)
    (hx : readL H ⟨b, 0, none⟩ 0 (m * sz) = some new) (hp : ∀ v ∈ new, plainVal v = true)
    (hb0 : 0 < te.bytes) (hb : 2 * (n + m) * te.bytes ≤ 2 ^ 48) (hnew : new.length = m * sz) (hz : te.zero.cells.size = sz)
    (hk : ∀ H' g' c' rest', Blk H' g' (l ++ new ++ rest') → (n + m) * sz + rest'.length = c' * sz → n + m ≤ c' → Fr (· = g) H H' → (g' = g ∨ H.size ≤ g') → K (.slice (some ⟨g', 0, none⟩) (n + m) c') H') :
    appendX P t (.slice (some ⟨g, 0, none⟩) n c) (.slice (some ⟨b, 0, none⟩) m d) H K := by
  refine append_own he ht (B := some g) ⟨hl, .inr ⟨g, c, rest, rfl, rfl, hblk, by rw [List.length_append, hl, hlen], hnc⟩⟩ (.inl ⟨_, _, rfl, hx⟩) hp hb0 hb hnew hz ?_
  rintro v' H' B' ⟨hl', h | ⟨g', c', rest', rfl, rfl, h3, h4, h5⟩⟩ hf hB
  · obtain ⟨rfl, _⟩ := h
    rcases hB with h | ⟨_, h, _⟩ <;> cases h
  · refine hk H' g' c' rest' h3 (by rw [List.length_append, hl'] at h4; exact h4) h5 (hf.mono fun b _ h => (Option.some.inj h).symm) ?_
    rcases hB with h | ⟨_, h, h'⟩
    · exact .inl (Option.some.inj h)
    · obtain rfl := Option.some.inj h
      exact .inr h'
attribute [go_sem] opX isRdOp rdX Env.eval put_get put_none Env.init ptrX_some nilX_some boolX intX loadX TK.agg cellX cellsX bigRow binX intBin
  strBin fieldAX indexX tupX sliceX boundX callX lenX isPtr isBool isSlice isString convX fieldX buildX fillX putL repL storesX resX outX newPtr
  plainVal seqQ blockQ endQ add_mk Value.cells Option.map_some Option.map_none Option.isNone_none Option.isNone_some List.getElem?_cons_zero
  List.getElem?_cons_succ List.map_cons List.map_nil List.getElem?_toArray List.map_toArray List.size_toArray List.length_cons List.length_nil
  List.append_toArray List.nil_append List.append_nil List.cons_append List.toList_toArray Array.getD_eq_getD_getElem? Option.getD_some if_true if_false
  Nat.zero_add Nat.add_zero Nat.mul_one Option.some.injEq Value.int.injEq Value.pointer.injEq Value.bool.injEq ex_slice Value.string.injEq
  Value.map.injEq exists_eq_left' exists_eq_left true_and and_true and_self and_assoc ne_eq not_false_eq_true Bool.false_eq_true Bool.not_true
  Bool.not_false beq_self_eq_true bne_self_eq_false decide_true decide_false Int.toNat_natCast Int.toNat_zero Int.toNat_one Int.natCast_nonneg
  Int.ofNat_lt Int.ofNat_le Value.ite_bool ge_iff_le gt_iff_lt Int.cast_ofNat_Int
end Go.Hp

namespace Go.Hp
open Go
/-- A law's walk, told of worlds. -/
theorem below_of {w w' : World} (hf : Fr (fun _ => False) w.heap w'.heap) (hl : Like w w') : Go.RowKit.Below w.heap.size w w' :=
  ⟨hl.os, hl.tape, hl.output, hf.size, fun k hk => hf.same k hk fun h => h⟩
theorem calls_law {P : Program} {f : FuncId} {args : Array Value} {w : World} (h : CallsH P f args w.heap fun v H' => v = .bool true ∧ Fr (fun _ => False) w.heap H') :
    Calls P f args w fun e w' => e = .returned (.bool true) ∧ Go.RowKit.Below w.heap.size w w' :=
  (h.2 w rfl).mono fun _ _ ⟨_, h1, ⟨h2, h3⟩, h4⟩ => ⟨by rw [h1, h2], below_of h3 h4⟩
end Go.Hp

namespace Go.Hp
open Go
set_option linter.unusedVariables false

/-- The slice v holds the ints xs in a row of its own: block B; nil: none. -/
def IR (H : Heap) (B : Option Nat) (v : Value) (xs : List Int) : Prop := Own H B v 1 xs.length (xs.map (Value.int .i64))
theorem IR.nil (H : Heap) : IR H none (.slice none 0 0) [] := ⟨rfl, .inl ⟨rfl, rfl, rfl⟩⟩
theorem IR.frame {S : Nat → Prop} {H H' : Heap} {B : Option Nat} {v : Value} {xs : List Int} (h : IR H B v xs) (hf : Fr S H H') (hb : ∀ g, B = some g → ¬ S g) : IR H' B v xs := Own.frame h hf hb
theorem IR.lt {H : Heap} {B : Option Nat} {v : Value} {xs : List Int} (h : IR H B v xs) {g : Nat} (hg : B = some g) : g < H.size := by
  obtain ⟨_, h | ⟨g', c, rest, h1, h2, h3, h4, h5⟩⟩ := h
  · rw [h.1] at hg; cases hg
  · rw [h1] at hg
    obtain rfl := Option.some.inj hg
    exact h3.lt
theorem IR.slice {H : Heap} {B : Option Nat} {v : Value} {xs : List Int} (h : IR H B v xs) : ∃ a c, v = .slice a xs.length c := by
  obtain ⟨_, h | ⟨g', c, rest, h1, h2, h3, h4, h5⟩⟩ := h
  · obtain ⟨_, h2, h3⟩ := h
    exact ⟨none, 0, by rw [h2, h3]⟩
  · exact ⟨_, _, h2⟩
theorem IR.row {H : Heap} {B : Option Nat} {v : Value} {xs : List Int} (h : IR H B v xs) (hx : xs ≠ []) :
    ∃ g c rest, B = some g ∧ v = .slice (some ⟨g, 0, none⟩) xs.length c ∧ Blk H g (xs.map (Value.int .i64) ++ rest) ∧ xs.length + rest.length = c ∧ xs.length ≤ c := by
  obtain ⟨_, h | ⟨g, c, rest, h1, h2, h3, h4, h5⟩⟩ := h
  · exact absurd (List.length_eq_zero_iff.1 h.2.2) hx
  · exact ⟨g, c, rest, h1, h2, h3, by simpa using h4, h5⟩
theorem IR.read {H : Heap} {B : Option Nat} {v : Value} {xs : List Int} (h : IR H B v xs) {i : Nat} {x : Int} (hi : xs[i]? = some x) :
    ∃ g c, B = some g ∧ v = .slice (some ⟨g, 0, none⟩) xs.length c ∧ hcell H ⟨g, i, none⟩ = some (.int .i64 x) := by
  obtain ⟨g, c, rest, h1, h2, h3, _, _⟩ := h.row (by intro e; rw [e] at hi; cases hi)
  refine ⟨g, c, h1, h2, h3.cellOf ?_⟩
  have hlt := (List.getElem?_eq_some_iff.1 hi).1
  rw [List.getElem?_append_left (by simpa using hlt), List.getElem?_map, hi]
  rfl
theorem IR.cell {H : Heap} {g n c : Nat} {xs : List Int} (h : IR H (some g) (.slice (some ⟨g, 0, none⟩) n c) xs) {i : Nat} {x : Int} (hi : xs[i]? = some x) : hcell H ⟨g, i, none⟩ = some (.int .i64 x) := by
  obtain ⟨g', c', h1, _, h2⟩ := h.read hi
  obtain rfl := Option.some.inj h1
  exact h2
theorem IR.write {H : Heap} {g n c : Nat} {xs : List Int} (h : IR H (some g) (.slice (some ⟨g, 0, none⟩) n c) xs) {i : Nat} (hi : i < xs.length) (y : Int) :
    okW H ⟨g, i, none⟩ ∧ IR (hset H ⟨g, i, none⟩ (.int .i64 y)) (some g) (.slice (some ⟨g, 0, none⟩) n c) (xs.set i y) := by
  obtain ⟨_, h | ⟨g', c', rest, h1, h2, h3, h4, h5⟩⟩ := h
  · cases h.1
  · obtain rfl := Option.some.inj h1
    simp only [Value.slice.injEq] at h2
    obtain ⟨_, rfl, rfl⟩ := h2
    refine ⟨h3.okW (by simp; omega), by simp, .inr ⟨g, c, rest, rfl, by simp, ?_, by simpa using h4, by simpa using h5⟩⟩
    have := h3.set_same i (.int .i64 y)
    rw [List.set_append_left _ _ (by simpa using hi)] at this
    rw [List.map_set]
    exact this
/-- append(xs, x) -/
theorem append_ir {P : Program} {t e : TypeId} {te : TL} {s : Value} {H H0 : Heap} {B : Option Nat} {d : Nat} {xs : List Int} {x : Int} {K : Value → Heap → Prop}
    (he : elems P t = some (none, e, 1)) (ht : tl P e = some te) (h : IR H0 B s xs) (hH : H = H0.push (.cells #[.int .i64 x] e)) (hb0 : 0 < te.bytes) (hb : 2 * (xs.length + 1) * te.bytes ≤ 2 ^ 48) (hz : te.zero.cells.size = 1)
    (hk : ∀ v' H' B', IR H' B' v' (xs ++ [x]) → Fr (fun b => B = some b) H0 H' → (B' = B ∨ ∃ g, B' = some g ∧ H0.size ≤ g) → K v' H') : appendX P t s (.slice (some ⟨H0.size, 0, none⟩) 1 d) H K := by
  subst hH
  have hfr : Fr (fun _ => False) H0 (H0.push (.cells #[.int .i64 x] e)) := (Fr.refl _ _).push _
  refine append_own he ht (Own.frame h hfr (fun _ _ h => h)) (.inl ⟨_, _, rfl, readL_blk (Blk.new H0 [.int .i64 x] e) 1 0 0 (by simp)⟩) (by simp [plainVal]) hb0 hb rfl hz ?_
  intro v' H' B' ho' hf hB
  refine hk v' H' B' (by unfold IR; simpa using ho') ((hfr.mono (S' := fun b => B = some b) fun b _ h => h.elim).trans hf) ?_
  rcases hB with h | ⟨g, h1, h2⟩
  · exact .inl h
  · refine .inr ⟨g, h1, ?_⟩
    simp at h2
    omega
end Go.Hp

namespace Go.Hp
open Go
set_option linter.unusedVariables false

theorem rd_int_part {P : Program} {H : Heap} {e : TypeId} {te : TI} (he : tab P e = some te) (ha : aggD te.desc = false) {cs : Array Value} {i : Nat} {v : Value} (hv : cs[i]? = some v) : Rd P H (part e cs i) v := by
  unfold part
  refine Rd.bind (rd_isAgg he) ?_
  rw [ha]
  simp only [Bool.false_eq_true, if_false, hv]
  exact Rd.ret _
theorem rd_equal_int {P : Program} {H : Heap} {e : TypeId} {te : TI} {k : IntKind} (he : tab P e = some te) (hd : te.desc = .int k) (d : Nat) (a b : Int) : Rd P H (Op.equalIn (d + 1) e (.int k a) (.int k b)) (a == b) := by
  have hu := rd_underlying (H := H) he
  rw [hd] at hu
  unfold Op.equalIn
  refine Rd.bind hu ?_
  simp only [if_true]
  exact Rd.ret _
theorem rd_equal_two {P : Program} {H : Heap} {t e : TypeId} {tt te : TI} (ht : tab P t = some tt) (htd : tt.desc = .array 2 e) (he : tab P e = some te) (hd : te.desc = .int .i64) (hs : te.size = 1) (a b c d : Int) :
    Rd P H (Op.equal t (.agg #[.int .i64 a, .int .i64 b]) (.agg #[.int .i64 c, .int .i64 d])) (a == c && b == d) := by
  have hu := rd_underlying (H := H) ht
  rw [htd] at hu
  unfold Op.equal Op.maxDepth Op.equalIn
  refine Rd.bind hu ?_
  simp only []
  refine Rd.bind (rd_sizeOf he) ?_
  rw [hs]
  simp only [Std.Legacy.Range.forIn_eq_forIn_range', Std.Legacy.Range.size, List.range', Nat.reduceSub, Nat.reduceAdd, Nat.reduceDiv, Nat.zero_add, List.forIn_cons, List.forIn_nil]
  have round : ∀ (i : Nat) (x y : Int), (#[Value.int .i64 a, .int .i64 b] : Array Value)[i * 1]? = some (.int .i64 x) → (#[Value.int .i64 c, .int .i64 d] : Array Value)[i * 1]? = some (.int .i64 y) →
      Rd P H (do
        let u ← part e #[Value.int .i64 a, .int .i64 b] (i * 1)
        let v ← part e #[Value.int .i64 c, .int .i64 d] (i * 1)
        let r ← Op.equalIn 9999 e u v
        if (!r) = true then pure (ForInStep.done (some false, ())) else pure (ForInStep.yield (none, ())) : Sem (ForInStep (Option Bool × Unit)))
      (if x == y then .yield (none, ()) else .done (some false, ())) := fun i x y h1 h2 => by
    have hag : aggD te.desc = false := by rw [hd]; rfl
    refine Rd.bind (rd_int_part he hag h1) (Rd.bind (rd_int_part he hag h2) (Rd.bind (rd_equal_int he hd 9998 x y) ?_))
    cases x == y <;> exact Rd.ret _
  refine Rd.bind (x := if a == c then (if b == d then (none, ()) else (some false, ())) else (some false, ())) ?_ ?_
  · refine Rd.bind (round 0 a c rfl rfl) ?_
    cases h1 : a == c
    · exact Rd.ret _
    · refine Rd.bind (round 1 b d rfl rfl) ?_
      cases h2 : b == d <;> exact Rd.ret _
  · cases h1 : a == c
    · exact Rd.ret _
    · cases h2 : b == d <;> exact Rd.ret _
theorem binX_two {P : Program} {op : BinOp} {t e : TypeId} {ox oy : Operand} {te : TL} {a b c d : Int} {H : Heap} {K : Value → Prop} (he : elems P t = some (some 2, e, 1)) (ht : tl P e = some te) (hk : te.kind = .int .i64)
    (hg : P.eqGuardType P.depth t = false) : (match op with | .eql => K (.bool (a == c && b == d)) | .neq => K (.bool (!(a == c && b == d))) | _ => False) →
    binX P op t ox oy (.agg #[.int .i64 a, .int .i64 b]) (.agg #[.int .i64 c, .int .i64 d]) H K := by
  intro hK
  obtain ⟨tt, te', h1, h2, h3, h4⟩ := elems_spec he
  obtain ⟨te2, h5, h6, _⟩ := tl_spec ht
  rw [h2] at h5
  obtain rfl := Option.some.inj h5
  have hd : te'.desc = .int .i64 := by
    rw [hk] at h6
    cases hh : te'.desc <;> rw [hh] at h6 <;> simp [kindD] at h6
    rw [h6]
  have hq := rd_equal_two (H := H) h1 h4 h2 hd h3 a b c d
  have guard : ∀ op, (op = .eql ∨ op = .neq) → Rd P H (eqGuard op t ox oy (.agg #[.int .i64 a, .int .i64 b]) (.agg #[.int .i64 c, .int .i64 d])) () := fun op ho => by
    unfold eqGuard
    rcases ho with rfl | rfl
    all_goals
      simp only [Bool.not_true, Bool.false_eq_true, if_false]
      refine Rd.bind Rd.program (Rd.bind Rd.program ?_)
      rw [hg]
      exact Rd.ret _
  unfold binX
  simp only []
  cases op <;> simp only [] at hK <;> first | exact hK.elim | skip
  · exact ⟨_, Rd.bind (guard _ (.inl rfl)) (Rd.bind hq (Rd.ret _)), hK⟩
  · exact ⟨_, Rd.bind (guard _ (.inr rfl)) (Rd.bind hq (Rd.ret _)), hK⟩
end Go.Hp

namespace Go.Hp
open Go
set_option linter.unusedVariables false

theorem hcell_top {H : Heap} {b i : Nat} {cs : Array Value} {T : TypeId} (h : b = H.size) : hcell (H.push (.cells cs T)) ⟨b, i, none⟩ = cs[i]? := by
  subst h
  have := hcell_new (H := H) (l := cs.toList) (T := T) (i := i)
  simpa using this
theorem hfrozen_push {H : Heap} {a : Addr} {o : Obj} (h : a.block < H.size) : hfrozen (H.push o) a = hfrozen H a := by
  unfold hfrozen; rw [Array.getElem?_push, if_neg (by omega)]
theorem okW_push {H : Heap} {a : Addr} {o : Obj} (h : a.block < H.size) : okW (H.push o) a = okW H a := by
  unfold okW; rw [hfrozen_push h, hcell_push h]
theorem okW_top {H : Heap} {b i : Nat} {cs : Array Value} {T : TypeId} (h : b = H.size) (hi : i < cs.size) : okW (H.push (.cells cs T)) ⟨b, i, none⟩ = True := by
  subst h
  have := (Blk.new H cs.toList T).okW (i := i) (by simpa using hi)
  have e : cs.toList.toArray = cs := by simp
  rw [e] at this
  exact eq_true this
theorem ne_add_one {n : Nat} : (n = n + 1) = False := by simp
theorem add_one_ne {n : Nat} : (n + 1 = n) = False := by simp
theorem lt_add_k {n k : Nat} : (n < n + (k + 1)) = True := by simp
theorem add_k_ne {n k : Nat} : (n + (k + 1) = n) = False := by simp
theorem ne_add_k {n k : Nat} : (n = n + (k + 1)) = False := by simp
theorem add_same {n i j : Nat} : (n + i = n + j) = (i = j) := by simp
theorem add_lt_same {n i j : Nat} : (n + i < n + j) = (i < j) := by simp
/-- These cells hold these values. -/
def Cells : List (Nat × Nat × Value) → Heap → Prop
  | [], _ => True
  | (b, o, v) :: l, H => hcell H ⟨b, o, none⟩ = some v ∧ Cells l H
theorem Cells.frame {S : Nat → Prop} {H H' : Heap} (hf : Fr S H H') : ∀ {l : List (Nat × Nat × Value)}, Cells l H → (∀ x ∈ l, ¬ S x.1) → Cells l H'
  | [], _, _ => trivial
  | (b, o, v) :: l, ⟨h1, h2⟩, hn => ⟨by rw [hf.cell (hcell_lt h1) (hn _ (.head _))]; exact h1, Cells.frame hf h2 fun x hx => hn x (.tail _ hx)⟩
theorem Cells.grow {H H' : Heap} {l : List (Nat × Nat × Value)} (h : Cells l H) (hf : Fr (fun _ => False) H H') : Cells l H' := h.frame hf fun _ _ h => h
end Go.Hp

namespace Go.Hp
open Go
set_option linter.unusedVariables false

/-- Two cells that can be compared, of a kind: are they equal? -/
def sEq : TK → Option Value → Option Value → Option Bool
  | .int _, some (.int k a), some (.int k' b) => if k = k' then some (a == b) else none
  | .bool, some (.bool a), some (.bool b) => some (a == b)
  | .string, some (.string a), some (.string b) => some (a == b)
  | _, _, _ => none
/-- A flat struct's fields: kinds and places. -/
def flatF (P : Program) : List Field → Option (List (TK × Nat))
  | [] => some []
  | f :: fs => if f.name ≠ "_" then match tl P f.type, flatF P fs with
    | some tf, some l => if tf.kind.agg = false then some ((tf.kind, f.offset) :: l) else none
    | _, _ => none
    else none
def flatS (P : Program) (t : TypeId) : Option (List (TK × Nat)) :=
  if P.stoodInHeld t then none else if P.eqGuardType P.depth t then none else match tab P t with
  | some ti => match ti.desc with
    | .struct fs => flatF P fs.toList
    | _ => none
  | none => none
def allEq (xs ys : Array Value) : List (TK × Nat) → Option Bool
  | [] => some true
  | (k, o) :: l => match sEq k xs[o]? ys[o]? with
    | some true => allEq xs ys l
    | some false => some false
    | none => none
theorem rd_equal_scalar {P : Program} {H : Heap} {e : TypeId} {te : TI} (he : tab P e = some te) (d : Nat) {x y : Value} {b : Bool} (h : sEq (kindD te.desc) (some x) (some y) = some b) : Rd P H (Op.equalIn (d + 1) e x y) b := by
  have hu := rd_underlying (H := H) he
  unfold Op.equalIn
  refine Rd.bind hu ?_
  cases hd : te.desc <;> rw [hd] at h <;> simp only [kindD] at h <;> try (cases x <;> cases y <;> simp [sEq] at h; done)
  · cases x <;> cases y <;> simp only [sEq] at h <;> try (cases h; done)
    obtain rfl := Option.some.inj h
    exact Rd.ret _
  · cases x <;> cases y <;> simp only [sEq] at h <;> try (cases h; done)
    rename_i k a k' b'
    split at h
    · rename_i hk
      obtain rfl := Option.some.inj h
      simp only [hk, if_true]
      exact Rd.ret _
    · cases h
  · cases x <;> cases y <;> simp only [sEq] at h <;> try (cases h; done)
    obtain rfl := Option.some.inj h
    exact Rd.ret _
theorem rd_flat_loop {P : Program} {H : Heap} {xs ys : Array Value} (d : Nat) : ∀ (fs : List Field) (l : List (TK × Nat)) (b : Bool), flatF P fs = some l → allEq xs ys l = some b →
    Rd P H (forIn fs (none, ()) fun f (_ : Option Bool × Unit) => do
      if f.name ≠ "_" then
        let __do_lift ← part f.type xs f.offset
        let __do_lift_1 ← part f.type ys f.offset
        let __do_lift ← Op.equalIn (d + 1) f.type __do_lift __do_lift_1
        if (!__do_lift) = true then pure (ForInStep.done (some false, ())) else pure (ForInStep.yield (none, ()))
      else pure (ForInStep.yield (none, ())) : Sem (Option Bool × Unit)) (if b then (none, ()) else (some false, ()))
  | [], l, b, hl, hb => by
    obtain rfl := Option.some.inj hl
    obtain rfl := Option.some.inj hb
    exact Rd.ret _
  | f :: fs, l, b, hl, hb => by
    unfold flatF at hl
    by_cases hn : f.name ≠ "_"
    · rw [if_pos hn] at hl
      split at hl
      · rename_i tf l' ht hl'
        split at hl
        · rename_i hk
          obtain rfl := Option.some.inj hl
          obtain ⟨tt, h1, h2, h3, h4, h5⟩ := tl_spec ht
          have hag : aggD tt.desc = false := by rw [← agg_kind, h2]; exact hk
          simp only [allEq] at hb
          cases hx : xs[f.offset]? with
          | none => rw [hx] at hb; simp [sEq] at hb
          | some x =>
            cases hy : ys[f.offset]? with
            | none => rw [hy] at hb; simp [sEq] at hb
            | some y =>
              rw [hx, hy, ← h2] at hb
              rw [List.forIn_cons]
              cases hs : sEq (kindD tt.desc) (some x) (some y) with
              | none => rw [hs] at hb; simp at hb
              | some r =>
                rw [hs] at hb
                refine Rd.bind (x := if r then ForInStep.yield (none, ()) else ForInStep.done (some false, ())) ?_ ?_
                · simp only [hn, ne_eq, not_false_eq_true, if_true]
                  refine Rd.bind (rd_int_part h1 hag hx) (Rd.bind (rd_int_part h1 hag hy) (Rd.bind (rd_equal_scalar h1 d hs) ?_))
                  cases r <;> exact Rd.ret _
                · cases r with
                  | true => exact rd_flat_loop d fs l' b hl' hb
                  | false =>
                    obtain rfl := Option.some.inj hb
                    exact Rd.ret _
        · cases hl
      · cases hl
    · rw [if_neg hn] at hl; cases hl
theorem rd_equal_flat {P : Program} {H : Heap} {t : TypeId} {l : List (TK × Nat)} {xs ys : Array Value} {b : Bool} (h : flatS P t = some l) (hb : allEq xs ys l = some b) : Rd P H (Op.equal t (.agg xs) (.agg ys)) b := by
  unfold flatS at h
  split at h
  · cases h
  · rename_i hst
    split at h
    · cases h
    · split at h
      · rename_i ti ht
        split at h
        · rename_i fs hd
          have hu := rd_underlying (H := H) ht
          rw [hd] at hu
          unfold Op.equal Op.maxDepth Op.equalIn
          refine Rd.bind hu ?_
          simp only []
          refine Rd.bind Rd.program ?_
          simp only [hst, Bool.false_eq_true, if_false]
          refine Rd.bind (x := if b then (none, ()) else (some false, ())) ?_ ?_
          · rw [← Array.forIn_toList]
            exact rd_flat_loop 9998 fs.toList l b h hb
          · cases b <;> exact Rd.ret _
        · cases h
      · cases h
theorem binX_flat {P : Program} {op : BinOp} {t : TypeId} {ox oy : Operand} {l : List (TK × Nat)} {xs ys : Array Value} {b : Bool} {H : Heap} {K : Value → Prop} (hs : flatS P t = some l) (hb : allEq xs ys l = some b) :
    (match op with | .eql => K (.bool b) | .neq => K (.bool (!b)) | _ => False) → binX P op t ox oy (.agg xs) (.agg ys) H K := by
  intro hK
  have hq := rd_equal_flat (H := H) hs hb
  have hg : P.eqGuardType P.depth t = false := by
    unfold flatS at hs
    split at hs
    · cases hs
    · split at hs
      · cases hs
      · rename_i h; simpa using h
  have guard : ∀ op, (op = .eql ∨ op = .neq) → Rd P H (eqGuard op t ox oy (.agg xs) (.agg ys)) () := fun op ho => by
    unfold eqGuard
    rcases ho with rfl | rfl
    all_goals
      simp only [Bool.not_true, Bool.false_eq_true, if_false]
      refine Rd.bind Rd.program (Rd.bind Rd.program ?_)
      rw [hg]
      exact Rd.ret _
  unfold binX
  simp only []
  cases op <;> simp only [] at hK <;> first | exact hK.elim | skip
  · exact ⟨_, Rd.bind (guard _ (.inl rfl)) (Rd.bind hq (Rd.ret _)), hK⟩
  · exact ⟨_, Rd.bind (guard _ (.inr rfl)) (Rd.bind hq (Rd.ret _)), hK⟩
end Go.Hp

namespace Go.Hp
open Go
set_option linter.unusedVariables false

def pickN (c n : Int) : Int := (if c < 0 then -(c + 1) else c) % n
theorem pickN_range (c : Int) {n : Int} (hn : 0 < n) : 0 ≤ pickN c n ∧ pickN c n < n := by
  unfold pickN
  exact ⟨Int.emod_nonneg _ (by omega), Int.emod_lt_of_pos _ hn⟩
/-- The slice v reads as xs; what it reads lies in the block B. -/
def Rds (H : Heap) (B : Option Nat) (v : Value) (xs : List Int) : Prop :=
  ∃ a c, v = .slice a xs.length c ∧ ∀ i x, xs[i]? = some x → ∃ b o, B = some b ∧ a = some ⟨b, o, none⟩ ∧ hcell H ⟨b, o + i, none⟩ = some (.int .i64 x)
theorem IR.rds {H : Heap} {B : Option Nat} {v : Value} {xs : List Int} (h : IR H B v xs) : Rds H B v xs := by
  obtain ⟨a, c, hv⟩ := h.slice
  refine ⟨a, c, hv, fun i x hi => ?_⟩
  obtain ⟨g, c', h1, h2, h3⟩ := h.read hi
  rw [hv] at h2
  simp only [Value.slice.injEq] at h2
  exact ⟨g, 0, h1, h2.1, by rw [Nat.zero_add]; exact h3⟩
theorem Rds.frame {S : Nat → Prop} {H H' : Heap} {B : Option Nat} {v : Value} {xs : List Int} (h : Rds H B v xs) (hf : Fr S H H') (hb : ∀ g, B = some g → ¬ S g) : Rds H' B v xs := by
  obtain ⟨a, c, hv, hr⟩ := h
  refine ⟨a, c, hv, fun i x hi => ?_⟩
  obtain ⟨b, o, h1, h2, h3⟩ := hr i x hi
  exact ⟨b, o, h1, h2, by rw [hf.cell (hcell_lt h3) (hb b h1)]; exact h3⟩
theorem Rds.read {H : Heap} {B : Option Nat} {v : Value} {xs : List Int} (h : Rds H B v xs) {i : Nat} {x : Int} (hi : xs[i]? = some x) :
    ∃ b o c, B = some b ∧ v = .slice (some ⟨b, o, none⟩) xs.length c ∧ hcell H ⟨b, o + i, none⟩ = some (.int .i64 x) := by
  obtain ⟨a, c, hv, hr⟩ := h
  obtain ⟨b, o, h1, h2, h3⟩ := hr i x hi
  exact ⟨b, o, c, h1, by rw [hv, h2], h3⟩
theorem Rds.slice {H : Heap} {B : Option Nat} {v : Value} {xs : List Int} (h : Rds H B v xs) : ∃ a c, v = .slice a xs.length c := ⟨_, _, h.choose_spec.choose_spec.1⟩
theorem IR.rowAt {H : Heap} {B : Option Nat} {v : Value} {xs : List Int} (h : IR H B v xs) {i : Nat} (hi : i < xs.length) :
    ∃ g c, B = some g ∧ v = .slice (some ⟨g, 0, none⟩) xs.length c ∧ (∀ k x, xs[k]? = some x → hcell H ⟨g, k, none⟩ = some (.int .i64 x)) ∧ xs.length ≤ c := by
  obtain ⟨g, c, rest, h1, h2, h3, h4, h5⟩ := h.row (by intro e; rw [e] at hi; cases hi)
  refine ⟨g, c, h1, h2, fun k x hk => h3.cellOf ?_, h5⟩
  have hlt := (List.getElem?_eq_some_iff.1 hk).1
  rw [List.getElem?_append_left (by simpa using hlt), List.getElem?_map, hk]
  rfl
/-- What a part of a row reads as. -/
theorem IR.readL {H : Heap} {g n c : Nat} {xs : List Int} (h : IR H (some g) (.slice (some ⟨g, 0, none⟩) n c) xs) {o m : Nat} (hm : o + m ≤ xs.length) :
    readL H ⟨g, o, none⟩ 0 m = some (((xs.drop o).take m).map (Value.int .i64)) := by
  obtain ⟨hl, h | ⟨g', c', rest, h1, h2, h3, h4, h5⟩⟩ := h
  · cases h.1
  · obtain rfl := Option.some.inj h1
    rw [readL_blk h3 m o 0 (by simp; omega), Nat.add_zero, List.drop_append_of_le_length (by simp; omega), List.take_append_of_le_length (by simp; omega), List.map_take, List.map_drop]
/-- append(xs, part of a row..) -/
theorem append_irs {P : Program} {t e : TypeId} {te : TL} {s : Value} {H : Heap} {B : Option Nat} {b o m d : Nat} {xs ys : List Int} {K : Value → Heap → Prop}
    (he : elems P t = some (none, e, 1)) (ht : tl P e = some te) (h : IR H B s xs) (hy : readL H ⟨b, o, none⟩ 0 m = some (ys.map (Value.int .i64))) (hm : ys.length = m) (hb0 : 0 < te.bytes) (hb : 2 * (xs.length + m) * te.bytes ≤ 2 ^ 48) (hz : te.zero.cells.size = 1)
    (hk : ∀ v' H' B', IR H' B' v' (xs ++ ys) → Fr (fun b => B = some b) H H' → (B' = B ∨ ∃ g, B' = some g ∧ H.size ≤ g) → K v' H') : appendX P t s (.slice (some ⟨b, o, none⟩) m d) H K := by
  refine append_own he ht h (.inl ⟨_, _, rfl, by rw [Nat.mul_one]; exact hy⟩) (by intro v hv; obtain ⟨x, _, rfl⟩ := List.mem_map.1 hv; rfl) hb0 hb (by simp [hm]) hz ?_
  intro v' H' B' ho hf hB
  exact hk v' H' B' (by unfold IR; simpa [hm] using ho) hf hB
end Go.Hp

namespace Go.Hp
open Go Go.ChangeShapes Go.WideShapes Go.RowKit
set_option linter.unusedVariables false
section
variable {E : Type} {enc : TypeId × Value → E} {P : Program} {w : World} {base : Nat} {spare : Nat → Bool} {held : Bool}
theorem cells_in {t e : TypeId} {a : Option Addr} {len cap : Nat} {d : DataW E} {p : List MemPlace} (ht : P.underlying t = some (.slice e)) (h : DataW.Trod enc P w base spare held t (.slice a len cap) d p) :
    len ≤ 9223372036854775807 ∧ ∀ i, i < len → ∃ (q : Addr) (cs : List Value) (m : Nat) (y : DataW E × List MemPlace), a = some q ∧ w.cells? base (q.add (i * P.cellsOf e)) (P.cellsOf e) = some cs ∧ DataW.trod enc P w base spare held m e cs = some y := by
  obtain ⟨fuel, hf⟩ := h
  rcases DataW.trod_slice ht hf with ⟨h0, _⟩ | ⟨a', len', cap', elems, rest, n, _, h0, _, hb, hl, hm, hlen, hel, hsp, hns⟩
  · simp [Value.cells] at h0
    obtain ⟨rfl, rfl, rfl⟩ := h0
    exact ⟨by omega, fun i hi => absurd hi (by omega)⟩
  · simp [Value.cells] at h0
    obtain ⟨rfl, rfl, rfl⟩ := h0
    refine ⟨by unfold maxLen at hm; omega, fun i hi => ?_⟩
    have h1 := hel i hi
    rw [List.getElem?_eq_getElem (by omega)] at h1
    obtain ⟨cs, hcs, hy⟩ := Option.bind_eq_some_iff.1 h1
    exact ⟨a', cs, n, _, rfl, hcs, hy⟩
theorem fit_of_wf {n : Int} (h : (Lit.int .i64 n).wf = true) : -9223372036854775808 ≤ n ∧ n ≤ 9223372036854775807 := by
  have hb := bounds_i64 h
  omega
theorem ints_in {t e : TypeId} {a : Option Addr} {len cap : Nat} {d : DataW E} {p : List MemPlace} (ht : P.underlying t = some (.slice e)) (he : P.underlying e = some (.int .i64)) (hc : P.cellsOf e = 1) (h : DataW.Trod enc P w base spare held t (.slice a len cap) d p) :
    len ≤ 9223372036854775807 ∧ ∃ zs, InInts w.heap a len zs := by
  obtain ⟨hl, hi⟩ := cells_in ht h
  refine ⟨hl, ?_⟩
  have each : ∀ i, i < len → ∃ (q : Addr) (n : Int), a = some q ∧ w.cell? (q.add i) = some (.int .i64 n) ∧ (Lit.int .i64 n).wf = true := fun i hlt => by
    obtain ⟨q, cs, m, y, h1, h2, h3⟩ := hi i hlt
    obtain ⟨n, rfl, _, hw⟩ := DataW.trod_int he h3
    rw [hc, Nat.mul_one] at h2
    obtain ⟨_, _, h4⟩ := World.cells?_some h2
    refine ⟨q, n, h1, ?_, hw⟩
    have := h4 0 (by omega)
    simpa [Addr.add] using this
  refine ⟨fun i => if h : i < len then (each i h).choose_spec.choose else 0, fun i hlt => ?_⟩
  have e := (each i hlt).choose_spec.choose_spec
  refine ⟨_, e.1, ?_, ?_⟩
  · simp only [hlt, dif_pos]
    exact e.2.1
  · simp only [hlt, dif_pos]
    exact fit_of_wf e.2.2
/-- A field of one cell of an element that came in. -/
theorem field_in {e : TypeId} {fs : Array Field} {q : Addr} {n : Nat} {cs : List Value} {m : Nat} {y : DataW E × List MemPlace} (he : P.underlying e = some (.struct fs)) (h2 : w.cells? base q n = some cs) (h3 : DataW.trod enc P w base spare held m e cs = some y)
    (i : Nat) {f : Field} (hf : fs[i]? = some f) (hc : P.cellsOf f.type = 1) (ho : f.offset < n) :
    ∃ (v : Value) (z : DataW E × List MemPlace) (m' : Nat), w.cell? (q.add f.offset) = some v ∧ DataW.trod enc P w base spare held m' f.type [v] = some z := by
  obtain ⟨xs, n', _, _, hlen, hxl, hfs⟩ := DataW.trod_struct he h3
  obtain ⟨_, hcl, hcell⟩ := World.cells?_some h2
  have h4 := hfs i f hf
  have hlt : i < fs.size := (Array.getElem?_eq_some_iff.1 hf).1
  rw [hc, List.getElem?_eq_getElem (by omega)] at h4
  have hd : (cs.drop f.offset).take 1 = [cs[f.offset]'(by omega)] := by
    rw [List.drop_eq_getElem_cons (by omega)]; rfl
  rw [hd] at h4
  refine ⟨_, _, n', ?_, h4⟩
  rw [hcell f.offset ho, List.getElem?_eq_getElem (by omega)]
end
theorem add_zero_addr (q : Addr) : q.add 0 = q := rfl
theorem add_succ_addr (q : Addr) (n : Nat) : q.add (n + 1) = ⟨q.block, q.off + (n + 1), none⟩ := by
  unfold Addr.add; rw [if_neg (by omega)]
end Go.Hp
