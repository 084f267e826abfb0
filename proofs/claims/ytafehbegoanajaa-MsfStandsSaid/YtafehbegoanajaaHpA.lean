/-
  A plain wp over heaps: the meaning of Sem over a heap alone, sound for every world with that heap.
-/
import Derived.Orders
import Derived.Laws.Sem
import Derived.Deep.Quiet
import Derived.Scope
import Derived.OrdersIn
import Derived.TacticsIn
import Derived.RangeFuncRecord
import Derived.Below
namespace Go.Hp
open Go
set_option linter.unusedVariables false
set_option linter.unusedSimpArgs false

abbrev Heap := Array Obj
abbrev Env := Nat → Value

def hcell (H : Heap) (a : Addr) : Option Value :=
  match H[a.block]? with
  | some (.cells c _ _) => if a.spot.isSome then none else c[a.off]?
  | _ => none
def hfrozen (H : Heap) (a : Addr) : Bool :=
  match H[a.block]? with
  | some (.cells _ _ (lo, hi)) => lo ≤ a.off && a.off < hi
  | _ => false
def hshape (H : Heap) (r : Nat) : Option (TypeId × Nat) :=
  match H[r]? with
  | some (.cells c elem _) => some (elem, c.size)
  | _ => none
def hset (H : Heap) (a : Addr) (v : Value) : Heap :=
  H.modify a.block fun
      | .cells c elem frozen => .cells (if a.spot.isSome then c else c.setIfInBounds a.off v) elem frozen
      | o => o
def hfreeze (H : Heap) (a : Addr) (n : Nat) : Heap :=
  if n = 0 then H else
  H.modify a.block fun
      | .cells c elem (lo, hi) => .cells c elem (if lo == hi then (a.off, a.off + n) else (min lo a.off, max hi (a.off + n)))
      | o => o
def plainVal : Value → Bool
  | .agg _ | .tuple _ => false
  | _ => true
def isCells : Obj → Bool
  | .cells .. => true
  | _ => false

structure Like (w w' : World) : Prop where
  os : w'.os = w.os
  tape : w'.tape = w.tape
  output : w'.output = w.output
theorem Like.refl (w : World) : Like w w := ⟨rfl, rfl, rfl⟩
theorem Like.trans {a b c : World} (h : Like a b) (k : Like b c) : Like a c := ⟨k.os.trans h.os, k.tape.trans h.tape, k.output.trans h.output⟩

theorem cell_eq (w : World) (a : Addr) : w.cell? a = hcell w.heap a := rfl
theorem frozen_eq (w : World) (a : Addr) : w.frozen? a = hfrozen w.heap a := rfl
theorem shape_eq (w : World) (r : Nat) : w.shape? r = hshape w.heap r := rfl
theorem set_eq (w : World) (a : Addr) (v : Value) : (w.setCell a v).heap = hset w.heap a v := rfl
theorem freeze_eq (w : World) (a : Addr) (n : Nat) : (w.freeze a n).heap = hfreeze w.heap a n := by
  unfold World.freeze hfreeze
  split <;> rfl
theorem freeze_like (w : World) (a : Addr) (n : Nat) : Like w (w.freeze a n) := by
  unfold World.freeze
  split <;> exact ⟨rfl, rfl, rfl⟩

/-- The wp of a Sem over a heap. -/
def semHp (P : Program) {α : Type} : Sem α → Heap → (α → Heap → Prop) → Prop
  | .pure a, H, K => K a H
  | .load _ a k, H, K => ∃ v, hcell H a = some v ∧ semHp P (k v) H K
  | .store _ a v k, H, K => plainVal v = true ∧ (∃ u, hcell H a = some u) ∧ hfrozen H a = false ∧ semHp P k (hset H a v) K
  | .new o k, H, K => semHp P (k H.size) (H.push o) K
  | .shape r k, H, K => semHp P (k (hshape H r)) H K
  | .freeze a n k, H, K => semHp P k (hfreeze H a n) K
  | .frozen a k, H, K => semHp P (k (hfrozen H a)) H K
  | .getObj r k, H, K => ∃ o, H[r]? = some o ∧ isCells o = false ∧ semHp P (k o) H K
  | .setObj r o k, H, K => (∃ o', H[r]? = some o' ∧ isCells o' = false) ∧ semHp P k (H.setIfInBounds r o) K
  | .choose q k, H, K => if q.forced then semHp P (k 0) H K else ∀ t, semHp P (k (q.cut t)) H K
  | .sys _ _, _, _ => False
  | .program k, H, K => semHp P (k P) H K
  | .mark _ k, H, K => semHp P k H K
  | .halt _, _, _ => False

theorem semHp_run {P : Program} {α : Type} (s : Sem α) : ∀ (w : World) (K : α → Heap → Prop), semHp P s w.heap K →
    ∃ x w', s.run P w = .ok x w' ∧ K x w'.heap ∧ Like w w' := by
  induction s with
  | pure a => exact fun w K h => ⟨a, w, rfl, h, .refl w⟩
  | load m a k ih =>
    rintro w K ⟨v, hv, h⟩
    obtain ⟨x, w', h1, h2, h3⟩ := ih v w K h
    exact ⟨x, w', by simp only [Sem.run, cell_eq, hv, h1], h2, h3⟩
  | store m a v k ih =>
    rintro w K ⟨hp, ⟨u, hu⟩, hf, h⟩
    obtain ⟨x, w', h1, h2, h3⟩ := ih (w.setCell a v) K h
    refine ⟨x, w', ?_, h2, (show Like w (w.setCell a v) from ⟨rfl, rfl, rfl⟩).trans h3⟩
    cases v <;> first | (simp [plainVal] at hp; done) | (simp only [Sem.run, cell_eq, hu, frozen_eq, hf]; exact h1)
  | new o k ih =>
    intro w K h
    obtain ⟨x, w', h1, h2, h3⟩ := ih w.heap.size { w with heap := w.heap.push o } K h
    exact ⟨x, w', by simp only [Sem.run]; exact h1, h2, (show Like w { w with heap := w.heap.push o } from ⟨rfl, rfl, rfl⟩).trans h3⟩
  | shape r k ih =>
    intro w K h
    obtain ⟨x, w', h1, h2, h3⟩ := ih (hshape w.heap r) w K h
    exact ⟨x, w', by simp only [Sem.run, shape_eq]; exact h1, h2, h3⟩
  | freeze a n k ih =>
    intro w K h
    obtain ⟨x, w', h1, h2, h3⟩ := ih (w.freeze a n) K (by rw [freeze_eq]; exact h)
    exact ⟨x, w', by simp only [Sem.run]; exact h1, h2, (freeze_like w a n).trans h3⟩
  | frozen a k ih =>
    intro w K h
    obtain ⟨x, w', h1, h2, h3⟩ := ih (hfrozen w.heap a) w K h
    exact ⟨x, w', by simp only [Sem.run, frozen_eq]; exact h1, h2, h3⟩
  | getObj r k ih =>
    rintro w K ⟨o, ho, hc, h⟩
    obtain ⟨x, w', h1, h2, h3⟩ := ih o w K h
    refine ⟨x, w', ?_, h2, h3⟩
    cases o <;> first | (simp [isCells] at hc; done) | (simp only [Sem.run, ho]; exact h1)
  | setObj r o k ih =>
    rintro w K ⟨⟨o', ho, hc⟩, h⟩
    obtain ⟨x, w', h1, h2, h3⟩ := ih { w with heap := w.heap.setIfInBounds r o } K h
    refine ⟨x, w', ?_, h2, (show Like w { w with heap := w.heap.setIfInBounds r o } from ⟨rfl, rfl, rfl⟩).trans h3⟩
    cases o' <;> first | (simp [isCells] at hc; done) | (simp only [Sem.run, ho]; exact h1)
  | choose q k ih =>
    intro w K h
    unfold semHp at h
    by_cases hq : q.forced = true
    · rw [if_pos hq] at h
      obtain ⟨x, w', h1, h2, h3⟩ := ih 0 w K h
      exact ⟨x, w', by simp only [Sem.run, hq, if_true]; exact h1, h2, h3⟩
    · rw [if_neg hq] at h
      obtain ⟨x, w', h1, h2, h3⟩ := ih _ { w with drawn := w.drawn + 1 } K (h (w.tape w.drawn q))
      exact ⟨x, w', by simp only [Sem.run]; rw [if_neg hq]; exact h1, h2, (show Like w { w with drawn := w.drawn + 1 } from ⟨rfl, rfl, rfl⟩).trans h3⟩
  | sys c k ih => exact fun w K h => h.elim
  | program k ih =>
    intro w K h
    obtain ⟨x, w', h1, h2, h3⟩ := ih P w K h
    exact ⟨x, w', by simp only [Sem.run]; exact h1, h2, h3⟩
  | mark m k ih =>
    intro w K h
    obtain ⟨x, w', h1, h2, h3⟩ := ih w K h
    exact ⟨x, w', by simp only [Sem.run]; exact h1, h2, h3⟩
  | halt h => exact fun w K h => h.elim

theorem semHp_bind {P : Program} {α β : Type} (s : Sem α) (f : α → Sem β) : ∀ (H : Heap) (K : β → Heap → Prop),
    semHp P (s.bind f) H K = semHp P s H (fun a H' => semHp P (f a) H' K) := by
  induction s <;> intro H K <;> simp only [Sem.bind, semHp, *]
theorem semHp_bind' {P : Program} {α β : Type} (s : Sem α) (f : α → Sem β) (H : Heap) (K : β → Heap → Prop) :
    semHp P (s >>= f) H K = semHp P s H (fun a H' => semHp P (f a) H' K) := semHp_bind s f H K
theorem semHp_pure {P : Program} {α : Type} (a : α) (H : Heap) (K : α → Heap → Prop) : semHp P (Pure.pure a : Sem α) H K = K a H := rfl
theorem semHp_mono {P : Program} {α : Type} (s : Sem α) : ∀ (H : Heap) (K K' : α → Heap → Prop), (∀ a H, K a H → K' a H) → semHp P s H K → semHp P s H K' := by
  induction s <;> intro H K K' hk h <;> simp only [semHp] at h ⊢
  case pure => exact hk _ _ h
  case load ih => exact h.imp fun v hv => ⟨hv.1, ih v H K K' hk hv.2⟩
  case store ih => exact ⟨h.1, h.2.1, h.2.2.1, ih _ K K' hk h.2.2.2⟩
  case getObj ih => exact h.imp fun v hv => ⟨hv.1, hv.2.1, ih v H K K' hk hv.2.2⟩
  case setObj ih => exact ⟨h.1, ih _ K K' hk h.2⟩
  case choose q k ih =>
    split at h
    · rw [if_pos ‹_›]; exact ih _ H K K' hk h
    · rw [if_neg ‹_›]; exact fun t => ih _ H K K' hk (h t)
  all_goals first | (rename_i ih; exact ih _ _ _ _ hk h) | (rename_i ih; exact ih _ _ _ hk h) | exact h

/-- s only reads, and hands back x. -/
def Rd (P : Program) (H : Heap) {α : Type} : Sem α → α → Prop
  | .pure a, x => a = x
  | .load _ a k, x => ∃ v, hcell H a = some v ∧ Rd P H (k v) x
  | .getObj r k, x => ∃ o, H[r]? = some o ∧ isCells o = false ∧ Rd P H (k o) x
  | .shape r k, x => r < H.size ∧ Rd P H (k (hshape H r)) x
  | .frozen a k, x => a.block < H.size ∧ Rd P H (k (hfrozen H a)) x
  | .program k, x => Rd P H (k P) x
  | .mark _ k, x => Rd P H k x
  | _, _ => False
theorem Rd.run {P : Program} {H : Heap} {α : Type} {s : Sem α} {x : α} : Rd P H s x → ∀ w : World, w.heap = H → s.run P w = .ok x w := by
  induction s with
  | pure a => intro h w _; rw [show a = x from h]; rfl
  | load m a k ih =>
    rintro ⟨v, hv, h⟩ w hw
    simp only [Sem.run, cell_eq, hw, hv]
    exact ih v h w hw
  | getObj r k ih =>
    rintro ⟨o, ho, hc, h⟩ w hw
    have := ih o h w hw
    subst hw
    cases o <;> first | (simp [isCells] at hc; done) | (simp only [Sem.run, ho]; exact this)
  | shape r k ih =>
    rintro ⟨_, h⟩ w hw
    simp only [Sem.run, shape_eq, hw]
    exact ih _ h w hw
  | frozen a k ih =>
    rintro ⟨_, h⟩ w hw
    simp only [Sem.run, frozen_eq, hw]
    exact ih _ h w hw
  | program k ih => intro h w hw; simp only [Sem.run]; exact ih P h w hw
  | mark m k ih => intro h w hw; simp only [Sem.run]; exact ih h w hw
  | _ => intro h; exact h.elim
theorem Rd.bind {P : Program} {H : Heap} {α β : Type} {s : Sem α} {f : α → Sem β} {x : α} {y : β} : Rd P H s x → Rd P H (f x) y → Rd P H (s >>= f) y := by
  intro h k
  show Rd P H (s.bind f) y
  induction s with
  | pure a => rw [show a = x from h]; exact k
  | load m a c ih => obtain ⟨v, hv, h⟩ := h; exact ⟨v, hv, ih v h⟩
  | getObj r c ih => obtain ⟨o, ho, hc, h⟩ := h; exact ⟨o, ho, hc, ih o h⟩
  | shape r c ih => exact ⟨h.1, ih _ h.2⟩
  | frozen a c ih => exact ⟨h.1, ih _ h.2⟩
  | program c ih => exact ih P h
  | mark m c ih => exact ih h
  | _ => exact h.elim
theorem Rd.ret {P : Program} {H : Heap} {α : Type} (x : α) : Rd P H (Pure.pure x : Sem α) x := rfl
theorem Rd.ret' {P : Program} {H : Heap} {α : Type} {x y : α} (h : x = y) : Rd P H (Pure.pure x : Sem α) y := h
theorem Rd.load {P : Program} {H : Heap} {a : Addr} {v : Value} (h : hcell H a = some v) : Rd P H (load a) v := ⟨v, h, rfl⟩
theorem Rd.program {P : Program} {H : Heap} : Rd P H Go.program P := rfl
theorem Rd.getObj {P : Program} {H : Heap} {r : Nat} {o : Obj} (h : H[r]? = some o) (hc : isCells o = false) : Rd P H (getObj r) o := ⟨o, h, hc, rfl⟩
/-- What is read of old blocks reads the same where there are more. -/
theorem Rd.more {P : Program} {H H' : Heap} (hs : H.size ≤ H'.size) (hb : ∀ b, b < H.size → H'[b]? = H[b]?) {α : Type} {s : Sem α} {x : α} : Rd P H s x → Rd P H' s x := by
  have lt : ∀ (b : Nat) (o : Obj), H[b]? = some o → b < H.size := fun b o h => by
    rcases Nat.lt_or_ge b H.size with h' | h'
    · exact h'
    · rw [Array.getElem?_eq_none h'] at h; cases h
  induction s with
  | pure a => exact id
  | load m a c ih =>
    rintro ⟨v, hv, h⟩
    refine ⟨v, ?_, ih v h⟩
    unfold hcell at hv ⊢
    rw [hb a.block]
    · exact hv
    · cases ho : H[a.block]? with
      | none => rw [ho] at hv; cases hv
      | some o => exact lt _ _ ho
  | getObj r c ih => rintro ⟨o, ho, hc, h⟩; exact ⟨o, by rw [hb r (lt _ _ ho)]; exact ho, hc, ih o h⟩
  | shape r c ih =>
    rintro ⟨hr, h⟩
    refine ⟨by omega, ?_⟩
    have : hshape H' r = hshape H r := by unfold hshape; rw [hb r hr]
    rw [this]; exact ih _ h
  | frozen a c ih =>
    rintro ⟨hr, h⟩
    refine ⟨by omega, ?_⟩
    have : hfrozen H' a = hfrozen H a := by unfold hfrozen; rw [hb _ hr]
    rw [this]; exact ih _ h
  | program c ih => exact fun h => ih P h
  | mark m c ih => exact fun h => ih h
  | _ => exact fun h => h.elim
end Go.Hp
