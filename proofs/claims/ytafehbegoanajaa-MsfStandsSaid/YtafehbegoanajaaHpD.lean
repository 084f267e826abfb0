/-
  Operations that write or make memory; calls; lists of operations; code: over a heap, sound for the model's own.
-/
import Derived.Test.YtafehbegoanajaaHpC
namespace Go.Hp
open Go
set_option linter.unusedVariables false
set_option linter.unusedSimpArgs false

def callable (P : Program) (f : FuncId) : Bool :=
  match P.funcs[f]? with
  | some fn => fn.body.isSome && !(fn.name == "runtime.NumGoroutine")
  | none => false
/-- The function, called in any world with this heap, returns, and K holds of its value and the heap behind it. -/
def CallsH (P : Program) (f : FuncId) (args : Array Value) (H : Heap) (K : Value → Heap → Prop) : Prop :=
  callable P f = true ∧ ∀ w : World, w.heap = H → Calls P f args w (fun e w' => ∃ v, e = .returned v ∧ K v w'.heap ∧ Like w w')
theorem CallsH.mono {P : Program} {f : FuncId} {args : Array Value} {H : Heap} {K K' : Value → Heap → Prop} (h : CallsH P f args H K) (hk : ∀ v H', K v H' → K' v H') : CallsH P f args H K' :=
  ⟨h.1, fun w hw => (h.2 w hw).mono fun _ _ ⟨v, h1, h2, h3⟩ => ⟨v, h1, hk _ _ h2, h3⟩⟩
/-- Fences that let everything in: in a round, or in none. -/
def FW (r : Option Nat) : Fence := { fn := fun _ => True, depth := none, alive := false, round := r }
/-- One round of a loop over a function, begun in any world with this heap, comes to its end: what yield hands back, and the heap behind it, K takes. -/
def RoundH (P : Program) (l : Nat) (f : FuncId) (tmps : Array Value) (assign body : Code) (H : Heap) (K : Value → Heap → Prop) : Prop :=
  ∀ w : World, w.heap = H → RoundIn (FW none) 0 P l f tmps assign body w fun e w' => ∃ v, e = .returned v ∧ K v w'.heap ∧ Like w w'
theorem RoundH.mono {P : Program} {l : Nat} {f : FuncId} {tmps : Array Value} {assign body : Code} {H : Heap} {K K' : Value → Heap → Prop} (h : RoundH P l f tmps assign body H K) (hk : ∀ v H', K v H' → K' v H') : RoundH P l f tmps assign body H K' :=
  fun w hw => (h w hw).mono fun _ _ ⟨v, h1, h2, h3⟩ => ⟨v, h1, hk _ _ h2, h3⟩
def nextHp (P : Program) (K : Value → Heap → Prop) : Next → Heap → Prop
  | .value v, H => K v H
  | .skip, H => K undef H
  | .enter f args, H => CallsH P f args H K
  | .round l f tmps a b, H => RoundH P l f tmps a b H K
  | _, _ => False

def okW (H : Heap) (a : Addr) : Prop := (∃ u, hcell H a = some u) ∧ hfrozen H a = false
def storesX (a : Addr) : Nat → List Value → Heap → (Heap → Prop) → Prop
  | _, [], H, K => K H
  | i, v :: vs, H, K => plainVal v = true ∧ okW H (a.add i) ∧ storesX a (i + 1) vs (hset H (a.add i) v) K
def readL (H : Heap) (a : Addr) : Nat → Nat → Option (List Value)
  | _, 0 => some []
  | i, n + 1 => match hcell H (a.add i), readL H a (i + 1) n with
    | some v, some vs => some (v :: vs)
    | _, _ => none
def repL : Nat → List Value → List Value
  | 0, _ => []
  | n + 1, z => z ++ repL n z
def putL : List Value → Nat → List Value → List Value
  | l, 0, [] => l
  | _ :: l, 0, v :: vs => v :: putL l 0 vs
  | x :: l, n + 1, vs => x :: putL l n vs
  | [], _, _ => []
def fillX (lay : Nat → Option (Nat × Nat)) : List Value → List (Nat × Value) → Option (List Value)
  | cs, [] => some cs
  | cs, (i, v) :: rest => match lay i with
    | none => none
    | some (off, n) => if v.cells.size = n ∧ off + n ≤ cs.length then fillX lay (putL cs off v.cells.toList) rest else none
def buildX (P : Program) (t : TypeId) (parts : List (Nat × Value)) (K : Value → Prop) : Prop :=
  match tl P t with
  | some ti => match ti.kind with
    | .struct => match flay P t with
      | some l => match fillX (fun i => (l[i]?).map fun (o, n, _) => (o, n)) ti.zero.cells.toList parts with
        | some cs => K (.agg cs.toArray)
        | none => False
      | none => False
    | .array => match elems P t with
      | some (_, _, n) => match fillX (fun i => some (i * n, n)) ti.zero.cells.toList parts with
        | some cs => K (.agg cs.toArray)
        | none => False
      | none => False
    | _ => False
  | none => False
def newPtr (H : Heap) : Value := .pointer (some ⟨H.size, 0, none⟩)
def srcX (H : Heap) (sz : Nat) (x : Value) (n : Nat) (new : List Value) : Prop :=
  match x with
  | .slice (some b) n' _ => n' = n ∧ readL H b 0 (n * sz) = some new
  | .slice none n' _ => n' = n ∧ n = 0 ∧ new = []
  | .string s => s.size = n ∧ new = s.data.toList.map fun b => .int .u8 b.toNat
  | _ => False
def appendX (P : Program) (t : TypeId) (s x : Value) (H : Heap) (K : Value → Heap → Prop) : Prop :=
  match elems P t, s with
  | some (none, e, sz), .slice base sLen sCap => match tl P e with
    | some te => ∃ (n : Nat) (new : List Value),
        srcX H sz x n new ∧
        if sLen + n ≤ sCap then
          (match base with
            | some a => storesX (a.add (sLen * sz)) 0 new H fun H' => K (.slice base (sLen + n) sCap) H'
            | none => K (.slice base (sLen + n) sCap) H)
        else ∃ old : List Value,
          (match base with
            | some a => readL H a 0 (sLen * sz) = some old
            | none => old = []) ∧ 0 < te.bytes ∧ 2 * (sLen + n) * te.bytes ≤ 2 ^ 48 ∧
          ∀ c, sLen + n ≤ c → c < 2 ^ 63 → K (.slice (some ⟨H.size, 0, none⟩) (sLen + n) c) (H.push (.cells (old ++ new ++ repL (c - (sLen + n)) te.zero.cells.toList).toArray e))
    | none => False
  | _, _ => False
def isRdOp : Op → Bool
  | .move _ | .assign _ | .pick .. | .load .. | .nilCheck _ | .binOp .. | .unOp .. | .fieldAddr .. | .field .. | .indexAddr .. | .index .. | .slice .. | .extract .. | .makeFunc .. | .convert .. | .lookup .. => true
  | .call { callee := .builtin .len, .. } | .call { callee := .builtin .cap, .. } | .call { callee := .builtin .min, .. } | .call { callee := .builtin .max, .. } => true
  | _ => false
def callX (P : Program) (f : Value) (args : Array Value) (H : Heap) (K : Value → Heap → Prop) : Prop :=
  match f with
  | .func (.func f) first captured => CallsH P f (first ++ args ++ captured) H K
  | .func (.yield l) first _ => semHp P (Instr.yield l (first ++ args)) H (nextHp P K)
  | _ => False
/-- One operation. -/
def opX (P : Program) (o : Oper) (ρ : Operand → Value) (H : Heap) (K : Value → Heap → Prop) : Prop :=
  match isRdOp o.op with
  | true => rdX P o ρ H fun v => K v H
  | false => match o.op with
    | .build t parts => buildX P t (parts.toList.map fun (i, x) => (i, ρ x)) fun v => K v H
    | .store t x y => ptrX (ρ x) fun a => match tl P t with
      | some ti => (ρ y).cells.size = ti.size ∧ storesX a 0 (ρ y).cells.toList H (K undef)
      | none => False
    | .alloc t => match tl P t with
      | some ti => K (newPtr H) (H.push (.cells ti.zero.cells t))
      | none => False
    | .box t x => K (newPtr H) (H.push (.cells (ρ x).cells t))
    | .buildSlice t n parts => match elems P t with
      | some (none, e, sz) => match tl P e with
        | some te => n * sz ≤ 2 ^ 24 ∧ match fillX (fun i => some (i * sz, sz)) (repL n te.zero.cells.toList) (parts.toList.map fun (i, x) => (i, ρ x)) with
          | some cs => K (.slice (some ⟨H.size, 0, none⟩) n n) (H.push (.cells cs.toArray e))
          | none => False
        | none => False
      | _ => False
    | .makeSlice t l c => match elems P t with
      | some (none, e, _) => match tl P e with
        | some te => intX (ρ l) fun _ l => intX (ρ c) fun _ c => 0 ≤ l ∧ l ≤ c ∧ 0 < te.bytes ∧ c.toNat * te.bytes ≤ 281474976710656 ∧
            K (.slice (some ⟨H.size, 0, none⟩) l.toNat c.toNat) (H.push (.cells (repL c.toNat te.zero.cells.toList).toArray e))
        | none => False
      | _ => False
    | .makeMap _ none => K (.map (some H.size)) (H.push (.map #[] 0))
    | .call c => match c.callee with
      | .value f => callX P (ρ f) (c.args.map ρ) H K
      | .builtin .append => match c.args.toList, c.argTypes.toList with
        | [s, x], [t, t'] => t = t' ∧ appendX P t (ρ s) (ρ x) H K
        | _, _ => False
      | _ => semHp P (execOp ρ o) H (nextHp P K)
    | _ => semHp P (execOp ρ o) H (nextHp P K)
theorem hp_val {P : Program} {H : Heap} {s : Sem Value} {K : Value → Heap → Prop} (h : semHp P s H K) : semHp P (do pure (.value (← s)) : Sem Next) H (nextHp P K) := by
  rw [semHp_bind']; exact semHp_mono s _ _ _ (fun _ _ h => h) h
end Go.Hp
