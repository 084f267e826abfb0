/-
  The meaning of single operations over a heap, typed; sound for the model's own.
-/
import Derived.Test.YtafehbegoanajaaHpA
namespace Go.Hp
open Go
set_option linter.unusedVariables false
set_option linter.unusedSimpArgs false

structure TI where
  desc : TypeDesc
  size : Nat
  bytes : Nat
  zero : Value

/-- What the program's table says of a type. -/
def tab (P : Program) (t : TypeId) : Option TI :=
  match P.info? t, P.underlying t with
  | some i, some d => match i.zero with
    | some z => if z.cells.size = i.size then some ⟨d, i.size, i.bytes, z⟩ else none
    | none => none
  | _, _ => none
theorem tab_spec {P : Program} {t : TypeId} {ti : TI} (h : tab P t = some ti) :
    ∃ i, P.info? t = some i ∧ P.underlying t = some ti.desc ∧ i.zero = some ti.zero ∧ i.size = ti.size ∧ i.bytes = ti.bytes ∧ ti.zero.cells.size = ti.size := by
  unfold tab at h
  split at h
  · rename_i i d hi hd
    split at h
    · rename_i z hz
      split at h
      · rename_i hs
        obtain rfl := Option.some.inj h
        exact ⟨i, hi, hd, hz, rfl, rfl, hs⟩
      · cases h
    · cases h
  · cases h
section
variable {P : Program} {H : Heap} {t : TypeId} {ti : TI}
theorem rd_typeInfo {i : TypeInfo} (h : P.info? t = some i) : Rd P H (typeInfo t) i := Rd.bind Rd.program (by rw [h]; exact Rd.ret i)
theorem rd_underlying (h : tab P t = some ti) : Rd P H (underlying t) ti.desc := by
  obtain ⟨i, h1, h2, h3, h4, h5, h6⟩ := tab_spec h
  exact Rd.bind Rd.program (by rw [h2]; exact Rd.ret _)
theorem rd_sizeOf (h : tab P t = some ti) : Rd P H (sizeOf t) ti.size := by
  obtain ⟨i, h1, h2, h3, h4, h5, h6⟩ := tab_spec h
  exact Rd.bind (rd_typeInfo h1) (Rd.ret' h4)
theorem rd_zeroValue (h : tab P t = some ti) : Rd P H (zeroValue t) ti.zero := by
  obtain ⟨i, h1, h2, h3, h4, h5, h6⟩ := tab_spec h
  exact Rd.bind (rd_typeInfo h1) (by rw [h3]; exact Rd.ret _)
def aggD : TypeDesc → Bool
  | .struct _ | .array _ _ => true
  | _ => false
theorem rd_isAgg (h : tab P t = some ti) : Rd P H (isAgg t) (aggD ti.desc) :=
  Rd.bind (rd_underlying h) (by cases ti.desc <;> exact Rd.ret _)
theorem hp_of_rd {α : Type} {s : Sem α} {x : α} {K : α → Heap → Prop} (h : ∀ K', K' x H → semHp P s H K') (k : K x H) : semHp P s H K := h K k
theorem hp_underlying (h : tab P t = some ti) {K : TypeDesc → Heap → Prop} : semHp P (underlying t) H K = K ti.desc H := by
  obtain ⟨i, h1, h2, h3, h4, h5, h6⟩ := tab_spec h
  simp only [underlying, semHp_bind', Go.program, semHp, h2, semHp_pure]
theorem hp_typeInfo {i : TypeInfo} (h : P.info? t = some i) {K : TypeInfo → Heap → Prop} : semHp P (typeInfo t) H K = K i H := by
  simp only [typeInfo, semHp_bind', Go.program, semHp, h, semHp_pure]
theorem hp_sizeOf (h : tab P t = some ti) {K : Nat → Heap → Prop} : semHp P (sizeOf t) H K = K ti.size H := by
  obtain ⟨i, h1, h2, h3, h4, h5, h6⟩ := tab_spec h
  simp only [sizeOf, semHp_bind', hp_typeInfo h1, semHp_pure, h4]
theorem hp_zeroValue (h : tab P t = some ti) {K : Value → Heap → Prop} : semHp P (zeroValue t) H K = K ti.zero H := by
  obtain ⟨i, h1, h2, h3, h4, h5, h6⟩ := tab_spec h
  simp only [zeroValue, semHp_bind', hp_typeInfo h1, semHp_pure, h3]
theorem hp_isAgg (h : tab P t = some ti) {K : Bool → Heap → Prop} : semHp P (isAgg t) H K = K (aggD ti.desc) H := by
  simp only [isAgg, semHp_bind', hp_underlying h]
  cases ti.desc <;> rfl
end

/-- The light side of a type: its kind, sizes, and zero. -/
inductive TK where
  | int (k : IntKind) | bool | string | ptr | slice | map | struct | array | other
  deriving DecidableEq
def kindD : TypeDesc → TK
  | .int k => .int k
  | .bool => .bool
  | .string => .string
  | .pointer _ => .ptr
  | .slice _ => .slice
  | .map _ _ => .map
  | .struct _ => .struct
  | .array _ _ => .array
  | _ => .other
def TK.agg : TK → Bool
  | .struct | .array => true
  | _ => false
structure TL where
  kind : TK
  size : Nat
  bytes : Nat
  zero : Value
def tl (P : Program) (t : TypeId) : Option TL := (tab P t).map fun ti => ⟨kindD ti.desc, ti.size, ti.bytes, ti.zero⟩
theorem agg_kind (d : TypeDesc) : (kindD d).agg = aggD d := by cases d <;> rfl
theorem tl_spec {P : Program} {t : TypeId} {ti : TL} (h : tl P t = some ti) : ∃ tt, tab P t = some tt ∧ kindD tt.desc = ti.kind ∧ tt.size = ti.size ∧ tt.bytes = ti.bytes ∧ tt.zero = ti.zero := by
  unfold tl at h
  cases ht : tab P t with
  | none => rw [ht] at h; cases h
  | some tt =>
    rw [ht] at h
    obtain rfl := Option.some.inj h
    exact ⟨tt, rfl, rfl, rfl, rfl, rfl⟩
/-! ### Loads -/
def cellX (z : Value) (H : Heap) (a : Addr) (K : Value → Prop) : Prop :=
  match z with
  | .int k _ => ∃ n, hcell H a = some (.int k n) ∧ K (.int k n)
  | .bool _ => ∃ b, hcell H a = some (.bool b) ∧ K (.bool b)
  | .string _ => ∃ s, hcell H a = some (.string s) ∧ K (.string s)
  | .pointer _ => ∃ p, hcell H a = some (.pointer p) ∧ K (.pointer p)
  | .slice _ _ _ => ∃ p n c, hcell H a = some (.slice p n c) ∧ K (.slice p n c)
  | .map _ => ∃ r, hcell H a = some (.map r) ∧ K (.map r)
  | _ => ∃ v, hcell H a = some v ∧ K v
theorem cellX_some {z : Value} {H : Heap} {a : Addr} {K : Value → Prop} (h : cellX z H a K) : ∃ v, hcell H a = some v ∧ K v := by
  cases z <;> simp only [cellX] at h <;> first | exact h | (obtain ⟨_, h1, h2⟩ := h; exact ⟨_, h1, h2⟩) | (obtain ⟨_, _, _, h1, h2⟩ := h; exact ⟨_, h1, h2⟩)
def cellsX (H : Heap) (a : Addr) : Nat → List Value → (List Value → Prop) → Prop
  | _, [], K => K []
  | i, z :: zs, K => cellX z H (a.add i) fun v => cellsX H a (i + 1) zs fun vs => K (v :: vs)
theorem cellsX_some {H : Heap} {a : Addr} : ∀ (zs : List Value) (i : Nat) (K : List Value → Prop), cellsX H a i zs K →
    ∃ vs, vs.length = zs.length ∧ (∀ j, j < zs.length → hcell H (a.add (i + j)) = vs[j]?) ∧ K vs
  | [], i, K, h => ⟨[], rfl, fun j hj => absurd hj (by simp), h⟩
  | z :: zs, i, K, h => by
    obtain ⟨v, h1, h2⟩ := cellX_some h
    obtain ⟨vs, h3, h4, h5⟩ := cellsX_some zs (i + 1) _ h2
    refine ⟨v :: vs, by simp [h3], fun j hj => ?_, h5⟩
    cases j with
    | zero => simpa using h1
    | succ j =>
      have := h4 j (by simpa using hj)
      rw [show i + (j + 1) = i + 1 + j by omega]
      simpa using this
def bigRow : Nat := 12
def loadX (ti : TL) (H : Heap) (a : Addr) (K : Value → Prop) : Prop :=
  match ti.kind.agg with
  | true => if ti.size ≤ bigRow then cellsX H a 0 ti.zero.cells.toList fun vs => K (.agg vs.toArray)
    else ∃ vs : List Value, vs.length = ti.size ∧ (∀ j, j < ti.size → hcell H (a.add j) = vs[j]?) ∧ K (.agg vs.toArray)
  | false => cellX ti.zero H a K
theorem rd_loadCellsFrom {P : Program} {H : Heap} {a : Addr} : ∀ (n i : Nat) (vs acc : List Value), vs.length = n → (∀ j, j < n → hcell H (a.add (i + j)) = vs[j]?) →
    Rd P H (loadCellsFrom a i n acc.toArray) (acc ++ vs).toArray
  | 0, i, vs, acc, hl, _ => by
    obtain rfl : vs = [] := List.length_eq_zero_iff.1 hl
    rw [List.append_nil]
    exact Rd.ret _
  | n + 1, i, v :: vs, acc, hl, h => by
    have h0 := h 0 (by omega)
    refine Rd.bind (Rd.load (v := v) (by simpa using h0)) ?_
    have := rd_loadCellsFrom (P := P) n (i + 1) vs (acc ++ [v]) (by simpa using hl) (fun j hj => by
      have := h (j + 1) (by omega)
      rw [show i + 1 + j = i + (j + 1) by omega]; simpa using this)
    simpa using this
theorem rd_loadVar {P : Program} {H : Heap} {t : TypeId} {ti : TL} (hl : tl P t = some ti) {a : Addr} {K : Value → Prop} (h : loadX ti H a K) :
    ∃ v, K v ∧ Rd P H (loadVar t a) v := by
  obtain ⟨tt, ht, hk, hs, hb, hz0⟩ := tl_spec hl
  have hz := (tab_spec ht).choose_spec.2.2.2.2.2
  unfold loadX at h
  rw [← hk, agg_kind, ← hs, ← hz0] at h
  cases hag : aggD tt.desc <;> rw [hag] at h <;> simp only at h
  · obtain ⟨v, h1, h2⟩ := cellX_some h
    exact ⟨v, h2, Rd.bind (rd_isAgg ht) (by rw [hag]; exact Rd.load h1)⟩
  · have key : ∃ vs : List Value, vs.length = tt.size ∧ (∀ j, j < tt.size → hcell H (a.add j) = vs[j]?) ∧ K (.agg vs.toArray) := by
      split at h
      · obtain ⟨vs, h1, h2, h3⟩ := cellsX_some _ _ _ h
        have hl : tt.zero.cells.toList.length = tt.size := by rw [Array.length_toList, hz]
        rw [hl] at h1 h2
        exact ⟨vs, h1, fun j hj => by simpa using h2 j hj, h3⟩
      · exact h
    obtain ⟨vs, h1, h2, h3⟩ := key
    refine ⟨_, h3, Rd.bind (rd_isAgg ht) ?_⟩
    rw [hag]
    refine Rd.bind (rd_sizeOf ht) (Rd.bind ?_ (Rd.ret _))
    have := rd_loadCellsFrom (P := P) (H := H) (a := a) tt.size 0 vs [] h1 (by simpa using h2)
    simpa [loadCells] using this

/-! ### Reading operations -/
def ptrX (v : Value) (K : Addr → Prop) : Prop := match v with | .pointer p => ∃ a, p = some a ∧ K a | _ => False
def intX (v : Value) (K : IntKind → Int → Prop) : Prop := match v with | .int k n => K k n | _ => False
def boolX (v : Value) (K : Bool → Prop) : Prop := match v with | .bool b => K b | _ => False
theorem ptrX_some {a : Addr} {K : Addr → Prop} : ptrX (.pointer (some a)) K = K a := by simp [ptrX]

/-- A struct's fields: where each lies, how many cells it has, whether it is a struct or an array. -/
def layOf (P : Program) : List Field → Option (List (Nat × Nat × Bool))
  | [] => some []
  | f :: fs => match tab P f.type, layOf P fs with
    | some tf, some l => some ((f.offset, tf.size, aggD tf.desc) :: l)
    | _, _ => none
def flay (P : Program) (s : TypeId) : Option (List (Nat × Nat × Bool)) :=
  match tab P s with
  | some ti => match ti.desc with
    | .struct fs => layOf P fs.toList
    | _ => none
  | none => none
theorem layOf_get {P : Program} : ∀ {fs : List Field} {l : List (Nat × Nat × Bool)} {i : Nat} {o n : Nat} {b : Bool}, layOf P fs = some l → l[i]? = some (o, n, b) →
    ∃ f tf, fs[i]? = some f ∧ tab P f.type = some tf ∧ f.offset = o ∧ tf.size = n ∧ aggD tf.desc = b
  | [], l, i, o, n, b, hl, h => by
    obtain rfl := Option.some.inj hl
    cases h
  | f :: fs, l, i, o, n, b, hl, h => by
    unfold layOf at hl
    split at hl
    · rename_i tf l' ht hl'
      obtain rfl := Option.some.inj hl
      cases i with
      | zero =>
        simp only [List.getElem?_cons_zero, Option.some.injEq, Prod.mk.injEq] at h
        exact ⟨f, tf, rfl, ht, h.1, h.2.1, h.2.2⟩
      | succ i =>
        obtain ⟨f', tf', h1, h2⟩ := layOf_get (i := i) hl' (by simpa using h)
        exact ⟨f', tf', by simpa using h1, h2⟩
    · cases hl
theorem flay_get {P : Program} {s : TypeId} {l : List (Nat × Nat × Bool)} {i : Nat} {o n : Nat} {b : Bool} (h : flay P s = some l) (hi : l[i]? = some (o, n, b)) :
    ∃ ti fs f tf, tab P s = some ti ∧ ti.desc = .struct fs ∧ fs[i]? = some f ∧ tab P f.type = some tf ∧ f.offset = o ∧ tf.size = n ∧ aggD tf.desc = b := by
  unfold flay at h
  split at h
  · rename_i ti ht
    split at h
    · rename_i fs hd
      obtain ⟨f, tf, h1, h2, h3, h4, h5⟩ := layOf_get h hi
      exact ⟨ti, fs, f, tf, ht, hd, by simpa using h1, h2, h3, h4, h5⟩
    · cases h
  · cases h
/-- A slice's or an array's elements: how many there are (of an array), how many cells each has. -/
def elems (P : Program) (t : TypeId) : Option (Option Nat × TypeId × Nat) :=
  match tab P t with
  | some ti => match ti.desc with
    | .slice e => match tab P e with | some te => some (none, e, te.size) | none => none
    | .array n e => match tab P e with | some te => some (some n, e, te.size) | none => none
    | _ => none
  | none => none
def bitAnd (k : IntKind) (a b : Int) : Int := k.wrap (BitVec.ofInt k.bits a &&& BitVec.ofInt k.bits b).toNat
def bitOr (k : IntKind) (a b : Int) : Int := k.wrap (BitVec.ofInt k.bits a ||| BitVec.ofInt k.bits b).toNat
def bitXor (k : IntKind) (a b : Int) : Int := k.wrap (BitVec.ofInt k.bits a ^^^ BitVec.ofInt k.bits b).toNat
def bitAndNot (k : IntKind) (a b : Int) : Int := k.wrap (BitVec.ofInt k.bits a &&& ~~~ BitVec.ofInt k.bits b).toNat
def intBin (op : BinOp) (k : IntKind) (a b : Int) (K : Value → Prop) : Prop :=
  match op with
  | .add => K (.int k (k.wrap (a + b)))
  | .sub => K (.int k (k.wrap (a - b)))
  | .mul => K (.int k (k.wrap (a * b)))
  | .quo => b ≠ 0 ∧ K (.int k (k.wrap (a.tdiv b)))
  | .rem => b ≠ 0 ∧ K (.int k (a.tmod b))
  | .and => K (.int k (bitAnd k a b))
  | .or => K (.int k (bitOr k a b))
  | .xor => K (.int k (bitXor k a b))
  | .andNot => K (.int k (bitAndNot k a b))
  | .eql => K (.bool (a == b))
  | .neq => K (.bool (a != b))
  | .lss => K (.bool (a < b))
  | .leq => K (.bool (a ≤ b))
  | .gtr => K (.bool (a > b))
  | .geq => K (.bool (a ≥ b))
  | _ => False
def strBin (op : BinOp) (x y : ByteArray) (K : Value → Prop) : Prop :=
  match op with
  | .add => ((x.size + y.size : Nat) : Int) ≤ IntKind.i64.max ∧ K (.string (x ++ y))
  | .eql => K (.bool (x.toList == y.toList))
  | .neq => K (.bool (!(x.toList == y.toList)))
  | .lss => K (.bool (Op.bytesLess x.toList y.toList))
  | .leq => K (.bool (Op.bytesLess x.toList y.toList || x.toList == y.toList))
  | .gtr => K (.bool (!(Op.bytesLess x.toList y.toList || x.toList == y.toList)))
  | .geq => K (.bool (!(Op.bytesLess x.toList y.toList)))
  | _ => False
def isPtr (P : Program) (t : TypeId) : Bool := match tl P t with | some ti => ti.kind == .ptr | none => false
def isBool (P : Program) (t : TypeId) : Bool := match tl P t with | some ti => ti.kind == .bool | none => false
def isSlice (P : Program) (t : TypeId) : Bool := match tl P t with | some ti => ti.kind == .slice | none => false
def isString (P : Program) (t : TypeId) : Bool := match tl P t with | some ti => ti.kind == .string | none => false
theorem kind_ptr {P : Program} {t : TypeId} (h : isPtr P t = true) : ∃ ti e, tab P t = some ti ∧ ti.desc = .pointer e := by
  unfold isPtr at h
  split at h
  · rename_i ti hl
    obtain ⟨tt, ht, hk, _⟩ := tl_spec hl
    rw [← hk] at h
    cases hd : tt.desc <;> rw [hd] at h <;> simp [kindD] at h
    exact ⟨tt, _, ht, hd⟩
  · cases h
theorem kind_bool {P : Program} {t : TypeId} (h : isBool P t = true) : ∃ ti, tab P t = some ti ∧ ti.desc = .bool := by
  unfold isBool at h
  split at h
  · rename_i ti hl
    obtain ⟨tt, ht, hk, _⟩ := tl_spec hl
    rw [← hk] at h
    cases hd : tt.desc <;> rw [hd] at h <;> simp [kindD] at h
    exact ⟨tt, ht, hd⟩
  · cases h
theorem kind_slice {P : Program} {t : TypeId} (h : isSlice P t = true) : ∃ ti e, tab P t = some ti ∧ ti.desc = .slice e := by
  unfold isSlice at h
  split at h
  · rename_i ti hl
    obtain ⟨tt, ht, hk, _⟩ := tl_spec hl
    rw [← hk] at h
    cases hd : tt.desc <;> rw [hd] at h <;> simp [kindD] at h
    exact ⟨tt, _, ht, hd⟩
  · cases h
theorem kind_string {P : Program} {t : TypeId} (h : isString P t = true) : ∃ ti, tab P t = some ti ∧ ti.desc = .string := by
  unfold isString at h
  split at h
  · rename_i ti hl
    obtain ⟨tt, ht, hk, _⟩ := tl_spec hl
    rw [← hk] at h
    cases hd : tt.desc <;> rw [hd] at h <;> simp [kindD] at h
    exact ⟨tt, ht, hd⟩
  · cases h
/-- x op y. -/
def binX (P : Program) (op : BinOp) (t : TypeId) (ox oy : Operand) (x y : Value) (H : Heap) (K : Value → Prop) : Prop :=
  match x, y with
  | .int k a, .int k' b => match op with
    | .shl => 0 ≤ b ∧ K (.int k (k.wrap (a * 2 ^ min b.toNat k.bits)))
    | .shr => 0 ≤ b ∧ K (.int k (a.fdiv (2 ^ min b.toNat k.bits)))
    | _ => k = k' ∧ intBin op k a b K
  | .string a, .string b => strBin op a b K
  | .pointer p, .pointer none => isPtr P t = true ∧ (match op with | .eql => K (.bool p.isNone) | .neq => K (.bool (!p.isNone)) | _ => False)
  | .bool a, .bool b => isBool P t = true ∧ (match op with | .eql => K (.bool (a == b)) | .neq => K (.bool (!(a == b))) | _ => False)
  | x, y => ∃ v, Rd P H (do eqGuard op t ox oy x y; binOp op t x y) v ∧ K v
theorem Rd.getUnit {P : Program} {H : Heap} {s : Sem Unit} (h : s = Pure.pure ()) : Rd P H s () := by rw [h]; exact Rd.ret _
theorem eqGuard_plain (op : BinOp) (t : TypeId) (ox oy : Operand) (x y : Value) (h1 : ¬ (x matches .nilIface)) (h2 : ¬ (x matches .agg _)) : eqGuard op t ox oy x y = Pure.pure () := by
  unfold eqGuard
  cases op <;> try rfl
  all_goals (cases x <;> first | rfl | (exfalso; simp at h1; done) | (exfalso; simp at h2; done))
theorem rd_equal_ptr {P : Program} {H : Heap} {t : TypeId} (h : isPtr P t = true) (p : Option Addr) : Rd P H (Op.equal t (.pointer p) (.pointer none)) p.isNone := by
  obtain ⟨ti, e, ht, hd⟩ := kind_ptr h
  have hu := rd_underlying (H := H) ht
  rw [hd] at hu
  unfold Op.equal Op.maxDepth Op.equalIn
  refine Rd.bind hu ?_
  cases p <;> exact Rd.ret' rfl
theorem rd_equal_bool {P : Program} {H : Heap} {t : TypeId} (h : isBool P t = true) (a b : Bool) : Rd P H (Op.equal t (.bool a) (.bool b)) (a == b) := by
  obtain ⟨ti, ht, hd⟩ := kind_bool h
  have hu := rd_underlying (H := H) ht
  rw [hd] at hu
  unfold Op.equal Op.maxDepth Op.equalIn
  refine Rd.bind hu ?_
  exact Rd.ret' rfl
theorem rd_bin {P : Program} {op : BinOp} {t : TypeId} {ox oy : Operand} {x y : Value} {H : Heap} {K : Value → Prop} (h : binX P op t ox oy x y H K) :
    ∃ v, K v ∧ Rd P H (do eqGuard op t ox oy x y; binOp op t x y) v := by
  unfold binX at h
  split at h
  · rename_i k a k' b
    have hg : eqGuard op t ox oy (.int k a) (.int k' b) = Pure.pure () := eqGuard_plain _ _ _ _ _ _ (by simp) (by simp)
    have key : ∀ v, Rd P H (binOp op t (.int k a) (.int k' b)) v → Rd P H (do eqGuard op t ox oy (.int k a) (.int k' b); binOp op t (.int k a) (.int k' b)) v := fun v hv =>
      Rd.bind (Rd.getUnit hg) hv
    split at h
    · obtain ⟨h1, h2⟩ := h
      exact ⟨_, h2, key _ (by unfold binOp Op.shift; simp only []; rw [if_neg (by omega)]; exact Rd.ret _)⟩
    · obtain ⟨h1, h2⟩ := h
      exact ⟨_, h2, key _ (by unfold binOp Op.shift; simp only []; rw [if_neg (by omega)]; exact Rd.ret _)⟩
    · rename_i n1 n2
      obtain ⟨rfl, h⟩ := h
      cases op <;> simp only [intBin] at h <;>
        first
          | exact h.elim
          | exact absurd rfl n1
          | exact absurd rfl n2
          | exact ⟨_, h, key _ (by simp only [binOp, ne_eq, not_true_eq_false, if_false]; exact Rd.ret _)⟩
          | exact ⟨_, h.2, key _ (by simp only [binOp, ne_eq, not_true_eq_false, if_false, Op.intDiv, if_neg h.1]; exact Rd.ret _)⟩
  · rename_i a b
    have hg : eqGuard op t ox oy (.string a) (.string b) = Pure.pure () := eqGuard_plain _ _ _ _ _ _ (by simp) (by simp)
    have key : ∀ v, Rd P H (binOp op t (.string a) (.string b)) v → Rd P H (do eqGuard op t ox oy (.string a) (.string b); binOp op t (.string a) (.string b)) v := fun v hv =>
      Rd.bind (Rd.getUnit hg) hv
    cases op <;> simp only [strBin] at h <;>
      first
        | exact h.elim
        | exact ⟨_, h, key _ (by simp only [binOp, Op.stringOp]; exact Rd.ret _)⟩
        | exact ⟨_, h.2, key _ (by simp only [binOp, Op.stringOp]; rw [if_neg (by omega)]; exact Rd.ret _)⟩
  · rename_i p
    have hg : eqGuard op t ox oy (.pointer p) (.pointer none) = Pure.pure () := eqGuard_plain _ _ _ _ _ _ (by simp) (by simp)
    obtain ⟨h1, h2⟩ := h
    have he := rd_equal_ptr (H := H) h1 p
    cases op <;> simp only at h2 <;> first
      | exact h2.elim
      | exact ⟨_, h2, Rd.bind (Rd.getUnit hg) (Rd.bind he (Rd.ret _))⟩
  · rename_i a b
    have hg : eqGuard op t ox oy (.bool a) (.bool b) = Pure.pure () := eqGuard_plain _ _ _ _ _ _ (by simp) (by simp)
    obtain ⟨h1, h2⟩ := h
    have he := rd_equal_bool (H := H) h1 a b
    cases op <;> simp only at h2 <;> first
      | exact h2.elim
      | exact ⟨_, h2, Rd.bind (Rd.getUnit hg) (Rd.bind he (Rd.ret _))⟩
  · obtain ⟨v, h1, h2⟩ := h
    exact ⟨v, h2, h1⟩
end Go.Hp
