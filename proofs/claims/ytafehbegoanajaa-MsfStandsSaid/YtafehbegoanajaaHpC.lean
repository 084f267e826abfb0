/-
  The meaning of one operation over a heap (reading ones, then all), sound for the model's own.
-/
import Derived.Test.YtafehbegoanajaaHpB
namespace Go.Hp
open Go
set_option linter.unusedVariables false
set_option linter.unusedSimpArgs false

def nilX (v : Value) (K : Value → Prop) : Prop :=
  match v with
  | .pointer p => ∃ a, p = some a ∧ K (.pointer (some a))
  | .func (.func f) a b => K (.func (.func f) a b)
  | _ => False
theorem nilX_some {a : Addr} {K : Value → Prop} : nilX (.pointer (some a)) K = K (.pointer (some a)) := by simp [nilX]
/-- &x[i]. -/
def indexX (P : Program) (t : TypeId) (x i : Value) (K : Value → Prop) : Prop :=
  match elems P t, x, i with
  | some (none, _, n), .slice b len _, .int _ i => ∃ p, b = some p ∧ 0 ≤ i ∧ i < len ∧ K (.pointer (some (p.add (i.toNat * n))))
  | some (some len, _, n), .pointer b, .int _ i => ∃ p, b = some p ∧ 0 ≤ i ∧ i < len ∧ K (.pointer (some (p.add (i.toNat * n))))
  | _, _, _ => False
/-- x[i], x an array of one-cell elements as a value, or a string. -/
def indexVX (P : Program) (t : TypeId) (x i : Value) (H : Heap) (K : Value → Prop) : Prop :=
  match x, i with
  | .agg cs, .int _ i => match elems P t with
    | some (some len, e, n) => ∃ v, 0 ≤ i ∧ i < len ∧ Rd P H (part e cs (i.toNat * n)) v ∧ K v
    | _ => False
  | .string s, .int _ i => isString P t = true ∧ ∃ b, 0 ≤ i ∧ s[i.toNat]? = some b ∧ K (.int .u8 b.toNat)
  | _, _ => False
def boundX (v : Option Value) (d : Nat) (K : Int → Prop) : Prop :=
  match v with
  | none => K d
  | some (.int _ i) => K i
  | _ => False
def sliceX (P : Program) (t : TypeId) (x : Value) (lo hi mx : Option Value) (K : Value → Prop) : Prop :=
  match mx, x with
  | none, .slice a len cap => match elems P t with
    | some (none, _, n) => boundX hi len fun h => boundX lo 0 fun l => 0 ≤ l ∧ l ≤ h ∧ h ≤ cap ∧
        K (.slice (if cap = l.toNat then a else a.map (·.add (l.toNat * n))) (h.toNat - l.toNat) (cap - l.toNat))
    | _ => False
  | none, .string s => isString P t = true ∧ boundX hi s.size fun h => boundX lo 0 fun l => 0 ≤ l ∧ l ≤ h ∧ h ≤ s.size ∧ K (.string (s.extract l.toNat h.toNat))
  | none, .pointer p => match elems P t with
    | some (some m, _, n) => boundX hi m fun h => boundX lo 0 fun l => ∃ a, p = some a ∧ 0 ≤ l ∧ l ≤ h ∧ h ≤ m ∧
        K (.slice (some (if m = l.toNat then a else a.add (l.toNat * n))) (h.toNat - l.toNat) (m - l.toNat))
    | _ => False
  | some (.int _ m), .slice a len cap => match elems P t, hi with
    | some (none, _, n), some (.int _ h) => boundX lo 0 fun l => 0 ≤ l ∧ l ≤ h ∧ h ≤ m ∧ m ≤ cap ∧
        K (.slice (if m.toNat = l.toNat then a else a.map (·.add (l.toNat * n))) (h.toNat - l.toNat) (m.toNat - l.toNat))
    | _, _ => False
  | _, _ => False
def tupX (v : Value) (i : Nat) (K : Value → Prop) : Prop := match v with | .tuple vs => ∃ x, vs[i]? = some x ∧ K x | _ => False
/-- A part of a struct's value. -/
def fieldX (P : Program) (s : TypeId) (x : Value) (i : Nat) (K : Value → Prop) : Prop :=
  match x, flay P s with
  | .agg cs, some l => match l[i]? with
    | some (o, n, true) => K (.agg (cs.extract o (o + n)))
    | some (o, _, false) => ∃ v, cs[o]? = some v ∧ K v
    | none => False
  | _, _ => False
def lenX (P : Program) (t : TypeId) (x : Value) (H : Heap) (K : Value → Prop) : Prop :=
  match x with
  | .slice _ n _ => isSlice P t = true ∧ K (.int .i64 n)
  | .string s => isString P t = true ∧ K (.int .i64 s.size)
  | x => ∃ v, Rd P H (Builtin.len_ #[t] 0 #[x]) v ∧ K v
def convX (P : Program) (src dst : TypeId) (x : Value) (H : Heap) (K : Value → Prop) : Prop :=
  match tl P src, tl P dst, x with
  | some s, some d, .int _ n => match s.kind, d.kind with
    | .int _, .int k' => K (.int k' (k'.wrap n))
    | _, _ => False
  | _, _, x => ∃ v, Rd P H (convert src dst x) v ∧ K v
def fieldAX (P : Program) (s : TypeId) (i : Nat) (a : Addr) (K : Value → Prop) : Prop :=
  match flay P s with
  | some l => match l[i]? with
    | some (o, n, _) => n ≠ 0 ∧ K (.pointer (some (a.add o)))
    | none => False
  | none => False
/-- Reading operations. -/
def rdX (P : Program) (o : Oper) (ρ : Operand → Value) (H : Heap) (K : Value → Prop) : Prop :=
  match o.op with
  | .move x => K (ρ x)
  | .assign x => K (ρ x)
  | .pick c a b => boolX (ρ c) fun c => K (if c then ρ a else ρ b)
  | .load t x => ptrX (ρ x) fun a => match tl P t with | some ti => loadX ti H a K | none => False
  | .nilCheck x => nilX (ρ x) K
  | .binOp op t x y _ => binX P op t x y (ρ x) (ρ y) H K
  | .unOp .not _ x => boolX (ρ x) fun b => K (.bool (!b))
  | .unOp .neg _ x => intX (ρ x) fun k n => K (.int k (k.wrap (0 - n)))
  | .fieldAddr t x i => ptrX (ρ x) fun a => fieldAX P t i a K
  | .field t x i => fieldX P t (ρ x) i K
  | .indexAddr t x i => indexX P t (ρ x) (ρ i) K
  | .index t x i => indexVX P t (ρ x) (ρ i) H K
  | .slice t x lo hi mx => sliceX P t (ρ x) (lo.map ρ) (hi.map ρ) (mx.map ρ) K
  | .extract x i => tupX (ρ x) i K
  | .makeFunc f a b => K (.func f (a.map ρ) (b.map ρ))
  | .convert s d x => convX P s d (ρ x) H K
  | .call c => match c.callee with
    | .builtin .len => match c.args.toList, c.argTypes.toList with
      | [x], [t] => lenX P t (ρ x) H K
      | _, _ => False
    | .builtin .min => match c.args.toList with
      | [x, y] => intX (ρ x) fun k a => intX (ρ y) fun _ b => K (.int k (if b < a then b else a))
      | _ => False
    | .builtin .max => match c.args.toList with
      | [x, y] => intX (ρ x) fun k a => intX (ρ y) fun _ b => K (.int k (if b > a then b else a))
      | _ => False
    | _ => ∃ v, Rd P H (execOp ρ o) (.value v) ∧ K v
  | _ => ∃ v, Rd P H (execOp ρ o) (.value v) ∧ K v
theorem Rd.value {P : Program} {H : Heap} {s : Sem Value} {v : Value} (h : Rd P H s v) : Rd P H (do pure (.value (← s)) : Sem Next) (.value v) :=
  Rd.bind h (Rd.ret _)
theorem rd_sureAddr {P : Program} {H : Heap} {a : Addr} : Rd P H (Instr.sureAddr (.pointer (some a))) a := Rd.ret _
def descOf (e : TypeId) : Option Nat → TypeDesc
  | none => .slice e
  | some k => .array k e
theorem elems_spec {P : Program} {t : TypeId} {m : Option Nat} {e : TypeId} {n : Nat} (h : elems P t = some (m, e, n)) :
    ∃ ti te, tab P t = some ti ∧ tab P e = some te ∧ te.size = n ∧ ti.desc = descOf e m := by
  unfold elems at h
  split at h
  · rename_i ti ht
    split at h
    · rename_i e' hd
      split at h
      · rename_i te hte
        simp only [Option.some.injEq, Prod.mk.injEq] at h
        obtain ⟨rfl, rfl, rfl⟩ := h
        exact ⟨ti, te, ht, hte, rfl, hd⟩
      · cases h
    · rename_i n' e' hd
      split at h
      · rename_i te hte
        simp only [Option.some.injEq, Prod.mk.injEq] at h
        obtain ⟨rfl, rfl, rfl⟩ := h
        exact ⟨ti, te, ht, hte, rfl, hd⟩
      · cases h
    · cases h
  · cases h
theorem rd_field {P : Program} {H : Heap} {s : TypeId} {a : Addr} {i : Nat} {K : Value → Prop} (h : fieldAX P s i a K) : ∃ v, K v ∧ Rd P H (Instr.fieldAt s (.pointer (some a)) i) v := by
  unfold fieldAX at h
  split at h
  · rename_i l hl
    split at h
    · rename_i o n b hi
      obtain ⟨hn, hk⟩ := h
      obtain ⟨ti, fs, f, tf, h1, h2, h3, h4, h5, h6, h7⟩ := flay_get hl hi
      have hu := rd_underlying (H := H) h1
      rw [h2] at hu
      refine ⟨_, hk, Rd.bind hu ?_⟩
      simp only [h3]
      refine Rd.bind rd_sureAddr (Rd.bind (x := a.add o) ?_ (Rd.ret _))
      unfold fieldPlace
      refine Rd.bind (rd_sizeOf h4) ?_
      rw [if_neg (by rw [h6]; exact hn), h5]
      exact Rd.ret _
    · exact h.elim
  · exact h.elim
theorem rd_index {P : Program} {H : Heap} {t : TypeId} {x i : Value} {K : Value → Prop} (h : indexX P t x i K) : ∃ v, K v ∧ Rd P H (Instr.indexAt t x i) v := by
  unfold indexX at h
  split at h
  · rename_i n b len c k i he
    obtain ⟨p, rfl, h0, h1, hK⟩ := h
    obtain ⟨ti, te, h2, h3, h4, h5⟩ := elems_spec he
    have hu := rd_underlying (H := H) h2
    rw [h5] at hu
    simp only [descOf] at hu
    refine ⟨_, hK, Rd.bind (x := (_, _)) (Rd.ret _) (Rd.bind hu (Rd.bind (x := (some p, len, _)) (Rd.ret _) ?_))⟩
    refine Rd.bind hu ?_
    simp only [h0, h1, and_self, if_true]
    exact Rd.bind (rd_sizeOf h3) (by rw [h4]; exact Rd.ret _)
  · rename_i len n b k i he
    obtain ⟨p, rfl, h0, h1, hK⟩ := h
    obtain ⟨ti, te, h2, h3, h4, h5⟩ := elems_spec he
    have hu := rd_underlying (H := H) h2
    rw [h5] at hu
    simp only [descOf] at hu
    refine ⟨_, hK, Rd.bind (x := (_, _)) (Rd.ret _) (Rd.bind hu (Rd.bind rd_sureAddr (Rd.bind (x := (some p, _, _)) (Rd.ret _) ?_)))⟩
    refine Rd.bind hu ?_
    simp only [h0, h1, and_self, if_true]
    exact Rd.bind (rd_sizeOf h3) (by rw [h4]; exact Rd.ret _)
  · exact h.elim
theorem rd_bound {P : Program} {H : Heap} {i : Int} {k : IntKind} {y : Nat} {c : BoundsCode} (h0 : 0 ≤ i) (h1 : i ≤ y) : Rd P H (Instr.sliceBound (.int k i) y c) i.toNat := by
  refine Rd.bind (x := (k, i)) (Rd.ret _) ?_
  simp only [h0, h1, and_self, if_true]
  exact Rd.ret _
theorem bound_cases {v : Option Value} {d : Nat} {K : Int → Prop} (h : boundX v d K) : (v = none ∧ K d) ∨ ∃ k i, v = some (.int k i) ∧ K i := by
  cases v with
  | none => exact .inl ⟨rfl, h⟩
  | some v =>
    cases v <;> first | exact .inr ⟨_, _, rfl, h⟩ | exact (show False from h).elim
theorem rd_bounds {P : Program} {H : Heap} {b : Bool} {len cap : Nat} {lo hi : Option Value} {K : Int → Int → Prop}
    (h : boundX hi len fun h => boundX lo 0 fun l => 0 ≤ l ∧ l ≤ h ∧ h ≤ cap ∧ K l h) :
    ∃ l h : Int, K l h ∧ Rd P H (Instr.sliceBounds b len cap lo hi none) (l.toNat, h.toNat, cap) := by
  rcases bound_cases h with ⟨rfl, hb⟩ | ⟨k, i, rfl, hb⟩ <;> rcases bound_cases hb with ⟨rfl, h1, h2, h3, hk⟩ | ⟨k', i', rfl, h1, h2, h3, hk⟩
  · exact ⟨_, _, hk, Rd.bind (Rd.ret _) (Rd.bind (x := len) (Rd.ret _) (Rd.bind (x := 0) (Rd.ret _) (Rd.ret _)))⟩
  · exact ⟨_, _, hk, Rd.bind (Rd.ret _) (Rd.bind (x := len) (Rd.ret _) (Rd.bind (x := i'.toNat) (rd_bound h1 (by omega)) (Rd.ret _)))⟩
  · exact ⟨_, _, hk, Rd.bind (Rd.ret _) (Rd.bind (x := i.toNat) (rd_bound (by omega) (by omega)) (Rd.bind (x := 0) (Rd.ret _) (Rd.ret _)))⟩
  · exact ⟨_, _, hk, Rd.bind (Rd.ret _) (Rd.bind (x := i.toNat) (rd_bound (by omega) (by omega)) (Rd.bind (x := i'.toNat) (rd_bound h1 (by omega)) (Rd.ret _)))⟩
theorem rd_bounds3 {P : Program} {H : Heap} {k kh : IntKind} {m h : Int} {len cap : Nat} {lo : Option Value} {K : Int → Prop}
    (hb : boundX lo 0 fun l => 0 ≤ l ∧ l ≤ h ∧ h ≤ m ∧ m ≤ cap ∧ K l) :
    ∃ l : Int, True ∧ K l ∧ Rd P H (Instr.sliceBounds true len cap lo (some (.int kh h)) (some (.int k m))) (l.toNat, h.toNat, m.toNat) := by
  rcases bound_cases hb with ⟨rfl, h1, h2, h3, h4, hk⟩ | ⟨k', i', rfl, h1, h2, h3, h4, hk⟩
  · exact ⟨0, trivial, hk, Rd.bind (x := m.toNat) (rd_bound (by omega) (by omega)) (Rd.bind (x := h.toNat) (rd_bound (by omega) (by omega)) (Rd.bind (x := 0) (Rd.ret _) (Rd.ret _)))⟩
  · exact ⟨i', trivial, hk, Rd.bind (x := m.toNat) (rd_bound (by omega) (by omega)) (Rd.bind (x := h.toNat) (rd_bound (by omega) (by omega)) (Rd.bind (x := i'.toNat) (rd_bound h1 (by omega)) (Rd.ret _)))⟩
theorem rd_slice {P : Program} {H : Heap} {t : TypeId} {x : Value} {lo hi mx : Option Value} {K : Value → Prop} (h : sliceX P t x lo hi mx K) : ∃ v, K v ∧ Rd P H (Instr.sliceAt t x lo hi mx) v := by
  unfold sliceX at h
  split at h
  · rename_i a len cap
    split at h
    · rename_i e n he
      obtain ⟨ti, te, h2, h3, h4, h5⟩ := elems_spec he
      have hu := rd_underlying (H := H) h2
      rw [h5] at hu
      simp only [descOf] at hu
      obtain ⟨l, hh, hk, hr⟩ := rd_bounds (P := P) (H := H) (b := true) (cap := cap) (K := fun l h => K (.slice (if cap = l.toNat then a else a.map (·.add (l.toNat * n))) (h.toNat - l.toNat) (cap - l.toNat))) h
      refine ⟨_, hk, Rd.bind hu (Rd.bind hu (Rd.bind hr (Rd.bind (rd_sizeOf h3) ?_)))⟩
      rw [h4]
      exact Rd.ret _
    · exact h.elim
  · rename_i s
    obtain ⟨h1, h⟩ := h
    obtain ⟨ti, ht, hd⟩ := kind_string h1
    have hu := rd_underlying (H := H) ht
    rw [hd] at hu
    obtain ⟨l, hh, hk, hr⟩ := rd_bounds (P := P) (H := H) (b := false) (cap := s.size) (K := fun l h => K (.string (s.extract l.toNat h.toNat))) h
    exact ⟨_, hk, Rd.bind hu (Rd.bind hu (Rd.bind hr (Rd.ret _)))⟩
  · rename_i p
    split at h
    · rename_i m e n he
      obtain ⟨ti, te, h2, h3, h4, h5⟩ := elems_spec he
      have hu := rd_underlying (H := H) h2
      rw [h5] at hu
      simp only [descOf] at hu
      have : ∃ a, p = some a := by
        rcases bound_cases h with ⟨rfl, hb⟩ | ⟨k, i, rfl, hb⟩ <;> rcases bound_cases hb with ⟨rfl, hc⟩ | ⟨k', i', rfl, hc⟩ <;> exact ⟨_, hc.choose_spec.1⟩
      obtain ⟨a, rfl⟩ := this
      obtain ⟨l, hh, hk, hr⟩ := rd_bounds (P := P) (H := H) (b := false) (len := m) (cap := m) (K := fun l h => K (.slice (some (if m = l.toNat then a else a.add (l.toNat * n))) (h.toNat - l.toNat) (m - l.toNat)))
        (by simpa using h)
      refine ⟨_, hk, Rd.bind hu (Rd.bind rd_sureAddr (Rd.bind hr (Rd.bind (rd_sizeOf h3) ?_)))⟩
      rw [h4]
      exact Rd.ret _
    · exact h.elim
  · rename_i km m a len cap
    split at h
    · rename_i e n kh h' he
      obtain ⟨ti, te, h2, h3, h4, h5⟩ := elems_spec he
      have hu := rd_underlying (H := H) h2
      rw [h5] at hu
      simp only [descOf] at hu
      obtain ⟨l, hh, hk, hr⟩ := rd_bounds3 (P := P) (H := H) (m := m) (h := h') (cap := cap) (len := len) (K := fun l => K (.slice (if m.toNat = l.toNat then a else a.map (·.add (l.toNat * n))) (h'.toNat - l.toNat) (m.toNat - l.toNat))) h
      refine ⟨_, hk, Rd.bind hu (Rd.bind hu (Rd.bind hr (Rd.bind (rd_sizeOf h3) ?_)))⟩
      rw [h4]
      exact Rd.ret _
    · exact h.elim
  · exact h.elim
theorem rd_indexV {P : Program} {H : Heap} {t : TypeId} {x i : Value} {K : Value → Prop} (h : indexVX P t x i H K) : ∃ v, K v ∧ Rd P H (Instr.index t x i) v := by
  unfold indexVX at h
  split at h
  · rename_i cs k i
    split at h
    · rename_i len e n he
      obtain ⟨v, h0, h1, hr, hK⟩ := h
      obtain ⟨ti, te, h2, h3, h4, h5⟩ := elems_spec he
      have hu := rd_underlying (H := H) h2
      rw [h5] at hu
      simp only [descOf] at hu
      refine ⟨_, hK, Rd.bind (x := (_, _)) (Rd.ret _) (Rd.bind hu ?_)⟩
      simp only [h0, h1, and_self, if_true]
      exact Rd.bind (rd_sizeOf h3) (by rw [h4]; exact hr)
    · exact h.elim
  · rename_i s k i
    obtain ⟨h1, b, h0, hb, hK⟩ := h
    obtain ⟨ti, ht, hd⟩ := kind_string h1
    have hu := rd_underlying (H := H) ht
    rw [hd] at hu
    refine ⟨_, hK, Rd.bind (x := (_, _)) (Rd.ret _) (Rd.bind hu ?_)⟩
    simp only [h0, if_true, hb]
    exact Rd.ret _
  · exact h.elim
theorem rd_fieldV {P : Program} {H : Heap} {s : TypeId} {x : Value} {i : Nat} {K : Value → Prop} (h : fieldX P s x i K) : ∃ v, K v ∧ Rd P H (Instr.field s x i) v := by
  unfold fieldX at h
  split at h
  · rename_i cs l hl
    split at h
    · rename_i o n hi
      obtain ⟨ti, fs, f, tf, h1, h2, h3, h4, h5, h6, h7⟩ := flay_get hl hi
      have hu := rd_underlying (H := H) h1
      rw [h2] at hu
      have ha := rd_isAgg (H := H) h4
      rw [h7] at ha
      refine ⟨_, h, Rd.bind hu ?_⟩
      simp only [h3]
      refine Rd.bind (x := cs) (Rd.ret _) (Rd.bind ha (Rd.bind (rd_sizeOf h4) ?_))
      rw [h5, h6]
      exact Rd.ret _
    · rename_i o n hi
      obtain ⟨ti, fs, f, tf, h1, h2, h3, h4, h5, h6, h7⟩ := flay_get hl hi
      have hu := rd_underlying (H := H) h1
      rw [h2] at hu
      have ha := rd_isAgg (H := H) h4
      rw [h7] at ha
      obtain ⟨v, hv, hK⟩ := h
      refine ⟨_, hK, Rd.bind hu ?_⟩
      simp only [h3]
      refine Rd.bind (x := cs) (Rd.ret _) (Rd.bind ha ?_)
      simp only [Bool.false_eq_true, if_false, h5, hv]
      exact Rd.ret _
    · exact h.elim
  · exact h.elim
theorem rd_len {P : Program} {H : Heap} {t : TypeId} {x : Value} {K : Value → Prop} (ty : TypeId) (h : lenX P t x H K) : ∃ v, K v ∧ Rd P H (Builtin.len_ #[t] ty #[x]) v := by
  unfold lenX at h
  split at h
  · obtain ⟨h1, hK⟩ := h
    obtain ⟨ti, e, ht, hd⟩ := kind_slice h1
    have hu := rd_underlying (H := H) ht
    rw [hd] at hu
    exact ⟨_, hK, Rd.bind hu (Rd.ret _)⟩
  · obtain ⟨h1, hK⟩ := h
    obtain ⟨ti, ht, hd⟩ := kind_string h1
    have hu := rd_underlying (H := H) ht
    rw [hd] at hu
    exact ⟨_, hK, Rd.bind hu (Rd.ret _)⟩
  · obtain ⟨v, h1, h2⟩ := h
    exact ⟨v, h2, h1⟩
theorem rd_conv {P : Program} {H : Heap} {s d : TypeId} {x : Value} {K : Value → Prop} (h : convX P s d x H K) : ∃ v, K v ∧ Rd P H (convert s d x) v := by
  unfold convX at h
  split at h
  · rename_i ts td k n hs hd
    split at h
    · rename_i k1 k2 h1 h2
      obtain ⟨t1, ht1, hk1, _⟩ := tl_spec hs
      obtain ⟨t2, ht2, hk2, _⟩ := tl_spec hd
      have hu := rd_underlying (H := H) ht1
      have hv := rd_underlying (H := H) ht2
      rw [h1] at hk1
      rw [h2] at hk2
      have e1 : t1.desc = .int k1 := by cases hd1 : t1.desc <;> rw [hd1] at hk1 <;> simp [kindD] at hk1; rw [hk1]
      have e2 : t2.desc = .int k2 := by cases hd2 : t2.desc <;> rw [hd2] at hk2 <;> simp [kindD] at hk2; rw [hk2]
      rw [e1] at hu
      rw [e2] at hv
      exact ⟨_, h, Rd.bind hu (Rd.bind hv (Rd.ret _))⟩
    · exact h.elim
  · obtain ⟨v, h1, h2⟩ := h
    exact ⟨v, h2, h1⟩
theorem rdX_sound {P : Program} {o : Oper} {ρ : Operand → Value} {H : Heap} {K : Value → Prop} (h : rdX P o ρ H K) : ∃ v, K v ∧ Rd P H (execOp ρ o) (.value v) := by
  have fall : (∃ v, Rd P H (execOp ρ o) (.value v) ∧ K v) → ∃ v, K v ∧ Rd P H (execOp ρ o) (.value v) := fun ⟨v, a, b⟩ => ⟨v, b, a⟩
  have val : ∀ s : Sem Value, execOp ρ o = (do pure (.value (← s))) → (∃ v, K v ∧ Rd P H s v) → ∃ v, K v ∧ Rd P H (execOp ρ o) (.value v) := fun s e ⟨v, a, b⟩ => ⟨v, a, by rw [e]; exact b.value⟩
  obtain ⟨dst, op, type, pos, after, guard⟩ := o
  cases op <;> unfold rdX at h <;> simp only at h <;> try (exact fall h)
  case move x => exact ⟨_, h, Rd.ret _⟩
  case assign x => exact ⟨_, h, Rd.ret _⟩
  case pick c a b =>
    unfold boolX at h
    split at h
    · rename_i hc
      exact ⟨_, h, by simp only [execOp, hc]; exact Rd.bind (Rd.ret _) (Rd.ret _)⟩
    · exact h.elim
  case load t x =>
    unfold ptrX at h
    split at h
    · rename_i p hp
      obtain ⟨a, rfl, h⟩ := h
      split at h
      · rename_i ti ht
        obtain ⟨v, h1, h2⟩ := rd_loadVar ht h
        exact val _ rfl ⟨v, h1, Rd.bind (by rw [hp]; exact rd_sureAddr) h2⟩
      · exact h.elim
    · exact h.elim
  case nilCheck x =>
    unfold nilX at h
    split at h
    · rename_i p hp
      obtain ⟨a, rfl, h⟩ := h
      exact ⟨_, h, by simp only [execOp, hp]; exact Rd.ret _⟩
    · rename_i f a b hp
      exact ⟨_, h, by simp only [execOp, hp]; exact Rd.ret _⟩
    · exact h.elim
  case binOp op t x y ty =>
    obtain ⟨v, h1, h2⟩ := rd_bin h
    exact val _ rfl ⟨v, h1, h2⟩
  case unOp op t x =>
    cases op <;> simp only at h <;> try (exact fall h)
    · unfold intX at h
      split at h
      · rename_i k n hb
        exact val _ rfl ⟨_, h, by rw [hb]; exact Rd.ret _⟩
      · exact h.elim
    · unfold boolX at h
      split at h
      · rename_i b hb
        exact val _ rfl ⟨_, h, by rw [hb]; exact Rd.ret _⟩
      · exact h.elim
  case convert s d x =>
    obtain ⟨v, h1, h2⟩ := rd_conv h
    exact val _ rfl ⟨v, h1, h2⟩
  case makeFunc f a b => exact val _ rfl ⟨_, h, Rd.ret _⟩
  case slice t x lo hi mx =>
    obtain ⟨v, h1, h2⟩ := rd_slice (H := H) h
    exact val _ rfl ⟨v, h1, h2⟩
  case fieldAddr t x i =>
    unfold ptrX at h
    split at h
    · rename_i p hp
      obtain ⟨a, rfl, h⟩ := h
      obtain ⟨v, h1, h2⟩ := rd_field (H := H) h
      exact val _ rfl ⟨v, h1, by rw [hp]; exact h2⟩
    · exact h.elim
  case field t x i =>
    obtain ⟨v, h1, h2⟩ := rd_fieldV (H := H) h
    exact val _ rfl ⟨v, h1, h2⟩
  case indexAddr t x i =>
    obtain ⟨v, h1, h2⟩ := rd_index (H := H) h
    exact val _ rfl ⟨v, h1, h2⟩
  case index t x i =>
    obtain ⟨v, h1, h2⟩ := rd_indexV h
    exact val _ rfl ⟨v, h1, h2⟩
  case extract x i =>
    unfold tupX at h
    split at h
    · rename_i vs hvs
      obtain ⟨v, hv, hK⟩ := h
      exact val _ rfl ⟨v, hK, by rw [hvs]; simp only [Instr.extract, hv]; exact Rd.ret _⟩
    · exact h.elim
  case call c =>
    obtain ⟨callee, args, argTypes⟩ := c
    split at h
    · rename_i hc
      simp only at hc
      subst hc
      split at h
      · rename_i x t ha ht
        obtain rfl : args = #[x] := Array.ext' ha
        obtain rfl : argTypes = #[t] := Array.ext' ht
        obtain ⟨v, h1, h2⟩ := rd_len type h
        refine ⟨v, h1, ?_⟩
        refine Rd.bind (Rd.ret _) ?_
        have e : Array.map ρ #[x] = #[ρ x] := by simp
        show Rd P H (do pure (.value (← Builtin.len_ #[t] type (Array.map ρ #[x]))) : Sem Next) _
        rw [e]
        exact h2.value
      · exact h.elim
    · rename_i hc
      simp only at hc
      subst hc
      split at h
      · rename_i x y ha
        obtain rfl : args = #[x, y] := Array.ext' ha
        unfold intX at h
        split at h
        · rename_i k a hx
          split at h
          · rename_i k' b hy
            refine ⟨_, h, Rd.bind (Rd.ret _) ?_⟩
            have e : Array.map ρ #[x, y] = #[.int k a, .int k' b] := by simp [hx, hy]
            show Rd P H (do pure (.value (← Builtin.min_ argTypes type (Array.map ρ #[x, y]))) : Sem Next) _
            rw [e]
            exact Rd.value (Rd.ret _)
          · exact h.elim
        · exact h.elim
      · exact h.elim
    · rename_i hc
      simp only at hc
      subst hc
      split at h
      · rename_i x y ha
        obtain rfl : args = #[x, y] := Array.ext' ha
        unfold intX at h
        split at h
        · rename_i k a hx
          split at h
          · rename_i k' b hy
            refine ⟨_, h, Rd.bind (Rd.ret _) ?_⟩
            have e : Array.map ρ #[x, y] = #[.int k a, .int k' b] := by simp [hx, hy]
            show Rd P H (do pure (.value (← Builtin.max_ argTypes type (Array.map ρ #[x, y]))) : Sem Next) _
            rw [e]
            exact Rd.value (Rd.ret _)
          · exact h.elim
        · exact h.elim
      · exact h.elim
    · exact fall h
end Go.Hp
