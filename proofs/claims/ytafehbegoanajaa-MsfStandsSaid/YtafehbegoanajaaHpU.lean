/-
  Equality of flat structs (fields that are numbers, bools or texts) as values.
-/
import Derived.Test.YtafehbegoanajaaHpS
namespace Go.Hp
open Go
set_option linter.unusedVariables false

/-- Two cells that can be compared, of a kind: are they equal? -/
def sEq : TK → Option Value → Option Value → Option Bool
  | .int _, some (.int k a), some (.int k' b) => if k = k' then some (a == b) else none
  | .bool, some (.bool a), some (.bool b) => some (a == b)
  | .string, some (.string a), some (.string b) => some (a == b)
  | _, _, _ => none
/-- A flat struct's fields: kinds and places. -/
def flatF (P : Program) : List Field → Option (List (TK × Nat))
  | [] => some []
  | f :: fs => if f.name ≠ "_" then match tl P f.type, flatF P fs with
    | some tf, some l => if tf.kind.agg = false then some ((tf.kind, f.offset) :: l) else none
    | _, _ => none
    else none
def flatS (P : Program) (t : TypeId) : Option (List (TK × Nat)) :=
  if P.stoodInHeld t then none else if P.eqGuardType P.depth t then none else match tab P t with
  | some ti => match ti.desc with
    | .struct fs => flatF P fs.toList
    | _ => none
  | none => none
def allEq (xs ys : Array Value) : List (TK × Nat) → Option Bool
  | [] => some true
  | (k, o) :: l => match sEq k xs[o]? ys[o]? with
    | some true => allEq xs ys l
    | some false => some false
    | none => none
theorem rd_equal_scalar {P : Program} {H : Heap} {e : TypeId} {te : TI} (he : tab P e = some te) (d : Nat) {x y : Value} {b : Bool} (h : sEq (kindD te.desc) (some x) (some y) = some b) : Rd P H (Op.equalIn (d + 1) e x y) b := by
  have hu := rd_underlying (H := H) he
  unfold Op.equalIn
  refine Rd.bind hu ?_
  cases hd : te.desc <;> rw [hd] at h <;> simp only [kindD] at h <;> try (cases x <;> cases y <;> simp [sEq] at h; done)
  · cases x <;> cases y <;> simp only [sEq] at h <;> try (cases h; done)
    obtain rfl := Option.some.inj h
    exact Rd.ret _
  · cases x <;> cases y <;> simp only [sEq] at h <;> try (cases h; done)
    rename_i k a k' b'
    split at h
    · rename_i hk
      obtain rfl := Option.some.inj h
      simp only [hk, if_true]
      exact Rd.ret _
    · cases h
  · cases x <;> cases y <;> simp only [sEq] at h <;> try (cases h; done)
    obtain rfl := Option.some.inj h
    exact Rd.ret _
theorem rd_flat_loop {P : Program} {H : Heap} {xs ys : Array Value} (d : Nat) : ∀ (fs : List Field) (l : List (TK × Nat)) (b : Bool), flatF P fs = some l → allEq xs ys l = some b →
    Rd P H (forIn fs (none, ()) fun f (_ : Option Bool × Unit) => do
      if f.name ≠ "_" then
        let __do_lift ← part f.type xs f.offset
        let __do_lift_1 ← part f.type ys f.offset
        let __do_lift ← Op.equalIn (d + 1) f.type __do_lift __do_lift_1
        if (!__do_lift) = true then pure (ForInStep.done (some false, ())) else pure (ForInStep.yield (none, ()))
      else pure (ForInStep.yield (none, ())) : Sem (Option Bool × Unit)) (if b then (none, ()) else (some false, ()))
  | [], l, b, hl, hb => by
    obtain rfl := Option.some.inj hl
    obtain rfl := Option.some.inj hb
    exact Rd.ret _
  | f :: fs, l, b, hl, hb => by
    unfold flatF at hl
    by_cases hn : f.name ≠ "_"
    · rw [if_pos hn] at hl
      split at hl
      · rename_i tf l' ht hl'
        split at hl
        · rename_i hk
          obtain rfl := Option.some.inj hl
          obtain ⟨tt, h1, h2, h3, h4, h5⟩ := tl_spec ht
          have hag : aggD tt.desc = false := by rw [← agg_kind, h2]; exact hk
          simp only [allEq] at hb
          cases hx : xs[f.offset]? with
          | none => rw [hx] at hb; simp [sEq] at hb
          | some x =>
            cases hy : ys[f.offset]? with
            | none => rw [hy] at hb; simp [sEq] at hb
            | some y =>
              rw [hx, hy, ← h2] at hb
              rw [List.forIn_cons]
              cases hs : sEq (kindD tt.desc) (some x) (some y) with
              | none => rw [hs] at hb; simp at hb
              | some r =>
                rw [hs] at hb
                refine Rd.bind (x := if r then ForInStep.yield (none, ()) else ForInStep.done (some false, ())) ?_ ?_
                · simp only [hn, ne_eq, not_false_eq_true, if_true]
                  refine Rd.bind (rd_int_part h1 hag hx) (Rd.bind (rd_int_part h1 hag hy) (Rd.bind (rd_equal_scalar h1 d hs) ?_))
                  cases r <;> exact Rd.ret _
                · cases r with
                  | true => exact rd_flat_loop d fs l' b hl' hb
                  | false =>
                    obtain rfl := Option.some.inj hb
                    exact Rd.ret _
        · cases hl
      · cases hl
    · rw [if_neg hn] at hl; cases hl
theorem rd_equal_flat {P : Program} {H : Heap} {t : TypeId} {l : List (TK × Nat)} {xs ys : Array Value} {b : Bool} (h : flatS P t = some l) (hb : allEq xs ys l = some b) : Rd P H (Op.equal t (.agg xs) (.agg ys)) b := by
  unfold flatS at h
  split at h
  · cases h
  · rename_i hst
    split at h
    · cases h
    · split at h
      · rename_i ti ht
        split at h
        · rename_i fs hd
          have hu := rd_underlying (H := H) ht
          rw [hd] at hu
          unfold Op.equal Op.maxDepth Op.equalIn
          refine Rd.bind hu ?_
          simp only []
          refine Rd.bind Rd.program ?_
          simp only [hst, Bool.false_eq_true, if_false]
          refine Rd.bind (x := if b then (none, ()) else (some false, ())) ?_ ?_
          · rw [← Array.forIn_toList]
            exact rd_flat_loop 9998 fs.toList l b h hb
          · cases b <;> exact Rd.ret _
        · cases h
      · cases h
theorem binX_flat {P : Program} {op : BinOp} {t : TypeId} {ox oy : Operand} {l : List (TK × Nat)} {xs ys : Array Value} {b : Bool} {H : Heap} {K : Value → Prop} (hs : flatS P t = some l) (hb : allEq xs ys l = some b) :
    (match op with | .eql => K (.bool b) | .neq => K (.bool (!b)) | _ => False) → binX P op t ox oy (.agg xs) (.agg ys) H K := by
  intro hK
  have hq := rd_equal_flat (H := H) hs hb
  have hg : P.eqGuardType P.depth t = false := by
    unfold flatS at hs
    split at hs
    · cases hs
    · split at hs
      · cases hs
      · rename_i h; simpa using h
  have guard : ∀ op, (op = .eql ∨ op = .neq) → Rd P H (eqGuard op t ox oy (.agg xs) (.agg ys)) () := fun op ho => by
    unfold eqGuard
    rcases ho with rfl | rfl
    all_goals
      simp only [Bool.not_true, Bool.false_eq_true, if_false]
      refine Rd.bind Rd.program (Rd.bind Rd.program ?_)
      rw [hg]
      exact Rd.ret _
  unfold binX
  simp only []
  cases op <;> simp only [] at hK <;> first | exact hK.elim | skip
  · exact ⟨_, Rd.bind (guard _ (.inl rfl)) (Rd.bind hq (Rd.ret _)), hK⟩
  · exact ⟨_, Rd.bind (guard _ (.inr rfl)) (Rd.bind hq (Rd.ret _)), hK⟩
end Go.Hp
