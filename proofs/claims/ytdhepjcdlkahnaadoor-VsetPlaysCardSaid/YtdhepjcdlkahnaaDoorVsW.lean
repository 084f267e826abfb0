/-
  Equality of the document's sets (a struct of one array of bools), as values.
-/
import Derived.Test.YtdhepjcdlkahnaaDoorVsR
namespace Go.Hp
open Go
set_option linter.unusedVariables false
/-- A struct of one field: its type. -/
def oneF (P : Program) (t : TypeId) : Option TypeId :=
  match tab P t with
  | some ti => match ti.desc with
    | .struct fs => match fs.toList with
      | [f] => if f.name ≠ "_" ∧ f.offset = 0 then some f.type else none
      | _ => none
    | _ => none
  | none => none
theorem oneF_spec {P : Program} {t u : TypeId} (h : oneF P t = some u) : ∃ ti fs f, tab P t = some ti ∧ ti.desc = .struct fs ∧ fs.toList = [f] ∧ f.name ≠ "_" ∧ f.offset = 0 ∧ f.type = u := by
  unfold oneF at h
  split at h
  · rename_i ti ht
    split at h
    · rename_i fs hd
      split at h
      · rename_i f hf
        split at h
        · rename_i hc
          obtain rfl := Option.some.inj h
          exact ⟨ti, fs, f, ht, hd, hf, hc.1, hc.2, rfl⟩
        · cases h
      · cases h
    · cases h
  · cases h
theorem rd_arr_loop {P : Program} {H : Heap} {e : TypeId} {te : TI} (he : tab P e = some te) (hag : aggD te.desc = false) (hk : kindD te.desc = .bool) {xs ys : Array Value} (p q : Nat → Bool) (n d : Nat) (hn : n = 1) : ∀ (l : List Nat), (∀ i ∈ l, xs[i]? = some (.bool (p i)) ∧ ys[i]? = some (.bool (q i))) →
    Rd P H (forIn l (none, ()) fun i (_ : Option Bool × Unit) => do
      let __do_lift ← part e xs (i * n)
      let __do_lift_1 ← part e ys (i * n)
      let __do_lift ← Op.equalIn (d + 1) e __do_lift __do_lift_1
      if (!__do_lift) = true then pure (ForInStep.done (some false, ())) else pure (ForInStep.yield (none, ())) : Sem (Option Bool × Unit)) (if l.all (fun i => p i == q i) then (none, ()) else (some false, ()))
  | [], _ => Rd.ret _
  | i :: l, h => by
    obtain ⟨h1, h2⟩ := h i (.head _)
    rw [List.forIn_cons]
    subst hn
    refine Rd.bind (x := if p i == q i then ForInStep.yield (none, ()) else ForInStep.done (some false, ())) ?_ ?_
    · refine Rd.bind (rd_int_part he hag (v := .bool (p i)) (by rw [Nat.mul_one]; exact h1)) (Rd.bind (rd_int_part he hag (v := .bool (q i)) (by rw [Nat.mul_one]; exact h2)) (Rd.bind (rd_equal_scalar he d (b := p i == q i) (by rw [hk]; rfl)) ?_))
      cases p i == q i <;> exact Rd.ret _
    · rw [List.all_cons]
      cases hpq : p i == q i with
      | true => exact rd_arr_loop he hag hk p q 1 d rfl l fun j hj => h j (.tail _ hj)
      | false => exact Rd.ret _
theorem binX_arr {P : Program} {op : BinOp} {t u e : TypeId} {ox oy : Operand} {len : Nat} {te : TL} {xs ys : Array Value} {p q : Nat → Bool} {H : Heap} {K : Value → Prop} (h1 : oneF P t = some u) (h2 : elems P u = some (some len, e, 1)) (h3 : tl P e = some te) (h4 : te.kind = .bool) (hst : P.stoodInHeld t = false) (hg : P.eqGuardType P.depth t = false)
    (hsz : ∀ ti, tab P u = some ti → ti.size = len) (hx : xs.size = len) (hy : ys.size = len) (hp : ∀ i, i < len → xs[i]? = some (.bool (p i)) ∧ ys[i]? = some (.bool (q i)))
    (hK : match op with | .eql => K (.bool ((List.range len).all fun i => p i == q i)) | .neq => K (.bool (!((List.range len).all fun i => p i == q i))) | _ => False) : binX P op t ox oy (.agg xs) (.agg ys) H K := by
  have hq : Rd P H (Op.equal t (.agg xs) (.agg ys)) ((List.range len).all fun i => p i == q i) := by
    obtain ⟨ti, fs, f, a1, a2, a3, a4, a5, a6⟩ := oneF_spec h1
    obtain ⟨ui, ei, c1, c2, c3, c4⟩ := elems_spec h2
    obtain ⟨tt, d1, d2, d3, d4, d5⟩ := tl_spec h3
    have hu := rd_underlying (H := H) a1
    rw [a2] at hu
    have huu := rd_underlying (H := H) c1
    rw [c4] at huu
    simp only [descOf] at huu
    have hag : aggD tt.desc = false := by rw [← agg_kind, d2, h4]; rfl
    unfold Op.equal Op.maxDepth Op.equalIn
    refine Rd.bind hu ?_
    simp only []
    refine Rd.bind Rd.program ?_
    simp only [hst, Bool.false_eq_true, if_false]
    have whole : ∀ zs : Array Value, zs.size = len → Rd P H (part u zs 0) (.agg zs) := fun zs hz => by
      unfold part
      have ha := rd_isAgg (H := H) c1
      rw [c4] at ha
      refine Rd.bind ha ?_
      simp only [descOf, aggD, if_true]
      refine Rd.bind (rd_sizeOf c1) ?_
      rw [hsz ui c1, Nat.zero_add, ← hz, Array.extract_size]
      exact Rd.ret _
    refine Rd.bind (x := if (List.range len).all (fun i => p i == q i) then (none, ()) else (some false, ())) ?_ ?_
    · rw [← Array.forIn_toList, a3, List.forIn_cons]
      refine Rd.bind (x := if (List.range len).all (fun i => p i == q i) then ForInStep.yield (none, ()) else ForInStep.done (some false, ())) ?_ ?_
      · simp only [a4, ne_eq, not_false_eq_true, if_true, a5, a6]
        refine Rd.bind (whole xs hx) (Rd.bind (whole ys hy) (Rd.bind (x := (List.range len).all fun i => p i == q i) ?_ ?_))
        · unfold Op.equalIn
          refine Rd.bind huu ?_
          simp only []
          refine Rd.bind (rd_sizeOf c2) ?_
          refine Rd.bind (x := if (List.range len).all (fun i => p i == q i) then (none, ()) else (some false, ())) ?_ ?_
          · rw [Std.Legacy.Range.forIn_eq_forIn_range']
            have er : List.range' ([0:len] : Std.Legacy.Range).start ([0:len] : Std.Legacy.Range).size ([0:len] : Std.Legacy.Range).step = List.range len := by
              rw [List.range_eq_range']
              show List.range' 0 (Std.Legacy.Range.size [0:len]) 1 = _
              simp [Std.Legacy.Range.size]
            rw [er]
            exact rd_arr_loop d1 hag (by rw [d2]; exact h4) p q ei.size 9997 c3 (List.range len) fun i hi => hp i (List.mem_range.1 hi)
          · cases (List.range len).all (fun i => p i == q i) <;> exact Rd.ret _
        · cases (List.range len).all (fun i => p i == q i) <;> exact Rd.ret _
      · cases (List.range len).all (fun i => p i == q i) <;> exact Rd.ret _
    · cases (List.range len).all (fun i => p i == q i) <;> exact Rd.ret _
  have guard : ∀ op, (op = .eql ∨ op = .neq) → Rd P H (eqGuard op t ox oy (.agg xs) (.agg ys)) () := fun op ho => by
    unfold eqGuard
    rcases ho with rfl | rfl
    all_goals
      simp only [Bool.not_true, Bool.false_eq_true, if_false]
      refine Rd.bind Rd.program (Rd.bind Rd.program ?_)
      rw [hg]
      exact Rd.ret _
  unfold binX
  simp only []
  cases op <;> simp only [] at hK <;> first | exact hK.elim | skip
  · exact ⟨_, Rd.bind (guard _ (.inl rfl)) (Rd.bind hq (Rd.ret _)), hK⟩
  · exact ⟨_, Rd.bind (guard _ (.inr rfl)) (Rd.bind hq (Rd.ret _)), hK⟩
end Go.Hp
namespace Go.Proofs.YtdhepjcdlkahnaaDoor
open Go Go.Hp Go.Vs
set_option linter.all false
set_option maxRecDepth 100000

theorem one42 : oneF Tryd.prog 42 = some 40 := by kernel_rfl
theorem size40 : (tab Tryd.prog 40).map (·.size) = some 64 := by kernel_rfl
theorem all_eq (a b : B64) : ((List.range 64).all fun i => a.getLsbD i == b.getLsbD i) = decide (a = b) := by
  rw [Bool.eq_iff_iff, decide_eq_true_iff, List.all_eq_true]
  constructor
  · intro h
    apply BitVec.eq_of_getLsbD_eq
    intro i hi
    simpa using h i (List.mem_range.2 hi)
  · intro e i _; rw [e]; simp
theorem dset_eq {op : BinOp} {ox oy : Operand} {a b : B64} {H : Heap} {K : Value → Prop} (hK : match op with | .eql => K (.bool (decide (a = b))) | .neq => K (.bool (!decide (a = b))) | _ => False) : binX Tryd.prog op 42 ox oy (dv a) (dv b) H K := by
  refine binX_arr (p := fun i => a.getLsbD i) (q := fun i => b.getLsbD i) one42 elems40 tl4 rfl (by kernel_rfl) (by kernel_rfl) (fun ti h => ?_) (size64 a) (size64 b) (fun i hi => ⟨?_, ?_⟩) ?_
  · have := size40; rw [h] at this; exact Option.some.inj this
  · rw [List.getElem?_toArray]; exact bools_at a hi
  · rw [List.getElem?_toArray]; exact bools_at b hi
  · rw [all_eq]; exact hK
end Go.Proofs.YtdhepjcdlkahnaaDoor
