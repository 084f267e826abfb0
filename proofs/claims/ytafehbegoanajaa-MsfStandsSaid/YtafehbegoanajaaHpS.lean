/-
  Equality of pairs of ints as values.
-/
import Derived.Test.YtafehbegoanajaaHpM
namespace Go.Hp
open Go
set_option linter.unusedVariables false

theorem rd_int_part {P : Program} {H : Heap} {e : TypeId} {te : TI} (he : tab P e = some te) (ha : aggD te.desc = false) {cs : Array Value} {i : Nat} {v : Value} (hv : cs[i]? = some v) : Rd P H (part e cs i) v := by
  unfold part
  refine Rd.bind (rd_isAgg he) ?_
  rw [ha]
  simp only [Bool.false_eq_true, if_false, hv]
  exact Rd.ret _
theorem rd_equal_int {P : Program} {H : Heap} {e : TypeId} {te : TI} {k : IntKind} (he : tab P e = some te) (hd : te.desc = .int k) (d : Nat) (a b : Int) : Rd P H (Op.equalIn (d + 1) e (.int k a) (.int k b)) (a == b) := by
  have hu := rd_underlying (H := H) he
  rw [hd] at hu
  unfold Op.equalIn
  refine Rd.bind hu ?_
  simp only [if_true]
  exact Rd.ret _
theorem rd_equal_two {P : Program} {H : Heap} {t e : TypeId} {tt te : TI} (ht : tab P t = some tt) (htd : tt.desc = .array 2 e) (he : tab P e = some te) (hd : te.desc = .int .i64) (hs : te.size = 1) (a b c d : Int) :
    Rd P H (Op.equal t (.agg #[.int .i64 a, .int .i64 b]) (.agg #[.int .i64 c, .int .i64 d])) (a == c && b == d) := by
  have hu := rd_underlying (H := H) ht
  rw [htd] at hu
  unfold Op.equal Op.maxDepth Op.equalIn
  refine Rd.bind hu ?_
  simp only []
  refine Rd.bind (rd_sizeOf he) ?_
  rw [hs]
  simp only [Std.Legacy.Range.forIn_eq_forIn_range', Std.Legacy.Range.size, List.range', Nat.reduceSub, Nat.reduceAdd, Nat.reduceDiv, Nat.zero_add, List.forIn_cons, List.forIn_nil]
  have round : ∀ (i : Nat) (x y : Int), (#[Value.int .i64 a, .int .i64 b] : Array Value)[i * 1]? = some (.int .i64 x) → (#[Value.int .i64 c, .int .i64 d] : Array Value)[i * 1]? = some (.int .i64 y) →
      Rd P H (do
        let u ← part e #[Value.int .i64 a, .int .i64 b] (i * 1)
        let v ← part e #[Value.int .i64 c, .int .i64 d] (i * 1)
        let r ← Op.equalIn 9999 e u v
        if (!r) = true then pure (ForInStep.done (some false, ())) else pure (ForInStep.yield (none, ())) : Sem (ForInStep (Option Bool × Unit)))
      (if x == y then .yield (none, ()) else .done (some false, ())) := fun i x y h1 h2 => by
    have hag : aggD te.desc = false := by rw [hd]; rfl
    refine Rd.bind (rd_int_part he hag h1) (Rd.bind (rd_int_part he hag h2) (Rd.bind (rd_equal_int he hd 9998 x y) ?_))
    cases x == y <;> exact Rd.ret _
  refine Rd.bind (x := if a == c then (if b == d then (none, ()) else (some false, ())) else (some false, ())) ?_ ?_
  · refine Rd.bind (round 0 a c rfl rfl) ?_
    cases h1 : a == c
    · exact Rd.ret _
    · refine Rd.bind (round 1 b d rfl rfl) ?_
      cases h2 : b == d <;> exact Rd.ret _
  · cases h1 : a == c
    · exact Rd.ret _
    · cases h2 : b == d <;> exact Rd.ret _
theorem binX_two {P : Program} {op : BinOp} {t e : TypeId} {ox oy : Operand} {te : TL} {a b c d : Int} {H : Heap} {K : Value → Prop} (he : elems P t = some (some 2, e, 1)) (ht : tl P e = some te) (hk : te.kind = .int .i64)
    (hg : P.eqGuardType P.depth t = false) : (match op with | .eql => K (.bool (a == c && b == d)) | .neq => K (.bool (!(a == c && b == d))) | _ => False) →
    binX P op t ox oy (.agg #[.int .i64 a, .int .i64 b]) (.agg #[.int .i64 c, .int .i64 d]) H K := by
  intro hK
  obtain ⟨tt, te', h1, h2, h3, h4⟩ := elems_spec he
  obtain ⟨te2, h5, h6, _⟩ := tl_spec ht
  rw [h2] at h5
  obtain rfl := Option.some.inj h5
  have hd : te'.desc = .int .i64 := by
    rw [hk] at h6
    cases hh : te'.desc <;> rw [hh] at h6 <;> simp [kindD] at h6
    rw [h6]
  have hq := rd_equal_two (H := H) h1 h4 h2 hd h3 a b c d
  have guard : ∀ op, (op = .eql ∨ op = .neq) → Rd P H (eqGuard op t ox oy (.agg #[.int .i64 a, .int .i64 b]) (.agg #[.int .i64 c, .int .i64 d])) () := fun op ho => by
    unfold eqGuard
    rcases ho with rfl | rfl
    all_goals
      simp only [Bool.not_true, Bool.false_eq_true, if_false]
      refine Rd.bind Rd.program (Rd.bind Rd.program ?_)
      rw [hg]
      exact Rd.ret _
  unfold binX
  simp only []
  cases op <;> simp only [] at hK <;> first | exact hK.elim | skip
  · exact ⟨_, Rd.bind (guard _ (.inl rfl)) (Rd.bind hq (Rd.ret _)), hK⟩
  · exact ⟨_, Rd.bind (guard _ (.inr rfl)) (Rd.bind hq (Rd.ret _)), hK⟩
end Go.Hp
