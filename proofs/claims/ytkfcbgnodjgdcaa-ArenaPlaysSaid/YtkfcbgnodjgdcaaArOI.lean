/-
  A script of ArenaPlays that came in.
-/
import Derived.Test.YtkfcbgnodjgdcaaLawIn
import Derived.Test.YtkfcbgnodjgdcaaArPl
namespace Go.Proofs.Ytkfcbgnodjgdcaa
open Go Go.Hp Go.ChangeShapes Go.WideShapes Go.RowKit
set_option linter.unusedVariables false
section
variable {E : Type} {enc : TypeId × Value → E} {P : Program} {w : World} {base : Nat} {spare : Nat → Bool} {held : Bool}
theorem part_in {e : TypeId} {fs : Array Field} {cs : List Value} {m : Nat} {y : DataW E × List MemPlace} (he : P.underlying e = some (.struct fs)) (h3 : DataW.trod enc P w base spare held m e cs = some y) (i : Nat) {f : Field} (hf : fs[i]? = some f) :
    ∃ (z : DataW E × List MemPlace) (m' : Nat), DataW.trod enc P w base spare held m' f.type ((cs.drop f.offset).take (P.cellsOf f.type)) = some z := by
  obtain ⟨xs, n', _, _, hlen, hxl, hfs⟩ := DataW.trod_struct he h3
  have hlt : i < fs.size := (Array.getElem?_eq_some_iff.1 hf).1
  exact ⟨_, n', (hfs i f hf).trans (List.getElem?_eq_getElem (by omega))⟩
theorem one_at {cs : List Value} {o : Nat} {v : Value} (h : (cs.drop o).take 1 = [v]) : cs[o]? = some v := by
  have := congrArg (fun l => l[0]?) h
  simp only [List.getElem?_cons_zero] at this
  rw [List.getElem?_take_of_lt (by omega), List.getElem?_drop] at this
  exact this
theorem arops_in {t : TypeId} {a : Option Addr} {len cap : Nat} {d : DataW E} {p : List MemPlace} (ht : Try.prog.underlying t = some (.slice 60)) (h : DataW.Trod enc Try.prog w base spare held t (.slice a len cap) d p) :
    len ≤ 9223372036854775807 ∧ ∃ zs, InArOps w.heap a len zs := by
  obtain ⟨hl, hi⟩ := cells_in ht h
  have hc : Try.prog.cellsOf 60 = 4 := by kernel_rfl
  have c1 : Try.prog.cellsOf 3 = 1 := by kernel_rfl
  have cb : Try.prog.cellsOf 4 = 1 := by kernel_rfl
  rw [hc] at hi
  have spot : ∀ q, a = some q → 0 < len → q.spot = none := fun q hq h0 => by
    obtain ⟨q', cs, m, y, h1, h2, h3⟩ := hi 0 h0
    rw [hq] at h1
    obtain rfl := Option.some.inj h1
    obtain ⟨_, hcl, hcell'⟩ := World.cells?_some h2
    have := hcell' 0 (by omega)
    rw [List.getElem?_eq_getElem (by omega)] at this
    have : hcell w.heap ((q.add (0 * 4)).add 0) = some _ := this
    unfold hcell Addr.add at this
    simp only [Nat.zero_mul, if_true] at this
    obtain ⟨qb, qo, qs⟩ := q
    cases qs with
    | none => rfl
    | some x =>
      exfalso
      split at this
      · simp at this
      · cases this
  have each : ∀ i, i < len → ∃ (b n : Nat) (o : ArOp), a = some ⟨b, n, none⟩ ∧ Cells (o.cells b (n + i * 4)) w.heap := fun i hlt => by
    obtain ⟨q, cs, m, y, h1, h2, h3⟩ := hi i hlt
    obtain ⟨_, hcl, hcell'⟩ := World.cells?_some h2
    obtain ⟨z0, m0, t0⟩ := part_in Try.underlying60 h3 0 rfl
    obtain ⟨z1, m1, t1⟩ := part_in Try.underlying60 h3 1 rfl
    obtain ⟨z2, m2, t2⟩ := part_in Try.underlying60 h3 2 rfl
    obtain ⟨z3, m3, t3⟩ := part_in Try.underlying60 h3 3 rfl
    obtain ⟨k0, e0, _, w0⟩ := DataW.trod_int Try.underlying3 t0
    obtain ⟨k1, e1, _, w1⟩ := DataW.trod_int Try.underlying3 t1
    obtain ⟨k2, e2, _, w2⟩ := DataW.trod_int Try.underlying3 t2
    obtain ⟨b3, e3, _⟩ := DataW.trod_bool Try.underlying4 t3
    have e0 : (cs.drop 0).take (Try.prog.cellsOf 3) = [.int .i64 k0] := e0
    have e1 : (cs.drop 1).take (Try.prog.cellsOf 3) = [.int .i64 k1] := e1
    have e2 : (cs.drop 2).take (Try.prog.cellsOf 3) = [.int .i64 k2] := e2
    have e3 : (cs.drop 3).take (Try.prog.cellsOf 4) = [.bool b3] := e3
    rw [c1] at e0 e1 e2
    rw [cb] at e3
    have r0 := one_at e0
    have r1 := one_at e1
    have r2 := one_at e2
    have r3 := one_at e3
    have g : ∀ j v, j < 4 → cs[j]? = some v → hcell w.heap ((q.add (i * 4)).add j) = some v := fun j v hj hv => by
      have := hcell' j hj
      rw [hv] at this
      exact this
    obtain ⟨qb, qo, qs⟩ := q
    have hs : qs = none := spot _ h1 (by omega)
    subst hs
    have ad : ∀ j, (((⟨qb, qo, none⟩ : Addr).add (i * 4)).add j) = ⟨qb, qo + i * 4 + j, none⟩ := fun j => by
      unfold Addr.add
      by_cases h4 : i * 4 = 0
      · by_cases hj : j = 0
        · simp [h4, hj]
        · simp [h4, hj]
      · by_cases hj : j = 0
        · simp [h4, hj]
        · simp [h4, hj]
    simp only [ad] at g
    exact ⟨qb, qo, ⟨k0, k1, k2, b3⟩, h1, by have := g 0 _ (by omega) r0; exact this, by have := g 1 _ (by omega) r1; exact this, by have := g 2 _ (by omega) r2; exact this, by have := g 3 _ (by omega) r3; exact this, trivial⟩
  refine ⟨hl, fun i => if h : i < len then (each i h).choose_spec.choose_spec.choose else ⟨0, 0, 0, false⟩, fun i hlt => ?_⟩
  have e := (each i hlt).choose_spec.choose_spec.choose_spec
  simp only [hlt, dif_pos]
  exact ⟨_, _, e.1, e.2⟩
end
end Go.Proofs.Ytkfcbgnodjgdcaa
