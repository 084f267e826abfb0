/-
  What a law's walk is told of slices of items that came in.
-/
import Derived.Test.YtndkbhlfbeiniaaLawIn
import Derived.Test.YtndkbhlfbeiniaaM6
namespace Go.Proofs.Ytndkbhlfbeiniaa
open Go Go.Hp Go.Sp Go.ChangeShapes Go.WideShapes Go.RowKit
set_option linter.unusedVariables false
section
variable {E : Type} {enc : TypeId × Value → E} {w : World} {base : Nat} {spare : Nat → Bool} {held : Bool}
theorem items_in {t : TypeId} {a : Option Addr} {len cap : Nat} {d : DataW E} {p : List MemPlace} (ht : Try.prog.underlying t = some (.slice 31)) (h : DataW.Trod enc Try.prog w base spare held t (.slice a len cap) d p) :
    len ≤ 9223372036854775807 ∧ ∃ zs, InItems w.heap a len zs := by
  obtain ⟨hl, hi⟩ := cells_in ht h
  have hc : Try.prog.cellsOf 31 = 3 := by kernel_rfl
  rw [hc] at hi
  have each : ∀ i, i < len → ∃ (q : Addr) (x : Sp.Item), a = some q ∧ hcell w.heap (q.add (i * 3)) = some (.int .i64 x.value) ∧ hcell w.heap ⟨(q.add (i * 3)).block, (q.add (i * 3)).off + 1, none⟩ = some (.bool x.counts) ∧
      hcell w.heap ⟨(q.add (i * 3)).block, (q.add (i * 3)).off + 2, none⟩ = some (.int .i64 x.flags) ∧ Fits x := fun i hlt => by
    obtain ⟨q, cs, m, y, h1, h2, h3⟩ := hi i hlt
    obtain ⟨v0, z0, m0, c0, t0⟩ := field_in Try.underlying31 h2 h3 0 rfl (by kernel_rfl) (by decide)
    obtain ⟨v1, z1, m1, c1, t1⟩ := field_in Try.underlying31 h2 h3 1 rfl (by kernel_rfl) (by decide)
    obtain ⟨v2, z2, m2, c2, t2⟩ := field_in Try.underlying31 h2 h3 2 rfl (by kernel_rfl) (by decide)
    obtain ⟨n0, e0, _, w0⟩ := DataW.trod_int Try.underlying3 t0
    obtain ⟨b1, e1, _⟩ := DataW.trod_bool Try.underlying4 t1
    obtain ⟨n2, e2, _, w2⟩ := DataW.trod_int Try.underlying3 t2
    simp only [List.cons.injEq, and_true] at e0 e1 e2
    subst e0 e1 e2
    exact ⟨q, ⟨n0, b1, n2⟩, h1, c0, c1, c2, fit_of_wf w0, fit_of_wf w2⟩
  refine ⟨hl, fun i => if h : i < len then (each i h).choose_spec.choose else Sp.Item.zero, fun i hlt => ?_⟩
  have e := (each i hlt).choose_spec.choose_spec
  simp only [hlt, dif_pos]
  exact ⟨_, e.1, e.2.1, e.2.2.1, e.2.2.2.1, e.2.2.2.2⟩
end
end Go.Proofs.Ytndkbhlfbeiniaa
