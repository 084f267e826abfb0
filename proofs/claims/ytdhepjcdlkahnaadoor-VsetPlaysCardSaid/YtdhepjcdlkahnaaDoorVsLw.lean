/-
  The library's table, laid as the row says: what the walks are told of it; the door's own heap meets the condition.
-/
import Derived.Test.YtdhepjcdlkahnaaDoorRows
import Derived.Test.YtdhepjcdlkahnaaDoorVsA
import Derived.Test.YtdhepjcdlkahnaaDoorLawIn
import Derived.WalkKit
import Derived.ProofKit
import Derived.LaidMore
import Derived.OpenShut
import Derived.Stop.Joined
namespace Go.Proofs.YtdhepjcdlkahnaaDoor
open Go Go.Hp Go.Vs Go.ChangeShapes Go.WideShapes Go.ChangeAt Go.WideMaps Go.WideElems Go.RowKit
set_option linter.unusedVariables false
set_option maxRecDepth 100000

def laidT : List (String × DataW Unit) := [("math/bits.deBruijn64tab", Rows.laid_math_bits_deBruijn64tab)]
theorem gTab : Tryd.prog.globalNamed "math/bits.deBruijn64tab" = some 0 := by kernel_rfl
theorem tTab : (Tryd.prog.globals[0]?).map (·.type) = some 104 := by kernel_rfl
theorem door_met (os : Os) (args : Array Value) : laidMetH Tryd.prog laidT ((World.doorLaid Tryd.prog 400 os).forCall (fun _ _ => 0) ⟨#[], args, []⟩).memory :=
  laidMetH_of_parts3 (fuel := 8) (laidMet_of_run' 8 (by kernel_rfl) (by kernel_rfl)) (by kernel_rfl) (by kernel_rfl)
theorem of_laid {W : World} (h : laidMetH Tryd.prog laidT W) : TabH W.heap := by
  rw [MakeChecks.laidMetH_plain _ _ _ (by kernel_rfl)] at h
  obtain ⟨ps, ⟨g0, t0, cs0, f0, p0, q0, hg0, ht0, hv0, hd0, _, _⟩, _, _⟩ := h
  obtain rfl := Option.some.inj (gTab.symm.trans hg0)
  obtain rfl := Option.some.inj (tTab.symm.trans ht0)
  obtain ⟨xs, m1, rfl, hx1, hlen, hn3, hel⟩ := DataW.trod_array Tryd.underlying104 hd0
  have c5 : Tryd.prog.cellsOf 5 = 1 := by kernel_rfl
  simp only [Prod.mk.injEq] at hx1
  have hd : Rows.laid_math_bits_deBruijn64tab (H := Unit) = .agg (tab64.map fun k : Nat => .lit (.int .u8 (k : Int))) := rfl
  have hmap : tab64.map (fun k : Nat => (.lit (.int .u8 (k : Int)) : DataW Unit)) = xs.map (·.1) := by
    have := hx1.1
    rw [hd] at this
    simpa using this
  intro j k hj
  have hj64 : j < 64 := by
    have := (List.getElem?_eq_some_iff.1 hj).1
    exact this
  have h1 := hel j hj64
  have hxj : (xs[j]?).map (·.1) = some (.lit (.int .u8 (k : Int))) := by
    rw [← List.getElem?_map, ← hmap, List.getElem?_map, hj]; rfl
  cases hx : xs[j]? with
  | none => rw [hx] at hxj; cases hxj
  | some x =>
    rw [hx] at hxj h1
    obtain ⟨n, e1, e2, _⟩ := DataW.trod_int Tryd.underlying5 h1
    rw [e2] at hxj
    simp only [Option.map_some, Option.some.injEq, DataW.lit.injEq, Lit.int.injEq, true_and] at hxj
    subst hxj
    have := World.var?_cell hg0 hv0 j
    rw [c5, Nat.mul_one] at e1
    have h2 : cs0[j]? = some (.int .u8 (k : Int)) := by
      rw [← Array.getElem?_toList]
      have h3 : (cs0.toList.drop j)[0]? = some (.int .u8 (k : Int)) := by
        have h4 : ((cs0.toList.drop j).take 1)[0]? = some (.int .u8 (k : Int)) := by rw [e1]; rfl
        rw [List.getElem?_take] at h4
        simpa using h4
      rw [List.getElem?_drop] at h3
      simpa using h3
    rw [h2] at this
    exact this
end Go.Proofs.YtdhepjcdlkahnaaDoor
