/-
  From a call over heaps to a law's walk over worlds.
-/
import Derived.Test.YtafehbegoanajaaHpM
namespace Go.Hp
open Go
/-- A law's walk, told of worlds. -/
theorem below_of {w w' : World} (hf : Fr (fun _ => False) w.heap w'.heap) (hl : Like w w') : Go.RowKit.Below w.heap.size w w' :=
  ⟨hl.os, hl.tape, hl.output, hf.size, fun k hk => hf.same k hk fun h => h⟩
theorem calls_law {P : Program} {f : FuncId} {args : Array Value} {w : World} (h : CallsH P f args w.heap fun v H' => v = .bool true ∧ Fr (fun _ => False) w.heap H') :
    Calls P f args w fun e w' => e = .returned (.bool true) ∧ Go.RowKit.Below w.heap.size w w' :=
  (h.2 w rfl).mono fun _ _ ⟨_, h1, ⟨h2, h3⟩, h4⟩ => ⟨by rw [h1, h2], below_of h3 h4⟩
end Go.Hp
