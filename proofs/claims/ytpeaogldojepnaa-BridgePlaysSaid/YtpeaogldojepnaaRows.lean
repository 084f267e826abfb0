/-
  No cell of these rows narrows 'for every input' (looked for: loops, veiled, ifaces, maps, wideKeys, modest, calm, conditions, laid).
  DERIVED. THE GIVEN ROWS OF THIS SEAT. 5 by the template 'for every input the law returns true; each argument reads behind the call as it read before'; 0 by the template 'total and deterministic' (their statements: YtpeaogldojepnaaTotals.lean).
  GIVEN WITH THE SEED: the statements are not yours to turn. If you find one false, say at which input.
  Laid BY PROGRAM, IN A SANDBOX (cutbox-rows.mjs): the forced cells as the released guide's own fill.sh prints them over the translation 1ba35712795c35d6… (all of the seat's roots in one cut). By AI agents, Wed Nov 11 2026. No macro, syntax, notation, axiom, sorry.
-/
import Derived.Test.YtpeaogldojepnaaChecked
import GoSem.Claim
import GoSem.ClaimJoined
import GoSem.ClaimMapViews
import Derived.JoinedTies
import Derived.KernelRfl
namespace Go.Proofs.Ytpeaogldojepnaa
/- THE CELL 'sum', in the pinned program and in every row, IS THE sha256 OF THE DUMP (.gsa) THAT YtpeaogldojepnaaProg.lean LOADS. Nothing in Lean hashes anything: it is a label: what it is worth is what the hold of that sum in a sandbox is worth. -/
noncomputable def Try.pinned : Pinned := { name := "ytpeaogldojepnaa", sum := "1ba35712795c35d627d8a61f443ecd527f9b8d1cc4bb0d740100479b9d3d188f", checked := Try.checked }
namespace Rows
def none {H : Type} : Left H := { results := [], args := [] }

/-- 'isthmuslaw08.BridgeCounts': WHATEVER THE INPUT: true; the input reads as it did. -/
def bridgeCountsSpec : ChangeSpec := { name := "bridgeCounts", fn := fun _ => fun
  | [d1, d2] => { results := [.lit (.bool true)], args := [d1, d2] }
  | _ => none }
def bridgeCountsRow : OpenClaim := { program := "ytpeaogldojepnaa", sum := "1ba35712795c35d627d8a61f443ecd527f9b8d1cc4bb0d740100479b9d3d188f", func := "isthmus/isthmuslaw08.BridgeCounts", spec := "bridgeCounts", recurses := true, apart := false }
def BridgeCountsSaid : Prop := bridgeCountsRow.holds Try.pinned (OpenSpec.ofChange bridgeCountsSpec)

/-- ITS FALSE NEIGHBOUR: 'it returns false'. Refute it at one input. -/
def bridgeCountsWrong : ChangeSpec := { name := "bridgeCounts", fn := fun _ => fun
  | [d1, d2] => { results := [.lit (.bool false)], args := [d1, d2] }
  | _ => none }
def BridgeCountsWrongFalsely : Prop := bridgeCountsRow.holds Try.pinned (OpenSpec.ofChange bridgeCountsWrong)

/-- 'isthmuslaw08.BridgeOrder': WHATEVER THE INPUT: true; the input reads as it did. -/
def bridgeOrderSpec : ChangeSpec := { name := "bridgeOrder", fn := fun _ => fun
  | [d1, d2, d3] => { results := [.lit (.bool true)], args := [d1, d2, d3] }
  | _ => none }
def bridgeOrderRow : OpenClaim := { program := "ytpeaogldojepnaa", sum := "1ba35712795c35d627d8a61f443ecd527f9b8d1cc4bb0d740100479b9d3d188f", func := "isthmus/isthmuslaw08.BridgeOrder", spec := "bridgeOrder", recurses := true, apart := false }
def BridgeOrderSaid : Prop := bridgeOrderRow.holds Try.pinned (OpenSpec.ofChange bridgeOrderSpec)

/-- ITS FALSE NEIGHBOUR: 'it returns false'. Refute it at one input. -/
def bridgeOrderWrong : ChangeSpec := { name := "bridgeOrder", fn := fun _ => fun
  | [d1, d2, d3] => { results := [.lit (.bool false)], args := [d1, d2, d3] }
  | _ => none }
def BridgeOrderWrongFalsely : Prop := bridgeOrderRow.holds Try.pinned (OpenSpec.ofChange bridgeOrderWrong)

/-- 'isthmuslaw08.BridgePlays': WHATEVER THE INPUT: true; the input reads as it did. -/
def bridgePlaysSpec : ChangeSpec := { name := "bridgePlays", fn := fun _ => fun
  | [d1, d2, d3, d4] => { results := [.lit (.bool true)], args := [d1, d2, d3, d4] }
  | _ => none }
def bridgePlaysRow : OpenClaim := { program := "ytpeaogldojepnaa", sum := "1ba35712795c35d627d8a61f443ecd527f9b8d1cc4bb0d740100479b9d3d188f", func := "isthmus/isthmuslaw08.BridgePlays", spec := "bridgePlays", recurses := true, apart := false }
def BridgePlaysSaid : Prop := bridgePlaysRow.holds Try.pinned (OpenSpec.ofChange bridgePlaysSpec)

/-- ITS FALSE NEIGHBOUR: 'it returns false'. Refute it at one input. -/
def bridgePlaysWrong : ChangeSpec := { name := "bridgePlays", fn := fun _ => fun
  | [d1, d2, d3, d4] => { results := [.lit (.bool false)], args := [d1, d2, d3, d4] }
  | _ => none }
def BridgePlaysWrongFalsely : Prop := bridgePlaysRow.holds Try.pinned (OpenSpec.ofChange bridgePlaysWrong)

/-- 'isthmuslaw08.BridgeHolds': WHATEVER THE INPUT: true; the input reads as it did. -/
def bridgeHoldsSpec : ChangeSpec := { name := "bridgeHolds", fn := fun _ => fun
  | [d1, d2, d3, d4] => { results := [.lit (.bool true)], args := [d1, d2, d3, d4] }
  | _ => none }
def bridgeHoldsRow : OpenClaim := { program := "ytpeaogldojepnaa", sum := "1ba35712795c35d627d8a61f443ecd527f9b8d1cc4bb0d740100479b9d3d188f", func := "isthmus/isthmuslaw08.BridgeHolds", spec := "bridgeHolds", recurses := true, apart := false }
def BridgeHoldsSaid : Prop := bridgeHoldsRow.holds Try.pinned (OpenSpec.ofChange bridgeHoldsSpec)

/-- ITS FALSE NEIGHBOUR: 'it returns false'. Refute it at one input. -/
def bridgeHoldsWrong : ChangeSpec := { name := "bridgeHolds", fn := fun _ => fun
  | [d1, d2, d3, d4] => { results := [.lit (.bool false)], args := [d1, d2, d3, d4] }
  | _ => none }
def BridgeHoldsWrongFalsely : Prop := bridgeHoldsRow.holds Try.pinned (OpenSpec.ofChange bridgeHoldsWrong)

/-- 'isthmuslaw08.BridgeRing': WHATEVER THE INPUT: true; the input reads as it did. -/
def bridgeRingSpec : ChangeSpec := { name := "bridgeRing", fn := fun _ => fun
  | [d1, d2, d3, d4] => { results := [.lit (.bool true)], args := [d1, d2, d3, d4] }
  | _ => none }
def bridgeRingRow : OpenClaim := { program := "ytpeaogldojepnaa", sum := "1ba35712795c35d627d8a61f443ecd527f9b8d1cc4bb0d740100479b9d3d188f", func := "isthmus/isthmuslaw08.BridgeRing", spec := "bridgeRing", recurses := true, apart := false }
def BridgeRingSaid : Prop := bridgeRingRow.holds Try.pinned (OpenSpec.ofChange bridgeRingSpec)

/-- ITS FALSE NEIGHBOUR: 'it returns false'. Refute it at one input. -/
def bridgeRingWrong : ChangeSpec := { name := "bridgeRing", fn := fun _ => fun
  | [d1, d2, d3, d4] => { results := [.lit (.bool false)], args := [d1, d2, d3, d4] }
  | _ => none }
def BridgeRingWrongFalsely : Prop := bridgeRingRow.holds Try.pinned (OpenSpec.ofChange bridgeRingWrong)

/- THE SECOND FORM. 'bulk': how many values and letters a reading holds, each counted each time it is reached (what is shared counts as often as it is met; a slice's spare places count too). A statement '..UptoSaid' is the law's where the arguments, and the package variables that the reading takes, are together of bulk at most 1048576: NARROWER than '..Said'. Prove '..Said' where nothing that the law and all that it calls make is longer than what came in: it says more and counts as full. Else prove '..UptoSaid'. A law counts once. -/
mutual
def uptoBulk {H : Type} : DataW H → Nat
  | .lit (.string bytes) => bytes.length + 1
  | .lit _ => 1
  | .nil => 1
  | .ptr d => uptoBulk d + 1
  | .slice elems spare => uptoBulkAll elems + uptoBulkAll spare + 1
  | .agg parts => uptoBulkAll parts + 1
  | .iface _ d => uptoBulk d + 1
  | .map entries => uptoBulkEntries entries + 1
  | .held _ => 1
def uptoBulkAll {H : Type} : List (DataW H) → Nat
  | [] => 0
  | d :: r => uptoBulk d + uptoBulkAll r
def uptoBulkEntries {H : Type} : List (Lit × DataW H) → Nat
  | [] => 0
  | x :: r => uptoBulkEntry x + uptoBulkEntries r
def uptoBulkEntry {H : Type} : Lit × DataW H → Nat
  | (.string bytes, d) => bytes.length + uptoBulk d + 1
  | (_, d) => uptoBulk d + 1
 end
def uptoSmall : (H : Type) → List (DataW H) → Bool := fun _ ds => decide (uptoBulkAll ds ≤ 1048576)
def OpenSpec.upto (s : _root_.Go.ChangeSpec) : _root_.Go.OpenSpec := { _root_.Go.OpenSpec.ofChange s with cond := some uptoSmall }

/-- 'isthmuslaw08.BridgeCounts', WHERE WHAT IT READS IS OF BULK AT MOST 1048576: true; the input reads as it did. -/
def bridgeCountsUptoRow : OpenClaim := { program := "ytpeaogldojepnaa", sum := "1ba35712795c35d627d8a61f443ecd527f9b8d1cc4bb0d740100479b9d3d188f", func := "isthmus/isthmuslaw08.BridgeCounts", spec := "bridgeCounts", recurses := true, apart := false, narrowed := true }
def BridgeCountsUptoSaid : Prop := bridgeCountsUptoRow.holds Try.pinned (OpenSpec.upto bridgeCountsSpec)

/-- 'isthmuslaw08.BridgeOrder', WHERE WHAT IT READS IS OF BULK AT MOST 1048576: true; the input reads as it did. -/
def bridgeOrderUptoRow : OpenClaim := { program := "ytpeaogldojepnaa", sum := "1ba35712795c35d627d8a61f443ecd527f9b8d1cc4bb0d740100479b9d3d188f", func := "isthmus/isthmuslaw08.BridgeOrder", spec := "bridgeOrder", recurses := true, apart := false, narrowed := true }
def BridgeOrderUptoSaid : Prop := bridgeOrderUptoRow.holds Try.pinned (OpenSpec.upto bridgeOrderSpec)

/-- 'isthmuslaw08.BridgePlays', WHERE WHAT IT READS IS OF BULK AT MOST 1048576: true; the input reads as it did. -/
def bridgePlaysUptoRow : OpenClaim := { program := "ytpeaogldojepnaa", sum := "1ba35712795c35d627d8a61f443ecd527f9b8d1cc4bb0d740100479b9d3d188f", func := "isthmus/isthmuslaw08.BridgePlays", spec := "bridgePlays", recurses := true, apart := false, narrowed := true }
def BridgePlaysUptoSaid : Prop := bridgePlaysUptoRow.holds Try.pinned (OpenSpec.upto bridgePlaysSpec)

/-- 'isthmuslaw08.BridgeHolds', WHERE WHAT IT READS IS OF BULK AT MOST 1048576: true; the input reads as it did. -/
def bridgeHoldsUptoRow : OpenClaim := { program := "ytpeaogldojepnaa", sum := "1ba35712795c35d627d8a61f443ecd527f9b8d1cc4bb0d740100479b9d3d188f", func := "isthmus/isthmuslaw08.BridgeHolds", spec := "bridgeHolds", recurses := true, apart := false, narrowed := true }
def BridgeHoldsUptoSaid : Prop := bridgeHoldsUptoRow.holds Try.pinned (OpenSpec.upto bridgeHoldsSpec)

/-- 'isthmuslaw08.BridgeRing', WHERE WHAT IT READS IS OF BULK AT MOST 1048576: true; the input reads as it did. -/
def bridgeRingUptoRow : OpenClaim := { program := "ytpeaogldojepnaa", sum := "1ba35712795c35d627d8a61f443ecd527f9b8d1cc4bb0d740100479b9d3d188f", func := "isthmus/isthmuslaw08.BridgeRing", spec := "bridgeRing", recurses := true, apart := false, narrowed := true }
def BridgeRingUptoSaid : Prop := bridgeRingUptoRow.holds Try.pinned (OpenSpec.upto bridgeRingSpec)

end Rows
end Go.Proofs.Ytpeaogldojepnaa
