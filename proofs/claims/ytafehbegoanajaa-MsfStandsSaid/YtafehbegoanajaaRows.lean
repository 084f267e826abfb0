/-
  No cell of these rows narrows 'for every input' (looked for: loops, veiled, ifaces, maps, wideKeys, modest, calm, conditions, laid).
  DERIVED. THE GIVEN ROWS OF THIS SEAT. 6 by the template 'for every input the law returns true; each argument reads behind the call as it read before'; 0 by the template 'total and deterministic' (their statements: YtafehbegoanajaaTotals.lean).
  GIVEN WITH THE SEED: the statements are not yours to turn. If you find one false, say at which input.
  Laid BY PROGRAM, IN A SANDBOX (cutbox-rows.mjs): the forced cells as the released guide's own fill.sh prints them over the translation 6652515d28b28da7… (all of the seat's roots in one cut). By AI agents, Wed Nov 11 2026. No macro, syntax, notation, axiom, sorry.
-/
import Derived.Test.YtafehbegoanajaaChecked
import GoSem.Claim
import GoSem.ClaimJoined
import GoSem.ClaimMapViews
import Derived.JoinedTies
import Derived.KernelRfl
namespace Go.Proofs.Ytafehbegoanajaa
/- THE CELL 'sum', in the pinned program and in every row, IS THE sha256 OF THE DUMP (.gsa) THAT YtafehbegoanajaaProg.lean LOADS. Nothing in Lean hashes anything: it is a label: what it is worth is what the hold of that sum in a sandbox is worth. -/
noncomputable def Try.pinned : Pinned := { name := "ytafehbegoanajaa", sum := "6652515d28b28da773fe755abf964acc0db12d374f9f27ad32d4b6c31e8096c7", checked := Try.checked }
namespace Rows
def none {H : Type} : Left H := { results := [], args := [] }

/-- 'isthmuslaw07.MsfLeast': WHATEVER THE INPUT: true; the input reads as it did. -/
def msfLeastSpec : ChangeSpec := { name := "msfLeast", fn := fun _ => fun
  | [d1, d2, d3, d4] => { results := [.lit (.bool true)], args := [d1, d2, d3, d4] }
  | _ => none }
def msfLeastRow : OpenClaim := { program := "ytafehbegoanajaa", sum := "6652515d28b28da773fe755abf964acc0db12d374f9f27ad32d4b6c31e8096c7", func := "isthmus/isthmuslaw07.MsfLeast", spec := "msfLeast", unfollowed := true, recurses := true, apart := false }
def MsfLeastSaid : Prop := msfLeastRow.holds Try.pinned (OpenSpec.ofChange msfLeastSpec)

/-- ITS FALSE NEIGHBOUR: 'it returns false'. Refute it at one input. -/
def msfLeastWrong : ChangeSpec := { name := "msfLeast", fn := fun _ => fun
  | [d1, d2, d3, d4] => { results := [.lit (.bool false)], args := [d1, d2, d3, d4] }
  | _ => none }
def MsfLeastWrongFalsely : Prop := msfLeastRow.holds Try.pinned (OpenSpec.ofChange msfLeastWrong)

/-- 'isthmuslaw07.MsfShift': WHATEVER THE INPUT: true; the input reads as it did. -/
def msfShiftSpec : ChangeSpec := { name := "msfShift", fn := fun _ => fun
  | [d1, d2, d3, d4] => { results := [.lit (.bool true)], args := [d1, d2, d3, d4] }
  | _ => none }
def msfShiftRow : OpenClaim := { program := "ytafehbegoanajaa", sum := "6652515d28b28da773fe755abf964acc0db12d374f9f27ad32d4b6c31e8096c7", func := "isthmus/isthmuslaw07.MsfShift", spec := "msfShift", unfollowed := true, recurses := true, apart := false }
def MsfShiftSaid : Prop := msfShiftRow.holds Try.pinned (OpenSpec.ofChange msfShiftSpec)

/-- ITS FALSE NEIGHBOUR: 'it returns false'. Refute it at one input. -/
def msfShiftWrong : ChangeSpec := { name := "msfShift", fn := fun _ => fun
  | [d1, d2, d3, d4] => { results := [.lit (.bool false)], args := [d1, d2, d3, d4] }
  | _ => none }
def MsfShiftWrongFalsely : Prop := msfShiftRow.holds Try.pinned (OpenSpec.ofChange msfShiftWrong)

/-- 'isthmuslaw07.MsfSame': WHATEVER THE INPUT: true; the input reads as it did. -/
def msfSameSpec : ChangeSpec := { name := "msfSame", fn := fun _ => fun
  | [d1, d2, d3, d4] => { results := [.lit (.bool true)], args := [d1, d2, d3, d4] }
  | _ => none }
def msfSameRow : OpenClaim := { program := "ytafehbegoanajaa", sum := "6652515d28b28da773fe755abf964acc0db12d374f9f27ad32d4b6c31e8096c7", func := "isthmus/isthmuslaw07.MsfSame", spec := "msfSame", unfollowed := true, recurses := true, apart := false }
def MsfSameSaid : Prop := msfSameRow.holds Try.pinned (OpenSpec.ofChange msfSameSpec)

/-- ITS FALSE NEIGHBOUR: 'it returns false'. Refute it at one input. -/
def msfSameWrong : ChangeSpec := { name := "msfSame", fn := fun _ => fun
  | [d1, d2, d3, d4] => { results := [.lit (.bool false)], args := [d1, d2, d3, d4] }
  | _ => none }
def MsfSameWrongFalsely : Prop := msfSameRow.holds Try.pinned (OpenSpec.ofChange msfSameWrong)

/-- 'isthmuslaw07.MsfPlays': WHATEVER THE INPUT: true; the input reads as it did. -/
def msfPlaysSpec : ChangeSpec := { name := "msfPlays", fn := fun _ => fun
  | [d1, d2, d3] => { results := [.lit (.bool true)], args := [d1, d2, d3] }
  | _ => none }
def msfPlaysRow : OpenClaim := { program := "ytafehbegoanajaa", sum := "6652515d28b28da773fe755abf964acc0db12d374f9f27ad32d4b6c31e8096c7", func := "isthmus/isthmuslaw07.MsfPlays", spec := "msfPlays", unfollowed := true, recurses := true, apart := false }
def MsfPlaysSaid : Prop := msfPlaysRow.holds Try.pinned (OpenSpec.ofChange msfPlaysSpec)

/-- ITS FALSE NEIGHBOUR: 'it returns false'. Refute it at one input. -/
def msfPlaysWrong : ChangeSpec := { name := "msfPlays", fn := fun _ => fun
  | [d1, d2, d3] => { results := [.lit (.bool false)], args := [d1, d2, d3] }
  | _ => none }
def MsfPlaysWrongFalsely : Prop := msfPlaysRow.holds Try.pinned (OpenSpec.ofChange msfPlaysWrong)

/-- 'isthmuslaw07.MsfStands': WHATEVER THE INPUT: true; the input reads as it did. -/
def msfStandsSpec : ChangeSpec := { name := "msfStands", fn := fun _ => fun
  | [d1, d2] => { results := [.lit (.bool true)], args := [d1, d2] }
  | _ => none }
def msfStandsRow : OpenClaim := { program := "ytafehbegoanajaa", sum := "6652515d28b28da773fe755abf964acc0db12d374f9f27ad32d4b6c31e8096c7", func := "isthmus/isthmuslaw07.MsfStands", spec := "msfStands", unfollowed := true, recurses := true, apart := false }
def MsfStandsSaid : Prop := msfStandsRow.holds Try.pinned (OpenSpec.ofChange msfStandsSpec)

/-- ITS FALSE NEIGHBOUR: 'it returns false'. Refute it at one input. -/
def msfStandsWrong : ChangeSpec := { name := "msfStands", fn := fun _ => fun
  | [d1, d2] => { results := [.lit (.bool false)], args := [d1, d2] }
  | _ => none }
def MsfStandsWrongFalsely : Prop := msfStandsRow.holds Try.pinned (OpenSpec.ofChange msfStandsWrong)

/-- 'isthmuslaw07.MsfOthers': WHATEVER THE INPUT: true; the input reads as it did. -/
def msfOthersSpec : ChangeSpec := { name := "msfOthers", fn := fun _ => fun
  | [d1, d2, d3, d4, d5] => { results := [.lit (.bool true)], args := [d1, d2, d3, d4, d5] }
  | _ => none }
def msfOthersRow : OpenClaim := { program := "ytafehbegoanajaa", sum := "6652515d28b28da773fe755abf964acc0db12d374f9f27ad32d4b6c31e8096c7", func := "isthmus/isthmuslaw07.MsfOthers", spec := "msfOthers", unfollowed := true, recurses := true, apart := false }
def MsfOthersSaid : Prop := msfOthersRow.holds Try.pinned (OpenSpec.ofChange msfOthersSpec)

/-- ITS FALSE NEIGHBOUR: 'it returns false'. Refute it at one input. -/
def msfOthersWrong : ChangeSpec := { name := "msfOthers", fn := fun _ => fun
  | [d1, d2, d3, d4, d5] => { results := [.lit (.bool false)], args := [d1, d2, d3, d4, d5] }
  | _ => none }
def MsfOthersWrongFalsely : Prop := msfOthersRow.holds Try.pinned (OpenSpec.ofChange msfOthersWrong)

/- THE SECOND FORM. 'bulk': how many values and letters a reading holds, each counted each time it is reached (what is shared counts as often as it is met; a slice's spare places count too). A statement '..UptoSaid' is the law's where the arguments, and the package variables that the reading takes, are together of bulk at most 1048576: NARROWER than '..Said'. Prove '..Said' where nothing that the law and all that it calls make is longer than what came in: it says more and counts as full. Else prove '..UptoSaid'. A law counts once. -/
mutual
def uptoBulk {H : Type} : DataW H → Nat
  | .lit (.string bytes) => bytes.length + 1
  | .lit _ => 1
  | .nil => 1
  | .ptr d => uptoBulk d + 1
  | .slice elems spare => uptoBulkAll elems + uptoBulkAll spare + 1
  | .agg parts => uptoBulkAll parts + 1
  | .iface _ d => uptoBulk d + 1
  | .map entries => uptoBulkEntries entries + 1
  | .held _ => 1
def uptoBulkAll {H : Type} : List (DataW H) → Nat
  | [] => 0
  | d :: r => uptoBulk d + uptoBulkAll r
def uptoBulkEntries {H : Type} : List (Lit × DataW H) → Nat
  | [] => 0
  | x :: r => uptoBulkEntry x + uptoBulkEntries r
def uptoBulkEntry {H : Type} : Lit × DataW H → Nat
  | (.string bytes, d) => bytes.length + uptoBulk d + 1
  | (_, d) => uptoBulk d + 1
 end
def uptoSmall : (H : Type) → List (DataW H) → Bool := fun _ ds => decide (uptoBulkAll ds ≤ 1048576)
def OpenSpec.upto (s : _root_.Go.ChangeSpec) : _root_.Go.OpenSpec := { _root_.Go.OpenSpec.ofChange s with cond := some uptoSmall }

/-- 'isthmuslaw07.MsfLeast', WHERE WHAT IT READS IS OF BULK AT MOST 1048576: true; the input reads as it did. -/
def msfLeastUptoRow : OpenClaim := { program := "ytafehbegoanajaa", sum := "6652515d28b28da773fe755abf964acc0db12d374f9f27ad32d4b6c31e8096c7", func := "isthmus/isthmuslaw07.MsfLeast", spec := "msfLeast", unfollowed := true, recurses := true, apart := false, narrowed := true }
def MsfLeastUptoSaid : Prop := msfLeastUptoRow.holds Try.pinned (OpenSpec.upto msfLeastSpec)

/-- 'isthmuslaw07.MsfShift', WHERE WHAT IT READS IS OF BULK AT MOST 1048576: true; the input reads as it did. -/
def msfShiftUptoRow : OpenClaim := { program := "ytafehbegoanajaa", sum := "6652515d28b28da773fe755abf964acc0db12d374f9f27ad32d4b6c31e8096c7", func := "isthmus/isthmuslaw07.MsfShift", spec := "msfShift", unfollowed := true, recurses := true, apart := false, narrowed := true }
def MsfShiftUptoSaid : Prop := msfShiftUptoRow.holds Try.pinned (OpenSpec.upto msfShiftSpec)

/-- 'isthmuslaw07.MsfSame', WHERE WHAT IT READS IS OF BULK AT MOST 1048576: true; the input reads as it did. -/
def msfSameUptoRow : OpenClaim := { program := "ytafehbegoanajaa", sum := "6652515d28b28da773fe755abf964acc0db12d374f9f27ad32d4b6c31e8096c7", func := "isthmus/isthmuslaw07.MsfSame", spec := "msfSame", unfollowed := true, recurses := true, apart := false, narrowed := true }
def MsfSameUptoSaid : Prop := msfSameUptoRow.holds Try.pinned (OpenSpec.upto msfSameSpec)

/-- 'isthmuslaw07.MsfPlays', WHERE WHAT IT READS IS OF BULK AT MOST 1048576: true; the input reads as it did. -/
def msfPlaysUptoRow : OpenClaim := { program := "ytafehbegoanajaa", sum := "6652515d28b28da773fe755abf964acc0db12d374f9f27ad32d4b6c31e8096c7", func := "isthmus/isthmuslaw07.MsfPlays", spec := "msfPlays", unfollowed := true, recurses := true, apart := false, narrowed := true }
def MsfPlaysUptoSaid : Prop := msfPlaysUptoRow.holds Try.pinned (OpenSpec.upto msfPlaysSpec)

/-- 'isthmuslaw07.MsfStands', WHERE WHAT IT READS IS OF BULK AT MOST 1048576: true; the input reads as it did. -/
def msfStandsUptoRow : OpenClaim := { program := "ytafehbegoanajaa", sum := "6652515d28b28da773fe755abf964acc0db12d374f9f27ad32d4b6c31e8096c7", func := "isthmus/isthmuslaw07.MsfStands", spec := "msfStands", unfollowed := true, recurses := true, apart := false, narrowed := true }
def MsfStandsUptoSaid : Prop := msfStandsUptoRow.holds Try.pinned (OpenSpec.upto msfStandsSpec)

/-- 'isthmuslaw07.MsfOthers', WHERE WHAT IT READS IS OF BULK AT MOST 1048576: true; the input reads as it did. -/
def msfOthersUptoRow : OpenClaim := { program := "ytafehbegoanajaa", sum := "6652515d28b28da773fe755abf964acc0db12d374f9f27ad32d4b6c31e8096c7", func := "isthmus/isthmuslaw07.MsfOthers", spec := "msfOthers", unfollowed := true, recurses := true, apart := false, narrowed := true }
def MsfOthersUptoSaid : Prop := msfOthersUptoRow.holds Try.pinned (OpenSpec.upto msfOthersSpec)

end Rows
end Go.Proofs.Ytafehbegoanajaa
