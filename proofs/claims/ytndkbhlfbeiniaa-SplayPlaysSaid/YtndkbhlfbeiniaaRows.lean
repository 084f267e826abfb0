/-
  No cell of these rows narrows 'for every input' (looked for: loops, veiled, ifaces, maps, wideKeys, modest, calm, conditions, laid).
  DERIVED. THE GIVEN ROWS OF THIS SEAT. 8 by the template 'for every input the law returns true; each argument reads behind the call as it read before'; 0 by the template 'total and deterministic' (their statements: YtndkbhlfbeiniaaTotals.lean).
  GIVEN WITH THE SEED: the statements are not yours to turn. If you find one false, say at which input.
  Laid BY PROGRAM, IN A SANDBOX (cutbox-rows.mjs): the forced cells as the released guide's own fill.sh prints them over the translation f37869bcaa1427a3… (all of the seat's roots in one cut). By AI agents, Wed Nov 11 2026. No macro, syntax, notation, axiom, sorry.
-/
import Derived.Test.YtndkbhlfbeiniaaChecked
import GoSem.Claim
import GoSem.ClaimJoined
import GoSem.ClaimMapViews
import Derived.JoinedTies
import Derived.KernelRfl
namespace Go.Proofs.Ytndkbhlfbeiniaa
/- THE CELL 'sum', in the pinned program and in every row, IS THE sha256 OF THE DUMP (.gsa) THAT YtndkbhlfbeiniaaProg.lean LOADS. Nothing in Lean hashes anything: it is a label: what it is worth is what the hold of that sum in a sandbox is worth. -/
noncomputable def Try.pinned : Pinned := { name := "ytndkbhlfbeiniaa", sum := "f37869bcaa1427a3df3e7a8fe66a20536fcc21c58f945e9ebd98301ce5275c73", checked := Try.checked }
namespace Rows
def none {H : Type} : Left H := { results := [], args := [] }

/-- 'isthmuslaw03.SplaySets': WHATEVER THE INPUT: true; the input reads as it did. -/
def splaySetsSpec : ChangeSpec := { name := "splaySets", fn := fun _ => fun
  | [d1, d2, d3, d4] => { results := [.lit (.bool true)], args := [d1, d2, d3, d4] }
  | _ => none }
def splaySetsRow : OpenClaim := { program := "ytndkbhlfbeiniaa", sum := "f37869bcaa1427a3df3e7a8fe66a20536fcc21c58f945e9ebd98301ce5275c73", func := "isthmus/isthmuslaw03.SplaySets", spec := "splaySets", unfollowed := true, recurses := true, apart := false }
def SplaySetsSaid : Prop := splaySetsRow.holds Try.pinned (OpenSpec.ofChange splaySetsSpec)

/-- ITS FALSE NEIGHBOUR: 'it returns false'. Refute it at one input. -/
def splaySetsWrong : ChangeSpec := { name := "splaySets", fn := fun _ => fun
  | [d1, d2, d3, d4] => { results := [.lit (.bool false)], args := [d1, d2, d3, d4] }
  | _ => none }
def SplaySetsWrongFalsely : Prop := splaySetsRow.holds Try.pinned (OpenSpec.ofChange splaySetsWrong)

/-- 'isthmuslaw03.SplayLong': WHATEVER THE INPUT: true; the input reads as it did. -/
def splayLongSpec : ChangeSpec := { name := "splayLong", fn := fun _ => fun
  | [d1, d2] => { results := [.lit (.bool true)], args := [d1, d2] }
  | _ => none }
def splayLongRow : OpenClaim := { program := "ytndkbhlfbeiniaa", sum := "f37869bcaa1427a3df3e7a8fe66a20536fcc21c58f945e9ebd98301ce5275c73", func := "isthmus/isthmuslaw03.SplayLong", spec := "splayLong", unfollowed := true, recurses := true, apart := false }
def SplayLongSaid : Prop := splayLongRow.holds Try.pinned (OpenSpec.ofChange splayLongSpec)

/-- ITS FALSE NEIGHBOUR: 'it returns false'. Refute it at one input. -/
def splayLongWrong : ChangeSpec := { name := "splayLong", fn := fun _ => fun
  | [d1, d2] => { results := [.lit (.bool false)], args := [d1, d2] }
  | _ => none }
def SplayLongWrongFalsely : Prop := splayLongRow.holds Try.pinned (OpenSpec.ofChange splayLongWrong)

/-- 'isthmuslaw03.SplayPrefix': WHATEVER THE INPUT: true; the input reads as it did. -/
def splayPrefixSpec : ChangeSpec := { name := "splayPrefix", fn := fun _ => fun
  | [d1, d2, d3] => { results := [.lit (.bool true)], args := [d1, d2, d3] }
  | _ => none }
def splayPrefixRow : OpenClaim := { program := "ytndkbhlfbeiniaa", sum := "f37869bcaa1427a3df3e7a8fe66a20536fcc21c58f945e9ebd98301ce5275c73", func := "isthmus/isthmuslaw03.SplayPrefix", spec := "splayPrefix", unfollowed := true, recurses := true, apart := false }
def SplayPrefixSaid : Prop := splayPrefixRow.holds Try.pinned (OpenSpec.ofChange splayPrefixSpec)

/-- ITS FALSE NEIGHBOUR: 'it returns false'. Refute it at one input. -/
def splayPrefixWrong : ChangeSpec := { name := "splayPrefix", fn := fun _ => fun
  | [d1, d2, d3] => { results := [.lit (.bool false)], args := [d1, d2, d3] }
  | _ => none }
def SplayPrefixWrongFalsely : Prop := splayPrefixRow.holds Try.pinned (OpenSpec.ofChange splayPrefixWrong)

/-- 'isthmuslaw03.SplayTurns': WHATEVER THE INPUT: true; the input reads as it did. -/
def splayTurnsSpec : ChangeSpec := { name := "splayTurns", fn := fun _ => fun
  | [d1, d2, d3] => { results := [.lit (.bool true)], args := [d1, d2, d3] }
  | _ => none }
def splayTurnsRow : OpenClaim := { program := "ytndkbhlfbeiniaa", sum := "f37869bcaa1427a3df3e7a8fe66a20536fcc21c58f945e9ebd98301ce5275c73", func := "isthmus/isthmuslaw03.SplayTurns", spec := "splayTurns", unfollowed := true, recurses := true, apart := false }
def SplayTurnsSaid : Prop := splayTurnsRow.holds Try.pinned (OpenSpec.ofChange splayTurnsSpec)

/-- ITS FALSE NEIGHBOUR: 'it returns false'. Refute it at one input. -/
def splayTurnsWrong : ChangeSpec := { name := "splayTurns", fn := fun _ => fun
  | [d1, d2, d3] => { results := [.lit (.bool false)], args := [d1, d2, d3] }
  | _ => none }
def SplayTurnsWrongFalsely : Prop := splayTurnsRow.holds Try.pinned (OpenSpec.ofChange splayTurnsWrong)

/-- 'isthmuslaw03.SplayPieces': WHATEVER THE INPUT: true; the input reads as it did. -/
def splayPiecesSpec : ChangeSpec := { name := "splayPieces", fn := fun _ => fun
  | [d1, d2, d3, d4] => { results := [.lit (.bool true)], args := [d1, d2, d3, d4] }
  | _ => none }
def splayPiecesRow : OpenClaim := { program := "ytndkbhlfbeiniaa", sum := "f37869bcaa1427a3df3e7a8fe66a20536fcc21c58f945e9ebd98301ce5275c73", func := "isthmus/isthmuslaw03.SplayPieces", spec := "splayPieces", unfollowed := true, recurses := true, apart := false }
def SplayPiecesSaid : Prop := splayPiecesRow.holds Try.pinned (OpenSpec.ofChange splayPiecesSpec)

/-- ITS FALSE NEIGHBOUR: 'it returns false'. Refute it at one input. -/
def splayPiecesWrong : ChangeSpec := { name := "splayPieces", fn := fun _ => fun
  | [d1, d2, d3, d4] => { results := [.lit (.bool false)], args := [d1, d2, d3, d4] }
  | _ => none }
def SplayPiecesWrongFalsely : Prop := splayPiecesRow.holds Try.pinned (OpenSpec.ofChange splayPiecesWrong)

/-- 'isthmuslaw03.SplayReverse': WHATEVER THE INPUT: true; the input reads as it did. -/
def splayReverseSpec : ChangeSpec := { name := "splayReverse", fn := fun _ => fun
  | [d1, d2] => { results := [.lit (.bool true)], args := [d1, d2] }
  | _ => none }
def splayReverseRow : OpenClaim := { program := "ytndkbhlfbeiniaa", sum := "f37869bcaa1427a3df3e7a8fe66a20536fcc21c58f945e9ebd98301ce5275c73", func := "isthmus/isthmuslaw03.SplayReverse", spec := "splayReverse", unfollowed := true, recurses := true, apart := false }
def SplayReverseSaid : Prop := splayReverseRow.holds Try.pinned (OpenSpec.ofChange splayReverseSpec)

/-- ITS FALSE NEIGHBOUR: 'it returns false'. Refute it at one input. -/
def splayReverseWrong : ChangeSpec := { name := "splayReverse", fn := fun _ => fun
  | [d1, d2] => { results := [.lit (.bool false)], args := [d1, d2] }
  | _ => none }
def SplayReverseWrongFalsely : Prop := splayReverseRow.holds Try.pinned (OpenSpec.ofChange splayReverseWrong)

/-- 'isthmuslaw03.SplayPlays': WHATEVER THE INPUT: true; the input reads as it did. -/
def splayPlaysSpec : ChangeSpec := { name := "splayPlays", fn := fun _ => fun
  | [d1, d2, d3] => { results := [.lit (.bool true)], args := [d1, d2, d3] }
  | _ => none }
def splayPlaysRow : OpenClaim := { program := "ytndkbhlfbeiniaa", sum := "f37869bcaa1427a3df3e7a8fe66a20536fcc21c58f945e9ebd98301ce5275c73", func := "isthmus/isthmuslaw03.SplayPlays", spec := "splayPlays", unfollowed := true, recurses := true, apart := false }
def SplayPlaysSaid : Prop := splayPlaysRow.holds Try.pinned (OpenSpec.ofChange splayPlaysSpec)

/-- ITS FALSE NEIGHBOUR: 'it returns false'. Refute it at one input. -/
def splayPlaysWrong : ChangeSpec := { name := "splayPlays", fn := fun _ => fun
  | [d1, d2, d3] => { results := [.lit (.bool false)], args := [d1, d2, d3] }
  | _ => none }
def SplayPlaysWrongFalsely : Prop := splayPlaysRow.holds Try.pinned (OpenSpec.ofChange splayPlaysWrong)

/-- 'isthmuslaw03.SplayAsked': WHATEVER THE INPUT: true; the input reads as it did. -/
def splayAskedSpec : ChangeSpec := { name := "splayAsked", fn := fun _ => fun
  | [d1, d2] => { results := [.lit (.bool true)], args := [d1, d2] }
  | _ => none }
def splayAskedRow : OpenClaim := { program := "ytndkbhlfbeiniaa", sum := "f37869bcaa1427a3df3e7a8fe66a20536fcc21c58f945e9ebd98301ce5275c73", func := "isthmus/isthmuslaw03.SplayAsked", spec := "splayAsked", unfollowed := true, recurses := true, apart := false }
def SplayAskedSaid : Prop := splayAskedRow.holds Try.pinned (OpenSpec.ofChange splayAskedSpec)

/-- ITS FALSE NEIGHBOUR: 'it returns false'. Refute it at one input. -/
def splayAskedWrong : ChangeSpec := { name := "splayAsked", fn := fun _ => fun
  | [d1, d2] => { results := [.lit (.bool false)], args := [d1, d2] }
  | _ => none }
def SplayAskedWrongFalsely : Prop := splayAskedRow.holds Try.pinned (OpenSpec.ofChange splayAskedWrong)

/- THE SECOND FORM. 'bulk': how many values and letters a reading holds, each counted each time it is reached (what is shared counts as often as it is met; a slice's spare places count too). A statement '..UptoSaid' is the law's where the arguments, and the package variables that the reading takes, are together of bulk at most 1048576: NARROWER than '..Said'. Prove '..Said' where nothing that the law and all that it calls make is longer than what came in: it says more and counts as full. Else prove '..UptoSaid'. A law counts once. -/
mutual
def uptoBulk {H : Type} : DataW H → Nat
  | .lit (.string bytes) => bytes.length + 1
  | .lit _ => 1
  | .nil => 1
  | .ptr d => uptoBulk d + 1
  | .slice elems spare => uptoBulkAll elems + uptoBulkAll spare + 1
  | .agg parts => uptoBulkAll parts + 1
  | .iface _ d => uptoBulk d + 1
  | .map entries => uptoBulkEntries entries + 1
  | .held _ => 1
def uptoBulkAll {H : Type} : List (DataW H) → Nat
  | [] => 0
  | d :: r => uptoBulk d + uptoBulkAll r
def uptoBulkEntries {H : Type} : List (Lit × DataW H) → Nat
  | [] => 0
  | x :: r => uptoBulkEntry x + uptoBulkEntries r
def uptoBulkEntry {H : Type} : Lit × DataW H → Nat
  | (.string bytes, d) => bytes.length + uptoBulk d + 1
  | (_, d) => uptoBulk d + 1
 end
def uptoSmall : (H : Type) → List (DataW H) → Bool := fun _ ds => decide (uptoBulkAll ds ≤ 1048576)
def OpenSpec.upto (s : _root_.Go.ChangeSpec) : _root_.Go.OpenSpec := { _root_.Go.OpenSpec.ofChange s with cond := some uptoSmall }

/-- 'isthmuslaw03.SplaySets', WHERE WHAT IT READS IS OF BULK AT MOST 1048576: true; the input reads as it did. -/
def splaySetsUptoRow : OpenClaim := { program := "ytndkbhlfbeiniaa", sum := "f37869bcaa1427a3df3e7a8fe66a20536fcc21c58f945e9ebd98301ce5275c73", func := "isthmus/isthmuslaw03.SplaySets", spec := "splaySets", unfollowed := true, recurses := true, apart := false, narrowed := true }
def SplaySetsUptoSaid : Prop := splaySetsUptoRow.holds Try.pinned (OpenSpec.upto splaySetsSpec)

/-- 'isthmuslaw03.SplayLong', WHERE WHAT IT READS IS OF BULK AT MOST 1048576: true; the input reads as it did. -/
def splayLongUptoRow : OpenClaim := { program := "ytndkbhlfbeiniaa", sum := "f37869bcaa1427a3df3e7a8fe66a20536fcc21c58f945e9ebd98301ce5275c73", func := "isthmus/isthmuslaw03.SplayLong", spec := "splayLong", unfollowed := true, recurses := true, apart := false, narrowed := true }
def SplayLongUptoSaid : Prop := splayLongUptoRow.holds Try.pinned (OpenSpec.upto splayLongSpec)

/-- 'isthmuslaw03.SplayPrefix', WHERE WHAT IT READS IS OF BULK AT MOST 1048576: true; the input reads as it did. -/
def splayPrefixUptoRow : OpenClaim := { program := "ytndkbhlfbeiniaa", sum := "f37869bcaa1427a3df3e7a8fe66a20536fcc21c58f945e9ebd98301ce5275c73", func := "isthmus/isthmuslaw03.SplayPrefix", spec := "splayPrefix", unfollowed := true, recurses := true, apart := false, narrowed := true }
def SplayPrefixUptoSaid : Prop := splayPrefixUptoRow.holds Try.pinned (OpenSpec.upto splayPrefixSpec)

/-- 'isthmuslaw03.SplayTurns', WHERE WHAT IT READS IS OF BULK AT MOST 1048576: true; the input reads as it did. -/
def splayTurnsUptoRow : OpenClaim := { program := "ytndkbhlfbeiniaa", sum := "f37869bcaa1427a3df3e7a8fe66a20536fcc21c58f945e9ebd98301ce5275c73", func := "isthmus/isthmuslaw03.SplayTurns", spec := "splayTurns", unfollowed := true, recurses := true, apart := false, narrowed := true }
def SplayTurnsUptoSaid : Prop := splayTurnsUptoRow.holds Try.pinned (OpenSpec.upto splayTurnsSpec)

/-- 'isthmuslaw03.SplayPieces', WHERE WHAT IT READS IS OF BULK AT MOST 1048576: true; the input reads as it did. -/
def splayPiecesUptoRow : OpenClaim := { program := "ytndkbhlfbeiniaa", sum := "f37869bcaa1427a3df3e7a8fe66a20536fcc21c58f945e9ebd98301ce5275c73", func := "isthmus/isthmuslaw03.SplayPieces", spec := "splayPieces", unfollowed := true, recurses := true, apart := false, narrowed := true }
def SplayPiecesUptoSaid : Prop := splayPiecesUptoRow.holds Try.pinned (OpenSpec.upto splayPiecesSpec)

/-- 'isthmuslaw03.SplayReverse', WHERE WHAT IT READS IS OF BULK AT MOST 1048576: true; the input reads as it did. -/
def splayReverseUptoRow : OpenClaim := { program := "ytndkbhlfbeiniaa", sum := "f37869bcaa1427a3df3e7a8fe66a20536fcc21c58f945e9ebd98301ce5275c73", func := "isthmus/isthmuslaw03.SplayReverse", spec := "splayReverse", unfollowed := true, recurses := true, apart := false, narrowed := true }
def SplayReverseUptoSaid : Prop := splayReverseUptoRow.holds Try.pinned (OpenSpec.upto splayReverseSpec)

/-- 'isthmuslaw03.SplayPlays', WHERE WHAT IT READS IS OF BULK AT MOST 1048576: true; the input reads as it did. -/
def splayPlaysUptoRow : OpenClaim := { program := "ytndkbhlfbeiniaa", sum := "f37869bcaa1427a3df3e7a8fe66a20536fcc21c58f945e9ebd98301ce5275c73", func := "isthmus/isthmuslaw03.SplayPlays", spec := "splayPlays", unfollowed := true, recurses := true, apart := false, narrowed := true }
def SplayPlaysUptoSaid : Prop := splayPlaysUptoRow.holds Try.pinned (OpenSpec.upto splayPlaysSpec)

/-- 'isthmuslaw03.SplayAsked', WHERE WHAT IT READS IS OF BULK AT MOST 1048576: true; the input reads as it did. -/
def splayAskedUptoRow : OpenClaim := { program := "ytndkbhlfbeiniaa", sum := "f37869bcaa1427a3df3e7a8fe66a20536fcc21c58f945e9ebd98301ce5275c73", func := "isthmus/isthmuslaw03.SplayAsked", spec := "splayAsked", unfollowed := true, recurses := true, apart := false, narrowed := true }
def SplayAskedUptoSaid : Prop := splayAskedUptoRow.holds Try.pinned (OpenSpec.upto splayAskedSpec)

end Rows
end Go.Proofs.Ytndkbhlfbeiniaa
