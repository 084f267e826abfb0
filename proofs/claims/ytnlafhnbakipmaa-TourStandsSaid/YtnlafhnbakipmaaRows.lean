/-
  No cell of these rows narrows 'for every input' (looked for: loops, veiled, ifaces, maps, wideKeys, modest, calm, conditions, laid).
  DERIVED. THE GIVEN ROWS OF THIS SEAT. 5 by the template 'for every input the law returns true; each argument reads behind the call as it read before'; 0 by the template 'total and deterministic' (their statements: YtnlafhnbakipmaaTotals.lean).
  GIVEN WITH THE SEED: the statements are not yours to turn. If you find one false, say at which input.
  Laid BY PROGRAM, IN A SANDBOX (cutbox-rows.mjs): the forced cells as the released guide's own fill.sh prints them over the translation 0a9a546813d09ae8… (all of the seat's roots in one cut). By AI agents, Wed Nov 11 2026. No macro, syntax, notation, axiom, sorry.
-/
import Derived.Test.YtnlafhnbakipmaaChecked
import GoSem.Claim
import GoSem.ClaimJoined
import GoSem.ClaimMapViews
import Derived.JoinedTies
import Derived.KernelRfl
namespace Go.Proofs.Ytnlafhnbakipmaa
/- THE CELL 'sum', in the pinned program and in every row, IS THE sha256 OF THE DUMP (.gsa) THAT YtnlafhnbakipmaaProg.lean LOADS. Nothing in Lean hashes anything: it is a label: what it is worth is what the hold of that sum in a sandbox is worth. -/
noncomputable def Try.pinned : Pinned := { name := "ytnlafhnbakipmaa", sum := "0a9a546813d09ae86a8d004ad49572841891c3d195ccef937d41e2150944cdf4", checked := Try.checked }
namespace Rows
def none {H : Type} : Left H := { results := [], args := [] }

/-- 'isthmuslaw04.TourTurns': WHATEVER THE INPUT: true; the input reads as it did. -/
def tourTurnsSpec : ChangeSpec := { name := "tourTurns", fn := fun _ => fun
  | [d1, d2, d3] => { results := [.lit (.bool true)], args := [d1, d2, d3] }
  | _ => none }
def tourTurnsRow : OpenClaim := { program := "ytnlafhnbakipmaa", sum := "0a9a546813d09ae86a8d004ad49572841891c3d195ccef937d41e2150944cdf4", func := "isthmus/isthmuslaw04.TourTurns", spec := "tourTurns", unfollowed := true, recurses := true, plainKeys := false, apart := false }
def TourTurnsSaid : Prop := tourTurnsRow.holds Try.pinned (OpenSpec.ofChange tourTurnsSpec)

/-- ITS FALSE NEIGHBOUR: 'it returns false'. Refute it at one input. -/
def tourTurnsWrong : ChangeSpec := { name := "tourTurns", fn := fun _ => fun
  | [d1, d2, d3] => { results := [.lit (.bool false)], args := [d1, d2, d3] }
  | _ => none }
def TourTurnsWrongFalsely : Prop := tourTurnsRow.holds Try.pinned (OpenSpec.ofChange tourTurnsWrong)

/-- 'isthmuslaw04.TourBack': WHATEVER THE INPUT: true; the input reads as it did. -/
def tourBackSpec : ChangeSpec := { name := "tourBack", fn := fun _ => fun
  | [d1, d2, d3] => { results := [.lit (.bool true)], args := [d1, d2, d3] }
  | _ => none }
def tourBackRow : OpenClaim := { program := "ytnlafhnbakipmaa", sum := "0a9a546813d09ae86a8d004ad49572841891c3d195ccef937d41e2150944cdf4", func := "isthmus/isthmuslaw04.TourBack", spec := "tourBack", unfollowed := true, recurses := true, plainKeys := false, apart := false }
def TourBackSaid : Prop := tourBackRow.holds Try.pinned (OpenSpec.ofChange tourBackSpec)

/-- ITS FALSE NEIGHBOUR: 'it returns false'. Refute it at one input. -/
def tourBackWrong : ChangeSpec := { name := "tourBack", fn := fun _ => fun
  | [d1, d2, d3] => { results := [.lit (.bool false)], args := [d1, d2, d3] }
  | _ => none }
def TourBackWrongFalsely : Prop := tourBackRow.holds Try.pinned (OpenSpec.ofChange tourBackWrong)

/-- 'isthmuslaw04.TourStands': WHATEVER THE INPUT: true; the input reads as it did. -/
def tourStandsSpec : ChangeSpec := { name := "tourStands", fn := fun _ => fun
  | [d1, d2] => { results := [.lit (.bool true)], args := [d1, d2] }
  | _ => none }
def tourStandsRow : OpenClaim := { program := "ytnlafhnbakipmaa", sum := "0a9a546813d09ae86a8d004ad49572841891c3d195ccef937d41e2150944cdf4", func := "isthmus/isthmuslaw04.TourStands", spec := "tourStands", unfollowed := true, recurses := true, plainKeys := false, apart := false }
def TourStandsSaid : Prop := tourStandsRow.holds Try.pinned (OpenSpec.ofChange tourStandsSpec)

/-- ITS FALSE NEIGHBOUR: 'it returns false'. Refute it at one input. -/
def tourStandsWrong : ChangeSpec := { name := "tourStands", fn := fun _ => fun
  | [d1, d2] => { results := [.lit (.bool false)], args := [d1, d2] }
  | _ => none }
def TourStandsWrongFalsely : Prop := tourStandsRow.holds Try.pinned (OpenSpec.ofChange tourStandsWrong)

/-- 'isthmuslaw04.TourMarks': WHATEVER THE INPUT: true; the input reads as it did. -/
def tourMarksSpec : ChangeSpec := { name := "tourMarks", fn := fun _ => fun
  | [d1, d2] => { results := [.lit (.bool true)], args := [d1, d2] }
  | _ => none }
def tourMarksRow : OpenClaim := { program := "ytnlafhnbakipmaa", sum := "0a9a546813d09ae86a8d004ad49572841891c3d195ccef937d41e2150944cdf4", func := "isthmus/isthmuslaw04.TourMarks", spec := "tourMarks", unfollowed := true, recurses := true, plainKeys := false, apart := false }
def TourMarksSaid : Prop := tourMarksRow.holds Try.pinned (OpenSpec.ofChange tourMarksSpec)

/-- ITS FALSE NEIGHBOUR: 'it returns false'. Refute it at one input. -/
def tourMarksWrong : ChangeSpec := { name := "tourMarks", fn := fun _ => fun
  | [d1, d2] => { results := [.lit (.bool false)], args := [d1, d2] }
  | _ => none }
def TourMarksWrongFalsely : Prop := tourMarksRow.holds Try.pinned (OpenSpec.ofChange tourMarksWrong)

/-- 'isthmuslaw04.TourPlays': WHATEVER THE INPUT: true; the input reads as it did. -/
def tourPlaysSpec : ChangeSpec := { name := "tourPlays", fn := fun _ => fun
  | [d1, d2, d3] => { results := [.lit (.bool true)], args := [d1, d2, d3] }
  | _ => none }
def tourPlaysRow : OpenClaim := { program := "ytnlafhnbakipmaa", sum := "0a9a546813d09ae86a8d004ad49572841891c3d195ccef937d41e2150944cdf4", func := "isthmus/isthmuslaw04.TourPlays", spec := "tourPlays", unfollowed := true, recurses := true, plainKeys := false, apart := false }
def TourPlaysSaid : Prop := tourPlaysRow.holds Try.pinned (OpenSpec.ofChange tourPlaysSpec)

/-- ITS FALSE NEIGHBOUR: 'it returns false'. Refute it at one input. -/
def tourPlaysWrong : ChangeSpec := { name := "tourPlays", fn := fun _ => fun
  | [d1, d2, d3] => { results := [.lit (.bool false)], args := [d1, d2, d3] }
  | _ => none }
def TourPlaysWrongFalsely : Prop := tourPlaysRow.holds Try.pinned (OpenSpec.ofChange tourPlaysWrong)

/- THE SECOND FORM. 'bulk': how many values and letters a reading holds, each counted each time it is reached (what is shared counts as often as it is met; a slice's spare places count too). A statement '..UptoSaid' is the law's where the arguments, and the package variables that the reading takes, are together of bulk at most 1048576: NARROWER than '..Said'. Prove '..Said' where nothing that the law and all that it calls make is longer than what came in: it says more and counts as full. Else prove '..UptoSaid'. A law counts once. -/
mutual
def uptoBulk {H : Type} : DataW H → Nat
  | .lit (.string bytes) => bytes.length + 1
  | .lit _ => 1
  | .nil => 1
  | .ptr d => uptoBulk d + 1
  | .slice elems spare => uptoBulkAll elems + uptoBulkAll spare + 1
  | .agg parts => uptoBulkAll parts + 1
  | .iface _ d => uptoBulk d + 1
  | .map entries => uptoBulkEntries entries + 1
  | .held _ => 1
def uptoBulkAll {H : Type} : List (DataW H) → Nat
  | [] => 0
  | d :: r => uptoBulk d + uptoBulkAll r
def uptoBulkEntries {H : Type} : List (Lit × DataW H) → Nat
  | [] => 0
  | x :: r => uptoBulkEntry x + uptoBulkEntries r
def uptoBulkEntry {H : Type} : Lit × DataW H → Nat
  | (.string bytes, d) => bytes.length + uptoBulk d + 1
  | (_, d) => uptoBulk d + 1
 end
def uptoSmall : (H : Type) → List (DataW H) → Bool := fun _ ds => decide (uptoBulkAll ds ≤ 1048576)
def OpenSpec.upto (s : _root_.Go.ChangeSpec) : _root_.Go.OpenSpec := { _root_.Go.OpenSpec.ofChange s with cond := some uptoSmall }

/-- 'isthmuslaw04.TourTurns', WHERE WHAT IT READS IS OF BULK AT MOST 1048576: true; the input reads as it did. -/
def tourTurnsUptoRow : OpenClaim := { program := "ytnlafhnbakipmaa", sum := "0a9a546813d09ae86a8d004ad49572841891c3d195ccef937d41e2150944cdf4", func := "isthmus/isthmuslaw04.TourTurns", spec := "tourTurns", unfollowed := true, recurses := true, plainKeys := false, apart := false, narrowed := true }
def TourTurnsUptoSaid : Prop := tourTurnsUptoRow.holds Try.pinned (OpenSpec.upto tourTurnsSpec)

/-- 'isthmuslaw04.TourBack', WHERE WHAT IT READS IS OF BULK AT MOST 1048576: true; the input reads as it did. -/
def tourBackUptoRow : OpenClaim := { program := "ytnlafhnbakipmaa", sum := "0a9a546813d09ae86a8d004ad49572841891c3d195ccef937d41e2150944cdf4", func := "isthmus/isthmuslaw04.TourBack", spec := "tourBack", unfollowed := true, recurses := true, plainKeys := false, apart := false, narrowed := true }
def TourBackUptoSaid : Prop := tourBackUptoRow.holds Try.pinned (OpenSpec.upto tourBackSpec)

/-- 'isthmuslaw04.TourStands', WHERE WHAT IT READS IS OF BULK AT MOST 1048576: true; the input reads as it did. -/
def tourStandsUptoRow : OpenClaim := { program := "ytnlafhnbakipmaa", sum := "0a9a546813d09ae86a8d004ad49572841891c3d195ccef937d41e2150944cdf4", func := "isthmus/isthmuslaw04.TourStands", spec := "tourStands", unfollowed := true, recurses := true, plainKeys := false, apart := false, narrowed := true }
def TourStandsUptoSaid : Prop := tourStandsUptoRow.holds Try.pinned (OpenSpec.upto tourStandsSpec)

/-- 'isthmuslaw04.TourMarks', WHERE WHAT IT READS IS OF BULK AT MOST 1048576: true; the input reads as it did. -/
def tourMarksUptoRow : OpenClaim := { program := "ytnlafhnbakipmaa", sum := "0a9a546813d09ae86a8d004ad49572841891c3d195ccef937d41e2150944cdf4", func := "isthmus/isthmuslaw04.TourMarks", spec := "tourMarks", unfollowed := true, recurses := true, plainKeys := false, apart := false, narrowed := true }
def TourMarksUptoSaid : Prop := tourMarksUptoRow.holds Try.pinned (OpenSpec.upto tourMarksSpec)

/-- 'isthmuslaw04.TourPlays', WHERE WHAT IT READS IS OF BULK AT MOST 1048576: true; the input reads as it did. -/
def tourPlaysUptoRow : OpenClaim := { program := "ytnlafhnbakipmaa", sum := "0a9a546813d09ae86a8d004ad49572841891c3d195ccef937d41e2150944cdf4", func := "isthmus/isthmuslaw04.TourPlays", spec := "tourPlays", unfollowed := true, recurses := true, plainKeys := false, apart := false, narrowed := true }
def TourPlaysUptoSaid : Prop := tourPlaysUptoRow.holds Try.pinned (OpenSpec.upto tourPlaysSpec)

end Rows
end Go.Proofs.Ytnlafhnbakipmaa
