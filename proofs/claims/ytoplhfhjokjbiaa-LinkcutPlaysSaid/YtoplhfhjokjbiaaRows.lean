/-
  No cell of these rows narrows 'for every input' (looked for: loops, veiled, ifaces, maps, wideKeys, modest, calm, conditions, laid).
  DERIVED. THE GIVEN ROWS OF THIS SEAT. 4 by the template 'for every input the law returns true; each argument reads behind the call as it read before'; 0 by the template 'total and deterministic' (their statements: YtoplhfhjokjbiaaTotals.lean).
  GIVEN WITH THE SEED: the statements are not yours to turn. If you find one false, say at which input.
  Laid BY PROGRAM, IN A SANDBOX (cutbox-rows.mjs): the forced cells as the released guide's own fill.sh prints them over the translation c7ff8cbeeae2b860… (all of the seat's roots in one cut). By AI agents, Wed Nov 11 2026. No macro, syntax, notation, axiom, sorry.
-/
import Derived.Test.YtoplhfhjokjbiaaChecked
import GoSem.Claim
import GoSem.ClaimJoined
import GoSem.ClaimMapViews
import Derived.JoinedTies
import Derived.KernelRfl
namespace Go.Proofs.Ytoplhfhjokjbiaa
/- THE CELL 'sum', in the pinned program and in every row, IS THE sha256 OF THE DUMP (.gsa) THAT YtoplhfhjokjbiaaProg.lean LOADS. Nothing in Lean hashes anything: it is a label: what it is worth is what the hold of that sum in a sandbox is worth. -/
noncomputable def Try.pinned : Pinned := { name := "ytoplhfhjokjbiaa", sum := "c7ff8cbeeae2b860d31484a00b7adf503610c00cdb70e0479a4cc66cdf9fd459", checked := Try.checked }
namespace Rows
def none {H : Type} : Left H := { results := [], args := [] }

/-- 'isthmuslaw05.LinkcutOnTheWay': WHATEVER THE INPUT: true; the input reads as it did. -/
def linkcutOnTheWaySpec : ChangeSpec := { name := "linkcutOnTheWay", fn := fun _ => fun
  | [d1, d2, d3] => { results := [.lit (.bool true)], args := [d1, d2, d3] }
  | _ => none }
def linkcutOnTheWayRow : OpenClaim := { program := "ytoplhfhjokjbiaa", sum := "c7ff8cbeeae2b860d31484a00b7adf503610c00cdb70e0479a4cc66cdf9fd459", func := "isthmus/isthmuslaw05.LinkcutOnTheWay", spec := "linkcutOnTheWay", unfollowed := true, recurses := true, apart := false }
def LinkcutOnTheWaySaid : Prop := linkcutOnTheWayRow.holds Try.pinned (OpenSpec.ofChange linkcutOnTheWaySpec)

/-- ITS FALSE NEIGHBOUR: 'it returns false'. Refute it at one input. -/
def linkcutOnTheWayWrong : ChangeSpec := { name := "linkcutOnTheWay", fn := fun _ => fun
  | [d1, d2, d3] => { results := [.lit (.bool false)], args := [d1, d2, d3] }
  | _ => none }
def LinkcutOnTheWayWrongFalsely : Prop := linkcutOnTheWayRow.holds Try.pinned (OpenSpec.ofChange linkcutOnTheWayWrong)

/-- 'isthmuslaw05.LinkcutEverts': WHATEVER THE INPUT: true; the input reads as it did. -/
def linkcutEvertsSpec : ChangeSpec := { name := "linkcutEverts", fn := fun _ => fun
  | [d1, d2, d3, d4] => { results := [.lit (.bool true)], args := [d1, d2, d3, d4] }
  | _ => none }
def linkcutEvertsRow : OpenClaim := { program := "ytoplhfhjokjbiaa", sum := "c7ff8cbeeae2b860d31484a00b7adf503610c00cdb70e0479a4cc66cdf9fd459", func := "isthmus/isthmuslaw05.LinkcutEverts", spec := "linkcutEverts", unfollowed := true, recurses := true, apart := false }
def LinkcutEvertsSaid : Prop := linkcutEvertsRow.holds Try.pinned (OpenSpec.ofChange linkcutEvertsSpec)

/-- ITS FALSE NEIGHBOUR: 'it returns false'. Refute it at one input. -/
def linkcutEvertsWrong : ChangeSpec := { name := "linkcutEverts", fn := fun _ => fun
  | [d1, d2, d3, d4] => { results := [.lit (.bool false)], args := [d1, d2, d3, d4] }
  | _ => none }
def LinkcutEvertsWrongFalsely : Prop := linkcutEvertsRow.holds Try.pinned (OpenSpec.ofChange linkcutEvertsWrong)

/-- 'isthmuslaw05.LinkcutPlays': WHATEVER THE INPUT: true; the input reads as it did. -/
def linkcutPlaysSpec : ChangeSpec := { name := "linkcutPlays", fn := fun _ => fun
  | [d1, d2, d3] => { results := [.lit (.bool true)], args := [d1, d2, d3] }
  | _ => none }
def linkcutPlaysRow : OpenClaim := { program := "ytoplhfhjokjbiaa", sum := "c7ff8cbeeae2b860d31484a00b7adf503610c00cdb70e0479a4cc66cdf9fd459", func := "isthmus/isthmuslaw05.LinkcutPlays", spec := "linkcutPlays", unfollowed := true, recurses := true, apart := false }
def LinkcutPlaysSaid : Prop := linkcutPlaysRow.holds Try.pinned (OpenSpec.ofChange linkcutPlaysSpec)

/-- ITS FALSE NEIGHBOUR: 'it returns false'. Refute it at one input. -/
def linkcutPlaysWrong : ChangeSpec := { name := "linkcutPlays", fn := fun _ => fun
  | [d1, d2, d3] => { results := [.lit (.bool false)], args := [d1, d2, d3] }
  | _ => none }
def LinkcutPlaysWrongFalsely : Prop := linkcutPlaysRow.holds Try.pinned (OpenSpec.ofChange linkcutPlaysWrong)

/-- 'isthmuslaw05.LinkcutStands': WHATEVER THE INPUT: true; the input reads as it did. -/
def linkcutStandsSpec : ChangeSpec := { name := "linkcutStands", fn := fun _ => fun
  | [d1, d2] => { results := [.lit (.bool true)], args := [d1, d2] }
  | _ => none }
def linkcutStandsRow : OpenClaim := { program := "ytoplhfhjokjbiaa", sum := "c7ff8cbeeae2b860d31484a00b7adf503610c00cdb70e0479a4cc66cdf9fd459", func := "isthmus/isthmuslaw05.LinkcutStands", spec := "linkcutStands", unfollowed := true, recurses := true, apart := false }
def LinkcutStandsSaid : Prop := linkcutStandsRow.holds Try.pinned (OpenSpec.ofChange linkcutStandsSpec)

/-- ITS FALSE NEIGHBOUR: 'it returns false'. Refute it at one input. -/
def linkcutStandsWrong : ChangeSpec := { name := "linkcutStands", fn := fun _ => fun
  | [d1, d2] => { results := [.lit (.bool false)], args := [d1, d2] }
  | _ => none }
def LinkcutStandsWrongFalsely : Prop := linkcutStandsRow.holds Try.pinned (OpenSpec.ofChange linkcutStandsWrong)

/- THE SECOND FORM. 'bulk': how many values and letters a reading holds, each counted each time it is reached (what is shared counts as often as it is met; a slice's spare places count too). A statement '..UptoSaid' is the law's where the arguments, and the package variables that the reading takes, are together of bulk at most 1048576: NARROWER than '..Said'. Prove '..Said' where nothing that the law and all that it calls make is longer than what came in: it says more and counts as full. Else prove '..UptoSaid'. A law counts once. -/
mutual
def uptoBulk {H : Type} : DataW H → Nat
  | .lit (.string bytes) => bytes.length + 1
  | .lit _ => 1
  | .nil => 1
  | .ptr d => uptoBulk d + 1
  | .slice elems spare => uptoBulkAll elems + uptoBulkAll spare + 1
  | .agg parts => uptoBulkAll parts + 1
  | .iface _ d => uptoBulk d + 1
  | .map entries => uptoBulkEntries entries + 1
  | .held _ => 1
def uptoBulkAll {H : Type} : List (DataW H) → Nat
  | [] => 0
  | d :: r => uptoBulk d + uptoBulkAll r
def uptoBulkEntries {H : Type} : List (Lit × DataW H) → Nat
  | [] => 0
  | x :: r => uptoBulkEntry x + uptoBulkEntries r
def uptoBulkEntry {H : Type} : Lit × DataW H → Nat
  | (.string bytes, d) => bytes.length + uptoBulk d + 1
  | (_, d) => uptoBulk d + 1
 end
def uptoSmall : (H : Type) → List (DataW H) → Bool := fun _ ds => decide (uptoBulkAll ds ≤ 1048576)
def OpenSpec.upto (s : _root_.Go.ChangeSpec) : _root_.Go.OpenSpec := { _root_.Go.OpenSpec.ofChange s with cond := some uptoSmall }

/-- 'isthmuslaw05.LinkcutOnTheWay', WHERE WHAT IT READS IS OF BULK AT MOST 1048576: true; the input reads as it did. -/
def linkcutOnTheWayUptoRow : OpenClaim := { program := "ytoplhfhjokjbiaa", sum := "c7ff8cbeeae2b860d31484a00b7adf503610c00cdb70e0479a4cc66cdf9fd459", func := "isthmus/isthmuslaw05.LinkcutOnTheWay", spec := "linkcutOnTheWay", unfollowed := true, recurses := true, apart := false, narrowed := true }
def LinkcutOnTheWayUptoSaid : Prop := linkcutOnTheWayUptoRow.holds Try.pinned (OpenSpec.upto linkcutOnTheWaySpec)

/-- 'isthmuslaw05.LinkcutEverts', WHERE WHAT IT READS IS OF BULK AT MOST 1048576: true; the input reads as it did. -/
def linkcutEvertsUptoRow : OpenClaim := { program := "ytoplhfhjokjbiaa", sum := "c7ff8cbeeae2b860d31484a00b7adf503610c00cdb70e0479a4cc66cdf9fd459", func := "isthmus/isthmuslaw05.LinkcutEverts", spec := "linkcutEverts", unfollowed := true, recurses := true, apart := false, narrowed := true }
def LinkcutEvertsUptoSaid : Prop := linkcutEvertsUptoRow.holds Try.pinned (OpenSpec.upto linkcutEvertsSpec)

/-- 'isthmuslaw05.LinkcutPlays', WHERE WHAT IT READS IS OF BULK AT MOST 1048576: true; the input reads as it did. -/
def linkcutPlaysUptoRow : OpenClaim := { program := "ytoplhfhjokjbiaa", sum := "c7ff8cbeeae2b860d31484a00b7adf503610c00cdb70e0479a4cc66cdf9fd459", func := "isthmus/isthmuslaw05.LinkcutPlays", spec := "linkcutPlays", unfollowed := true, recurses := true, apart := false, narrowed := true }
def LinkcutPlaysUptoSaid : Prop := linkcutPlaysUptoRow.holds Try.pinned (OpenSpec.upto linkcutPlaysSpec)

/-- 'isthmuslaw05.LinkcutStands', WHERE WHAT IT READS IS OF BULK AT MOST 1048576: true; the input reads as it did. -/
def linkcutStandsUptoRow : OpenClaim := { program := "ytoplhfhjokjbiaa", sum := "c7ff8cbeeae2b860d31484a00b7adf503610c00cdb70e0479a4cc66cdf9fd459", func := "isthmus/isthmuslaw05.LinkcutStands", spec := "linkcutStands", unfollowed := true, recurses := true, apart := false, narrowed := true }
def LinkcutStandsUptoSaid : Prop := linkcutStandsUptoRow.holds Try.pinned (OpenSpec.upto linkcutStandsSpec)

end Rows
end Go.Proofs.Ytoplhfhjokjbiaa
