/-
  DERIVED. GIVEN WITH THE SEED: THE CARDS: each row of YtdhepjcdlkahnaaDoorRows.lean that lists a variable, with what it lists TIED to the program's text (the seventh form; the later family's looks); each row that meets fmt, with fmt's text TOLD by the authors' own Lean function (tested against real Go, not proved from fmt's source: count such statements apart). THE CARD IS WHAT COUNTS. Prove the row's statement (the work); the ties are given (YtdhepjcdlkahnaaDoorTie.lean); close each card by the builder's one call (the guide's Derived/Test/ToyasCard.lean, 'card_holds'). Laid BY PROGRAM, IN A SANDBOX (cutbox-door.mjs). By AI agents, Wed Nov 11 2026. No macro, syntax, notation, axiom, sorry.
-/
import Derived.Test.YtdhepjcdlkahnaaDoorRows
import GoSem.ClaimSeven
namespace Go.Proofs.YtdhepjcdlkahnaaDoor
namespace Rows

/-- THE TIED CARD OF 'isthmuslaw09.VsetAlike'. -/
def vsetAlikeCard : Claim7 := { stood := { row := vsetAlikeRow, standIns := [], harness := (true, "342eecbc42ea5cedc2107017b8583c3c6f6dac3bfa3a803796900ef95b768c10"), looks := false }, kinds := [], alts := [], laidByText := true, laidKinds := [.data], laidTests := true, laidLooks := .later }
def VsetAlikeCardSaid : Prop := Claim7.holds Tryd.pinned (.plain (OpenSpec.ofChange vsetAlikeSpec)) vsetAlikeCard

/-- THE TIED CARD OF 'isthmuslaw09.VsetPlays'. -/
def vsetPlaysCard : Claim7 := { stood := { row := vsetPlaysRow, standIns := [], harness := (true, "342eecbc42ea5cedc2107017b8583c3c6f6dac3bfa3a803796900ef95b768c10"), looks := false }, kinds := [], alts := [], laidByText := true, laidKinds := [.data], laidTests := true, laidLooks := .later }
def VsetPlaysCardSaid : Prop := Claim7.holds Tryd.pinned (.plain (OpenSpec.ofChange vsetPlaysSpec)) vsetPlaysCard

/-- THE TIED CARD OF 'isthmuslaw09.VsetLaws'. -/
def vsetLawsCard : Claim7 := { stood := { row := vsetLawsRow, standIns := [], harness := (true, "342eecbc42ea5cedc2107017b8583c3c6f6dac3bfa3a803796900ef95b768c10"), looks := false }, kinds := [], alts := [], laidByText := true, laidKinds := [.data], laidTests := true, laidLooks := .later }
def VsetLawsCardSaid : Prop := Claim7.holds Tryd.pinned (.plain (OpenSpec.ofChange vsetLawsSpec)) vsetLawsCard

/-- THE TIED CARD OF 'isthmuslaw09.VsetOthers'. -/
def vsetOthersCard : Claim7 := { stood := { row := vsetOthersRow, standIns := [], harness := (true, "342eecbc42ea5cedc2107017b8583c3c6f6dac3bfa3a803796900ef95b768c10"), looks := false }, kinds := [], alts := [], laidByText := true, laidKinds := [.data], laidTests := true, laidLooks := .later }
def VsetOthersCardSaid : Prop := Claim7.holds Tryd.pinned (.plain (OpenSpec.ofChange vsetOthersSpec)) vsetOthersCard

/-- THE TIED CARD OF 'isthmuslaw09.VsetFamilies'. -/
def vsetFamiliesCard : Claim7 := { stood := { row := vsetFamiliesRow, standIns := [], harness := (true, "342eecbc42ea5cedc2107017b8583c3c6f6dac3bfa3a803796900ef95b768c10"), looks := false }, kinds := [], alts := [], laidByText := true, laidKinds := [.data], laidTests := true, laidLooks := .later }
def VsetFamiliesCardSaid : Prop := Claim7.holds Tryd.pinned (.plain (OpenSpec.ofChange vsetFamiliesSpec)) vsetFamiliesCard

/-- THE TIED CARD OF 'isthmuslaw09.VsetGroups'. -/
def vsetGroupsCard : Claim7 := { stood := { row := vsetGroupsRow, standIns := [], harness := (true, "342eecbc42ea5cedc2107017b8583c3c6f6dac3bfa3a803796900ef95b768c10"), looks := false }, kinds := [], alts := [], laidByText := true, laidKinds := [.data], laidTests := true, laidLooks := .later }
def VsetGroupsCardSaid : Prop := Claim7.holds Tryd.pinned (.plain (OpenSpec.ofChange vsetGroupsSpec)) vsetGroupsCard

/-- THE SECOND FORM's CARD OF 'isthmuslaw09.VsetAlike'. -/
def vsetAlikeUptoCard : Claim7 := { stood := { row := vsetAlikeUptoRow, standIns := [], harness := (true, "342eecbc42ea5cedc2107017b8583c3c6f6dac3bfa3a803796900ef95b768c10"), looks := false }, kinds := [], alts := [], laidByText := true, laidKinds := [.data], laidTests := true, laidLooks := .later }
def VsetAlikeUptoCardSaid : Prop := Claim7.holds Tryd.pinned (.plain (OpenSpec.upto vsetAlikeSpec)) vsetAlikeUptoCard

/-- THE SECOND FORM's CARD OF 'isthmuslaw09.VsetPlays'. -/
def vsetPlaysUptoCard : Claim7 := { stood := { row := vsetPlaysUptoRow, standIns := [], harness := (true, "342eecbc42ea5cedc2107017b8583c3c6f6dac3bfa3a803796900ef95b768c10"), looks := false }, kinds := [], alts := [], laidByText := true, laidKinds := [.data], laidTests := true, laidLooks := .later }
def VsetPlaysUptoCardSaid : Prop := Claim7.holds Tryd.pinned (.plain (OpenSpec.upto vsetPlaysSpec)) vsetPlaysUptoCard

/-- THE SECOND FORM's CARD OF 'isthmuslaw09.VsetLaws'. -/
def vsetLawsUptoCard : Claim7 := { stood := { row := vsetLawsUptoRow, standIns := [], harness := (true, "342eecbc42ea5cedc2107017b8583c3c6f6dac3bfa3a803796900ef95b768c10"), looks := false }, kinds := [], alts := [], laidByText := true, laidKinds := [.data], laidTests := true, laidLooks := .later }
def VsetLawsUptoCardSaid : Prop := Claim7.holds Tryd.pinned (.plain (OpenSpec.upto vsetLawsSpec)) vsetLawsUptoCard

/-- THE SECOND FORM's CARD OF 'isthmuslaw09.VsetOthers'. -/
def vsetOthersUptoCard : Claim7 := { stood := { row := vsetOthersUptoRow, standIns := [], harness := (true, "342eecbc42ea5cedc2107017b8583c3c6f6dac3bfa3a803796900ef95b768c10"), looks := false }, kinds := [], alts := [], laidByText := true, laidKinds := [.data], laidTests := true, laidLooks := .later }
def VsetOthersUptoCardSaid : Prop := Claim7.holds Tryd.pinned (.plain (OpenSpec.upto vsetOthersSpec)) vsetOthersUptoCard

/-- THE SECOND FORM's CARD OF 'isthmuslaw09.VsetFamilies'. -/
def vsetFamiliesUptoCard : Claim7 := { stood := { row := vsetFamiliesUptoRow, standIns := [], harness := (true, "342eecbc42ea5cedc2107017b8583c3c6f6dac3bfa3a803796900ef95b768c10"), looks := false }, kinds := [], alts := [], laidByText := true, laidKinds := [.data], laidTests := true, laidLooks := .later }
def VsetFamiliesUptoCardSaid : Prop := Claim7.holds Tryd.pinned (.plain (OpenSpec.upto vsetFamiliesSpec)) vsetFamiliesUptoCard

/-- THE SECOND FORM's CARD OF 'isthmuslaw09.VsetGroups'. -/
def vsetGroupsUptoCard : Claim7 := { stood := { row := vsetGroupsUptoRow, standIns := [], harness := (true, "342eecbc42ea5cedc2107017b8583c3c6f6dac3bfa3a803796900ef95b768c10"), looks := false }, kinds := [], alts := [], laidByText := true, laidKinds := [.data], laidTests := true, laidLooks := .later }
def VsetGroupsUptoCardSaid : Prop := Claim7.holds Tryd.pinned (.plain (OpenSpec.upto vsetGroupsSpec)) vsetGroupsUptoCard
end Rows
end Go.Proofs.YtdhepjcdlkahnaaDoor
