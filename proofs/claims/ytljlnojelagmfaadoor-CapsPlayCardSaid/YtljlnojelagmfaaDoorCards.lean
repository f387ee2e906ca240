/-
  DERIVED. GIVEN WITH THE SEED: THE CARDS: each row of YtljlnojelagmfaaDoorRows.lean that lists a variable, with what it lists TIED to the program's text (the seventh form; the later family's looks); each row that meets fmt, with fmt's text TOLD by the authors' own Lean function (tested against real Go, not proved from fmt's source: count such statements apart). THE CARD IS WHAT COUNTS. Prove the row's statement (the work); the ties are given (YtljlnojelagmfaaDoorTie.lean); close each card by the builder's one call (the guide's Derived/Test/ToyasCard.lean, 'card_holds'). Laid BY PROGRAM, IN A SANDBOX (cutbox-door.mjs). By AI agents, Wed Nov 11 2026. No macro, syntax, notation, axiom, sorry.
-/
import Derived.Test.YtljlnojelagmfaaDoorRows
import GoSem.ClaimSeven
namespace Go.Proofs.YtljlnojelagmfaaDoor
namespace Rows

/-- THE TIED CARD OF 'pledgelaw12.CutSteps'. -/
def cutStepsCard : Claim7 := { stood := { row := cutStepsRow, standIns := [], harness := (true, "0388face6db2086c3cc19b051a440c93dcc6232838368c968aff956e70a97cf7"), looks := true }, kinds := [], alts := [], laidByText := true, laidKinds := [.sentinel], laidTests := true, laidLooks := .later }
def CutStepsCardSaid : Prop := Claim7.holds Tryd.pinned (.plain (OpenSpec.ofChange cutStepsSpec)) cutStepsCard

/-- THE TIED CARD OF 'pledgelaw12.CutPlays'. -/
def cutPlaysCard : Claim7 := { stood := { row := cutPlaysRow, standIns := [], harness := (true, "0388face6db2086c3cc19b051a440c93dcc6232838368c968aff956e70a97cf7"), looks := true }, kinds := [], alts := [], laidByText := true, laidKinds := [.sentinel, .sentinel, .sentinel, .sentinel, .sentinel, .sentinel, .sentinel, .sentinel, .sentinel, .sentinel, .sentinel, .sentinel, .sentinel, .sentinel, .sentinel, .sentinel, .sentinel, .sentinel, .sentinel, .sentinel, .sentinel], laidTests := true, laidLooks := .later }
def CutPlaysCardSaid : Prop := Claim7.holds Tryd.pinned (.plain (OpenSpec.ofChange cutPlaysSpec)) cutPlaysCard

/-- THE TIED CARD OF 'pledgelaw22.StressPlays'. -/
def stressPlaysCard : Claim7 := { stood := { row := stressPlaysRow, standIns := [], harness := (true, "0388face6db2086c3cc19b051a440c93dcc6232838368c968aff956e70a97cf7"), looks := true }, kinds := [], alts := [], laidByText := true, laidKinds := [.sentinel, .sentinel, .sentinel, .sentinel, .sentinel, .sentinel, .sentinel, .sentinel, .sentinel, .sentinel, .sentinel, .sentinel, .sentinel, .sentinel, .sentinel, .sentinel, .sentinel, .sentinel, .sentinel, .sentinel, .sentinel], laidTests := true, laidLooks := .later }
def StressPlaysCardSaid : Prop := Claim7.holds Tryd.pinned (.plain (OpenSpec.ofChange stressPlaysSpec)) stressPlaysCard

/-- THE TIED CARD OF 'pledgelaw16.CapsFree'. -/
def capsFreeCard : Claim7 := { stood := { row := capsFreeRow, standIns := [], harness := (true, "0388face6db2086c3cc19b051a440c93dcc6232838368c968aff956e70a97cf7"), looks := true }, kinds := [], alts := [], laidByText := true, laidKinds := [.sentinel, .sentinel], laidTests := true, laidLooks := .later }
def CapsFreeCardSaid : Prop := Claim7.holds Tryd.pinned (.plain (OpenSpec.ofChange capsFreeSpec)) capsFreeCard

/-- THE TIED CARD OF 'pledgelaw16.CapsPlay'. -/
def capsPlayCard : Claim7 := { stood := { row := capsPlayRow, standIns := [], harness := (true, "0388face6db2086c3cc19b051a440c93dcc6232838368c968aff956e70a97cf7"), looks := true }, kinds := [], alts := [], laidByText := true, laidKinds := [.sentinel, .sentinel, .sentinel, .sentinel, .sentinel, .sentinel, .sentinel, .sentinel, .sentinel, .sentinel, .sentinel, .sentinel, .sentinel, .sentinel, .sentinel, .sentinel, .sentinel, .sentinel, .sentinel, .sentinel, .sentinel], laidTests := true, laidLooks := .later }
def CapsPlayCardSaid : Prop := Claim7.holds Tryd.pinned (.plain (OpenSpec.ofChange capsPlaySpec)) capsPlayCard

/-- THE TIED CARD OF 'pledgelaw25.OpFields'. -/
def opFieldsCard : Claim7 := { stood := { row := opFieldsRow, standIns := [], harness := (true, "0388face6db2086c3cc19b051a440c93dcc6232838368c968aff956e70a97cf7"), looks := true }, kinds := [], alts := [], laidByText := true, laidKinds := [.data, .data, .data, .data, .sentinel, .sentinel, .sentinel, .sentinel, .sentinel, .sentinel, .sentinel, .sentinel, .sentinel, .sentinel, .sentinel, .sentinel, .sentinel, .sentinel, .sentinel, .sentinel, .sentinel, .sentinel, .sentinel, .sentinel, .sentinel, .pinned], laidTests := true, laidLooks := .later }
def OpFieldsCardSaid : Prop := Claim7.holds Tryd.pinned (.plain (OpenSpec.ofChange opFieldsSpec)) opFieldsCard

/-- THE TIED CARD OF 'pledgelaw6.RootSaves'. -/
def rootSavesCard : Claim7 := { stood := { row := rootSavesRow, standIns := [], harness := (true, "0388face6db2086c3cc19b051a440c93dcc6232838368c968aff956e70a97cf7"), looks := true }, kinds := [], alts := [], laidByText := true, laidKinds := [.sentinel, .sentinel, .sentinel, .sentinel, .sentinel, .sentinel, .sentinel, .sentinel, .sentinel, .sentinel, .sentinel, .sentinel, .sentinel, .sentinel, .sentinel, .sentinel, .sentinel, .sentinel, .sentinel, .sentinel, .sentinel], laidTests := true, laidLooks := .later }
def RootSavesCardSaid : Prop := Claim7.holds Tryd.pinned (.plain (OpenSpec.ofChange rootSavesSpec)) rootSavesCard

/-- THE TIED CARD OF 'pledgelaw8.KeepOrder'. -/
def keepOrderCard : Claim7 := { stood := { row := keepOrderRow, standIns := [], harness := (true, "0388face6db2086c3cc19b051a440c93dcc6232838368c968aff956e70a97cf7"), looks := true }, kinds := [], alts := [], laidByText := true, laidKinds := [.sentinel, .sentinel, .sentinel, .sentinel, .sentinel], laidTests := true, laidLooks := .later }
def KeepOrderCardSaid : Prop := Claim7.holds Tryd.pinned (.plain (OpenSpec.ofChange keepOrderSpec)) keepOrderCard

/-- THE TIED CARD OF 'pledgelaw7.PageRoom'. -/
def pageRoomCard : Claim7 := { stood := { row := pageRoomRow, standIns := [], harness := (true, "0388face6db2086c3cc19b051a440c93dcc6232838368c968aff956e70a97cf7"), looks := true }, kinds := [], alts := [], laidByText := true, laidKinds := [.sentinel, .sentinel, .sentinel, .sentinel, .sentinel, .sentinel, .sentinel, .sentinel, .sentinel, .sentinel, .sentinel, .sentinel, .sentinel, .sentinel, .sentinel, .sentinel, .sentinel, .sentinel, .sentinel, .sentinel, .sentinel], laidTests := true, laidLooks := .later }
def PageRoomCardSaid : Prop := Claim7.holds Tryd.pinned (.plain (OpenSpec.ofChange pageRoomSpec)) pageRoomCard

/-- THE TIED CARD OF 'pledgelaw7.PageLong'. -/
def pageLongCard : Claim7 := { stood := { row := pageLongRow, standIns := [], harness := (true, "0388face6db2086c3cc19b051a440c93dcc6232838368c968aff956e70a97cf7"), looks := true }, kinds := [], alts := [], laidByText := true, laidKinds := [.sentinel, .sentinel, .sentinel, .sentinel, .sentinel], laidTests := true, laidLooks := .later }
def PageLongCardSaid : Prop := Claim7.holds Tryd.pinned (.plain (OpenSpec.ofChange pageLongSpec)) pageLongCard

/-- THE TIED CARD OF 'pledgelaw7.PageApart'. -/
def pageApartCard : Claim7 := { stood := { row := pageApartRow, standIns := [], harness := (true, "0388face6db2086c3cc19b051a440c93dcc6232838368c968aff956e70a97cf7"), looks := true }, kinds := [], alts := [], laidByText := true, laidKinds := [.sentinel, .sentinel, .sentinel, .sentinel, .sentinel, .sentinel, .sentinel, .sentinel, .sentinel, .sentinel, .sentinel, .sentinel, .sentinel, .sentinel, .sentinel, .sentinel, .sentinel, .sentinel, .sentinel, .sentinel, .sentinel], laidTests := true, laidLooks := .later }
def PageApartCardSaid : Prop := Claim7.holds Tryd.pinned (.plain (OpenSpec.ofChange pageApartSpec)) pageApartCard

/-- THE SECOND FORM's CARD OF 'pledgelaw12.CutSteps'. -/
def cutStepsUptoCard : Claim7 := { stood := { row := cutStepsUptoRow, standIns := [], harness := (true, "0388face6db2086c3cc19b051a440c93dcc6232838368c968aff956e70a97cf7"), looks := true }, kinds := [], alts := [], laidByText := true, laidKinds := [.sentinel], laidTests := true, laidLooks := .later }
def CutStepsUptoCardSaid : Prop := Claim7.holds Tryd.pinned (.plain (OpenSpec.upto cutStepsSpec)) cutStepsUptoCard

/-- THE SECOND FORM's CARD OF 'pledgelaw12.CutPlays'. -/
def cutPlaysUptoCard : Claim7 := { stood := { row := cutPlaysUptoRow, standIns := [], harness := (true, "0388face6db2086c3cc19b051a440c93dcc6232838368c968aff956e70a97cf7"), looks := true }, kinds := [], alts := [], laidByText := true, laidKinds := [.sentinel, .sentinel, .sentinel, .sentinel, .sentinel, .sentinel, .sentinel, .sentinel, .sentinel, .sentinel, .sentinel, .sentinel, .sentinel, .sentinel, .sentinel, .sentinel, .sentinel, .sentinel, .sentinel, .sentinel, .sentinel], laidTests := true, laidLooks := .later }
def CutPlaysUptoCardSaid : Prop := Claim7.holds Tryd.pinned (.plain (OpenSpec.upto cutPlaysSpec)) cutPlaysUptoCard

/-- THE SECOND FORM's CARD OF 'pledgelaw22.StressPlays'. -/
def stressPlaysUptoCard : Claim7 := { stood := { row := stressPlaysUptoRow, standIns := [], harness := (true, "0388face6db2086c3cc19b051a440c93dcc6232838368c968aff956e70a97cf7"), looks := true }, kinds := [], alts := [], laidByText := true, laidKinds := [.sentinel, .sentinel, .sentinel, .sentinel, .sentinel, .sentinel, .sentinel, .sentinel, .sentinel, .sentinel, .sentinel, .sentinel, .sentinel, .sentinel, .sentinel, .sentinel, .sentinel, .sentinel, .sentinel, .sentinel, .sentinel], laidTests := true, laidLooks := .later }
def StressPlaysUptoCardSaid : Prop := Claim7.holds Tryd.pinned (.plain (OpenSpec.upto stressPlaysSpec)) stressPlaysUptoCard

/-- THE SECOND FORM's CARD OF 'pledgelaw16.CapsFree'. -/
def capsFreeUptoCard : Claim7 := { stood := { row := capsFreeUptoRow, standIns := [], harness := (true, "0388face6db2086c3cc19b051a440c93dcc6232838368c968aff956e70a97cf7"), looks := true }, kinds := [], alts := [], laidByText := true, laidKinds := [.sentinel, .sentinel], laidTests := true, laidLooks := .later }
def CapsFreeUptoCardSaid : Prop := Claim7.holds Tryd.pinned (.plain (OpenSpec.upto capsFreeSpec)) capsFreeUptoCard

/-- THE SECOND FORM's CARD OF 'pledgelaw16.CapsPlay'. -/
def capsPlayUptoCard : Claim7 := { stood := { row := capsPlayUptoRow, standIns := [], harness := (true, "0388face6db2086c3cc19b051a440c93dcc6232838368c968aff956e70a97cf7"), looks := true }, kinds := [], alts := [], laidByText := true, laidKinds := [.sentinel, .sentinel, .sentinel, .sentinel, .sentinel, .sentinel, .sentinel, .sentinel, .sentinel, .sentinel, .sentinel, .sentinel, .sentinel, .sentinel, .sentinel, .sentinel, .sentinel, .sentinel, .sentinel, .sentinel, .sentinel], laidTests := true, laidLooks := .later }
def CapsPlayUptoCardSaid : Prop := Claim7.holds Tryd.pinned (.plain (OpenSpec.upto capsPlaySpec)) capsPlayUptoCard

/-- THE SECOND FORM's CARD OF 'pledgelaw25.OpFields'. -/
def opFieldsUptoCard : Claim7 := { stood := { row := opFieldsUptoRow, standIns := [], harness := (true, "0388face6db2086c3cc19b051a440c93dcc6232838368c968aff956e70a97cf7"), looks := true }, kinds := [], alts := [], laidByText := true, laidKinds := [.data, .data, .data, .data, .sentinel, .sentinel, .sentinel, .sentinel, .sentinel, .sentinel, .sentinel, .sentinel, .sentinel, .sentinel, .sentinel, .sentinel, .sentinel, .sentinel, .sentinel, .sentinel, .sentinel, .sentinel, .sentinel, .sentinel, .sentinel, .pinned], laidTests := true, laidLooks := .later }
def OpFieldsUptoCardSaid : Prop := Claim7.holds Tryd.pinned (.plain (OpenSpec.upto opFieldsSpec)) opFieldsUptoCard

/-- THE SECOND FORM's CARD OF 'pledgelaw6.RootSaves'. -/
def rootSavesUptoCard : Claim7 := { stood := { row := rootSavesUptoRow, standIns := [], harness := (true, "0388face6db2086c3cc19b051a440c93dcc6232838368c968aff956e70a97cf7"), looks := true }, kinds := [], alts := [], laidByText := true, laidKinds := [.sentinel, .sentinel, .sentinel, .sentinel, .sentinel, .sentinel, .sentinel, .sentinel, .sentinel, .sentinel, .sentinel, .sentinel, .sentinel, .sentinel, .sentinel, .sentinel, .sentinel, .sentinel, .sentinel, .sentinel, .sentinel], laidTests := true, laidLooks := .later }
def RootSavesUptoCardSaid : Prop := Claim7.holds Tryd.pinned (.plain (OpenSpec.upto rootSavesSpec)) rootSavesUptoCard

/-- THE SECOND FORM's CARD OF 'pledgelaw8.KeepOrder'. -/
def keepOrderUptoCard : Claim7 := { stood := { row := keepOrderUptoRow, standIns := [], harness := (true, "0388face6db2086c3cc19b051a440c93dcc6232838368c968aff956e70a97cf7"), looks := true }, kinds := [], alts := [], laidByText := true, laidKinds := [.sentinel, .sentinel, .sentinel, .sentinel, .sentinel], laidTests := true, laidLooks := .later }
def KeepOrderUptoCardSaid : Prop := Claim7.holds Tryd.pinned (.plain (OpenSpec.upto keepOrderSpec)) keepOrderUptoCard

/-- THE SECOND FORM's CARD OF 'pledgelaw7.PageRoom'. -/
def pageRoomUptoCard : Claim7 := { stood := { row := pageRoomUptoRow, standIns := [], harness := (true, "0388face6db2086c3cc19b051a440c93dcc6232838368c968aff956e70a97cf7"), looks := true }, kinds := [], alts := [], laidByText := true, laidKinds := [.sentinel, .sentinel, .sentinel, .sentinel, .sentinel, .sentinel, .sentinel, .sentinel, .sentinel, .sentinel, .sentinel, .sentinel, .sentinel, .sentinel, .sentinel, .sentinel, .sentinel, .sentinel, .sentinel, .sentinel, .sentinel], laidTests := true, laidLooks := .later }
def PageRoomUptoCardSaid : Prop := Claim7.holds Tryd.pinned (.plain (OpenSpec.upto pageRoomSpec)) pageRoomUptoCard

/-- THE SECOND FORM's CARD OF 'pledgelaw7.PageLong'. -/
def pageLongUptoCard : Claim7 := { stood := { row := pageLongUptoRow, standIns := [], harness := (true, "0388face6db2086c3cc19b051a440c93dcc6232838368c968aff956e70a97cf7"), looks := true }, kinds := [], alts := [], laidByText := true, laidKinds := [.sentinel, .sentinel, .sentinel, .sentinel, .sentinel], laidTests := true, laidLooks := .later }
def PageLongUptoCardSaid : Prop := Claim7.holds Tryd.pinned (.plain (OpenSpec.upto pageLongSpec)) pageLongUptoCard

/-- THE SECOND FORM's CARD OF 'pledgelaw7.PageApart'. -/
def pageApartUptoCard : Claim7 := { stood := { row := pageApartUptoRow, standIns := [], harness := (true, "0388face6db2086c3cc19b051a440c93dcc6232838368c968aff956e70a97cf7"), looks := true }, kinds := [], alts := [], laidByText := true, laidKinds := [.sentinel, .sentinel, .sentinel, .sentinel, .sentinel, .sentinel, .sentinel, .sentinel, .sentinel, .sentinel, .sentinel, .sentinel, .sentinel, .sentinel, .sentinel, .sentinel, .sentinel, .sentinel, .sentinel, .sentinel, .sentinel], laidTests := true, laidLooks := .later }
def PageApartUptoCardSaid : Prop := Claim7.holds Tryd.pinned (.plain (OpenSpec.upto pageApartSpec)) pageApartUptoCard
end Rows
end Go.Proofs.YtljlnojelagmfaaDoor
