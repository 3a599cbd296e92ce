/-
  DERIVED. GIVEN WITH THE SEED: THE CARDS: each row of YtclecmpmohoamaaDoorRows.lean that lists a variable, with what it lists TIED to the program's text (the seventh form; the later family's looks); each row that meets fmt, with fmt's text TOLD by the authors' own Lean function (tested against real Go, not proved from fmt's source: count such statements apart). THE CARD IS WHAT COUNTS. Prove the row's statement (the work); the ties are given (YtclecmpmohoamaaDoorTie.lean); close each card by the builder's one call (the guide's Derived/Test/ToyasCard.lean, 'card_holds'). Laid BY PROGRAM, IN A SANDBOX (cutbox-door.mjs). By AI agents, Wed Nov 11 2026. No macro, syntax, notation, axiom, sorry.
-/
import Derived.Test.YtclecmpmohoamaaDoorRows
import GoSem.ClaimSeven
namespace Go.Proofs.YtclecmpmohoamaaDoor
namespace Rows

/-- THE TIED CARD OF 'sealwaxlaw06.ShaSmall'. -/
def shaSmallCard : Claim7 := { stood := { row := shaSmallRow, standIns := [], harness := (true, "0c5cab817c13cb487e46db62f477a8bfa4e2505f41e5e6e9d6a242ae7ceb3d09"), looks := false }, kinds := [], alts := [], laidByText := true, laidKinds := [.data, .data, .data, .data], laidTests := true, laidLooks := .later }
def ShaSmallCardSaid : Prop := Claim7.holds Tryd.pinned (.plain (OpenSpec.ofChange shaSmallSpec)) shaSmallCard

/-- THE TIED CARD OF 'sealwaxlaw06.ShaGreat'. -/
def shaGreatCard : Claim7 := { stood := { row := shaGreatRow, standIns := [], harness := (true, "0c5cab817c13cb487e46db62f477a8bfa4e2505f41e5e6e9d6a242ae7ceb3d09"), looks := false }, kinds := [], alts := [], laidByText := true, laidKinds := [.data, .data, .data, .data], laidTests := true, laidLooks := .later }
def ShaGreatCardSaid : Prop := Claim7.holds Tryd.pinned (.plain (OpenSpec.ofChange shaGreatSpec)) shaGreatCard

/-- THE TIED CARD OF 'sealwaxlaw06.ShaWrites'. -/
def shaWritesCard : Claim7 := { stood := { row := shaWritesRow, standIns := [], harness := (true, "0c5cab817c13cb487e46db62f477a8bfa4e2505f41e5e6e9d6a242ae7ceb3d09"), looks := false }, kinds := [], alts := [], laidByText := true, laidKinds := [.data, .data, .data, .data], laidTests := true, laidLooks := .later }
def ShaWritesCardSaid : Prop := Claim7.holds Tryd.pinned (.plain (OpenSpec.ofChange shaWritesSpec)) shaWritesCard

/-- THE TIED CARD OF 'sealwaxlaw06.ShaCuts'. -/
def shaCutsCard : Claim7 := { stood := { row := shaCutsRow, standIns := [], harness := (true, "0c5cab817c13cb487e46db62f477a8bfa4e2505f41e5e6e9d6a242ae7ceb3d09"), looks := false }, kinds := [], alts := [], laidByText := true, laidKinds := [.data, .data, .data, .data], laidTests := true, laidLooks := .later }
def ShaCutsCardSaid : Prop := Claim7.holds Tryd.pinned (.plain (OpenSpec.ofChange shaCutsSpec)) shaCutsCard

/-- THE TIED CARD OF 'sealwaxlaw06.ShaClones'. -/
def shaClonesCard : Claim7 := { stood := { row := shaClonesRow, standIns := [], harness := (true, "0c5cab817c13cb487e46db62f477a8bfa4e2505f41e5e6e9d6a242ae7ceb3d09"), looks := false }, kinds := [], alts := [], laidByText := true, laidKinds := [.data, .data, .data, .data], laidTests := true, laidLooks := .later }
def ShaClonesCardSaid : Prop := Claim7.holds Tryd.pinned (.plain (OpenSpec.ofChange shaClonesSpec)) shaClonesCard

/-- THE TIED CARD OF 'sealwaxlaw06.ShaNobody'. -/
def shaNobodyCard : Claim7 := { stood := { row := shaNobodyRow, standIns := [], harness := (true, "0c5cab817c13cb487e46db62f477a8bfa4e2505f41e5e6e9d6a242ae7ceb3d09"), looks := false }, kinds := [], alts := [], laidByText := true, laidKinds := [.data, .data, .data, .data], laidTests := true, laidLooks := .later }
def ShaNobodyCardSaid : Prop := Claim7.holds Tryd.pinned (.plain (OpenSpec.ofChange shaNobodySpec)) shaNobodyCard

/-- THE TIED CARD OF 'sealwaxlaw07.HkdfMacs'. -/
def hkdfMacsCard : Claim7 := { stood := { row := hkdfMacsRow, standIns := [], harness := (true, "0c5cab817c13cb487e46db62f477a8bfa4e2505f41e5e6e9d6a242ae7ceb3d09"), looks := false }, kinds := [], alts := [], laidByText := true, laidKinds := [.data, .data], laidTests := true, laidLooks := .later }
def HkdfMacsCardSaid : Prop := Claim7.holds Tryd.pinned (.plain (OpenSpec.ofChange hkdfMacsSpec)) hkdfMacsCard

/-- THE TIED CARD OF 'sealwaxlaw07.HkdfLong'. -/
def hkdfLongCard : Claim7 := { stood := { row := hkdfLongRow, standIns := [], harness := (true, "0c5cab817c13cb487e46db62f477a8bfa4e2505f41e5e6e9d6a242ae7ceb3d09"), looks := false }, kinds := [], alts := [], laidByText := true, laidKinds := [.data, .data], laidTests := true, laidLooks := .later }
def HkdfLongCardSaid : Prop := Claim7.holds Tryd.pinned (.plain (OpenSpec.ofChange hkdfLongSpec)) hkdfLongCard

/-- THE TIED CARD OF 'sealwaxlaw07.HkdfExtracts'. -/
def hkdfExtractsCard : Claim7 := { stood := { row := hkdfExtractsRow, standIns := [], harness := (true, "0c5cab817c13cb487e46db62f477a8bfa4e2505f41e5e6e9d6a242ae7ceb3d09"), looks := false }, kinds := [], alts := [], laidByText := true, laidKinds := [.data, .data], laidTests := true, laidLooks := .later }
def HkdfExtractsCardSaid : Prop := Claim7.holds Tryd.pinned (.plain (OpenSpec.ofChange hkdfExtractsSpec)) hkdfExtractsCard

/-- THE TIED CARD OF 'sealwaxlaw07.HkdfExpands'. -/
def hkdfExpandsCard : Claim7 := { stood := { row := hkdfExpandsRow, standIns := [], harness := (true, "0c5cab817c13cb487e46db62f477a8bfa4e2505f41e5e6e9d6a242ae7ceb3d09"), looks := false }, kinds := [], alts := [], laidByText := true, laidKinds := [.data, .data], laidTests := true, laidLooks := .later }
def HkdfExpandsCardSaid : Prop := Claim7.holds Tryd.pinned (.plain (OpenSpec.ofChange hkdfExpandsSpec)) hkdfExpandsCard

/-- THE TIED CARD OF 'sealwaxlaw07.HkdfBegins'. -/
def hkdfBeginsCard : Claim7 := { stood := { row := hkdfBeginsRow, standIns := [], harness := (true, "0c5cab817c13cb487e46db62f477a8bfa4e2505f41e5e6e9d6a242ae7ceb3d09"), looks := false }, kinds := [], alts := [], laidByText := true, laidKinds := [.data, .data], laidTests := true, laidLooks := .later }
def HkdfBeginsCardSaid : Prop := Claim7.holds Tryd.pinned (.plain (OpenSpec.ofChange hkdfBeginsSpec)) hkdfBeginsCard

/-- THE TIED CARD OF 'sealwaxlaw07.HkdfDerives'. -/
def hkdfDerivesCard : Claim7 := { stood := { row := hkdfDerivesRow, standIns := [], harness := (true, "0c5cab817c13cb487e46db62f477a8bfa4e2505f41e5e6e9d6a242ae7ceb3d09"), looks := false }, kinds := [], alts := [], laidByText := true, laidKinds := [.data, .data], laidTests := true, laidLooks := .later }
def HkdfDerivesCardSaid : Prop := Claim7.holds Tryd.pinned (.plain (OpenSpec.ofChange hkdfDerivesSpec)) hkdfDerivesCard

/-- THE SECOND FORM's CARD OF 'sealwaxlaw06.ShaSmall'. -/
def shaSmallUptoCard : Claim7 := { stood := { row := shaSmallUptoRow, standIns := [], harness := (true, "0c5cab817c13cb487e46db62f477a8bfa4e2505f41e5e6e9d6a242ae7ceb3d09"), looks := false }, kinds := [], alts := [], laidByText := true, laidKinds := [.data, .data, .data, .data], laidTests := true, laidLooks := .later }
def ShaSmallUptoCardSaid : Prop := Claim7.holds Tryd.pinned (.plain (OpenSpec.upto shaSmallSpec)) shaSmallUptoCard

/-- THE SECOND FORM's CARD OF 'sealwaxlaw06.ShaGreat'. -/
def shaGreatUptoCard : Claim7 := { stood := { row := shaGreatUptoRow, standIns := [], harness := (true, "0c5cab817c13cb487e46db62f477a8bfa4e2505f41e5e6e9d6a242ae7ceb3d09"), looks := false }, kinds := [], alts := [], laidByText := true, laidKinds := [.data, .data, .data, .data], laidTests := true, laidLooks := .later }
def ShaGreatUptoCardSaid : Prop := Claim7.holds Tryd.pinned (.plain (OpenSpec.upto shaGreatSpec)) shaGreatUptoCard

/-- THE SECOND FORM's CARD OF 'sealwaxlaw06.ShaWrites'. -/
def shaWritesUptoCard : Claim7 := { stood := { row := shaWritesUptoRow, standIns := [], harness := (true, "0c5cab817c13cb487e46db62f477a8bfa4e2505f41e5e6e9d6a242ae7ceb3d09"), looks := false }, kinds := [], alts := [], laidByText := true, laidKinds := [.data, .data, .data, .data], laidTests := true, laidLooks := .later }
def ShaWritesUptoCardSaid : Prop := Claim7.holds Tryd.pinned (.plain (OpenSpec.upto shaWritesSpec)) shaWritesUptoCard

/-- THE SECOND FORM's CARD OF 'sealwaxlaw06.ShaCuts'. -/
def shaCutsUptoCard : Claim7 := { stood := { row := shaCutsUptoRow, standIns := [], harness := (true, "0c5cab817c13cb487e46db62f477a8bfa4e2505f41e5e6e9d6a242ae7ceb3d09"), looks := false }, kinds := [], alts := [], laidByText := true, laidKinds := [.data, .data, .data, .data], laidTests := true, laidLooks := .later }
def ShaCutsUptoCardSaid : Prop := Claim7.holds Tryd.pinned (.plain (OpenSpec.upto shaCutsSpec)) shaCutsUptoCard

/-- THE SECOND FORM's CARD OF 'sealwaxlaw06.ShaClones'. -/
def shaClonesUptoCard : Claim7 := { stood := { row := shaClonesUptoRow, standIns := [], harness := (true, "0c5cab817c13cb487e46db62f477a8bfa4e2505f41e5e6e9d6a242ae7ceb3d09"), looks := false }, kinds := [], alts := [], laidByText := true, laidKinds := [.data, .data, .data, .data], laidTests := true, laidLooks := .later }
def ShaClonesUptoCardSaid : Prop := Claim7.holds Tryd.pinned (.plain (OpenSpec.upto shaClonesSpec)) shaClonesUptoCard

/-- THE SECOND FORM's CARD OF 'sealwaxlaw06.ShaNobody'. -/
def shaNobodyUptoCard : Claim7 := { stood := { row := shaNobodyUptoRow, standIns := [], harness := (true, "0c5cab817c13cb487e46db62f477a8bfa4e2505f41e5e6e9d6a242ae7ceb3d09"), looks := false }, kinds := [], alts := [], laidByText := true, laidKinds := [.data, .data, .data, .data], laidTests := true, laidLooks := .later }
def ShaNobodyUptoCardSaid : Prop := Claim7.holds Tryd.pinned (.plain (OpenSpec.upto shaNobodySpec)) shaNobodyUptoCard

/-- THE SECOND FORM's CARD OF 'sealwaxlaw07.HkdfMacs'. -/
def hkdfMacsUptoCard : Claim7 := { stood := { row := hkdfMacsUptoRow, standIns := [], harness := (true, "0c5cab817c13cb487e46db62f477a8bfa4e2505f41e5e6e9d6a242ae7ceb3d09"), looks := false }, kinds := [], alts := [], laidByText := true, laidKinds := [.data, .data], laidTests := true, laidLooks := .later }
def HkdfMacsUptoCardSaid : Prop := Claim7.holds Tryd.pinned (.plain (OpenSpec.upto hkdfMacsSpec)) hkdfMacsUptoCard

/-- THE SECOND FORM's CARD OF 'sealwaxlaw07.HkdfLong'. -/
def hkdfLongUptoCard : Claim7 := { stood := { row := hkdfLongUptoRow, standIns := [], harness := (true, "0c5cab817c13cb487e46db62f477a8bfa4e2505f41e5e6e9d6a242ae7ceb3d09"), looks := false }, kinds := [], alts := [], laidByText := true, laidKinds := [.data, .data], laidTests := true, laidLooks := .later }
def HkdfLongUptoCardSaid : Prop := Claim7.holds Tryd.pinned (.plain (OpenSpec.upto hkdfLongSpec)) hkdfLongUptoCard

/-- THE SECOND FORM's CARD OF 'sealwaxlaw07.HkdfExtracts'. -/
def hkdfExtractsUptoCard : Claim7 := { stood := { row := hkdfExtractsUptoRow, standIns := [], harness := (true, "0c5cab817c13cb487e46db62f477a8bfa4e2505f41e5e6e9d6a242ae7ceb3d09"), looks := false }, kinds := [], alts := [], laidByText := true, laidKinds := [.data, .data], laidTests := true, laidLooks := .later }
def HkdfExtractsUptoCardSaid : Prop := Claim7.holds Tryd.pinned (.plain (OpenSpec.upto hkdfExtractsSpec)) hkdfExtractsUptoCard

/-- THE SECOND FORM's CARD OF 'sealwaxlaw07.HkdfExpands'. -/
def hkdfExpandsUptoCard : Claim7 := { stood := { row := hkdfExpandsUptoRow, standIns := [], harness := (true, "0c5cab817c13cb487e46db62f477a8bfa4e2505f41e5e6e9d6a242ae7ceb3d09"), looks := false }, kinds := [], alts := [], laidByText := true, laidKinds := [.data, .data], laidTests := true, laidLooks := .later }
def HkdfExpandsUptoCardSaid : Prop := Claim7.holds Tryd.pinned (.plain (OpenSpec.upto hkdfExpandsSpec)) hkdfExpandsUptoCard

/-- THE SECOND FORM's CARD OF 'sealwaxlaw07.HkdfBegins'. -/
def hkdfBeginsUptoCard : Claim7 := { stood := { row := hkdfBeginsUptoRow, standIns := [], harness := (true, "0c5cab817c13cb487e46db62f477a8bfa4e2505f41e5e6e9d6a242ae7ceb3d09"), looks := false }, kinds := [], alts := [], laidByText := true, laidKinds := [.data, .data], laidTests := true, laidLooks := .later }
def HkdfBeginsUptoCardSaid : Prop := Claim7.holds Tryd.pinned (.plain (OpenSpec.upto hkdfBeginsSpec)) hkdfBeginsUptoCard

/-- THE SECOND FORM's CARD OF 'sealwaxlaw07.HkdfDerives'. -/
def hkdfDerivesUptoCard : Claim7 := { stood := { row := hkdfDerivesUptoRow, standIns := [], harness := (true, "0c5cab817c13cb487e46db62f477a8bfa4e2505f41e5e6e9d6a242ae7ceb3d09"), looks := false }, kinds := [], alts := [], laidByText := true, laidKinds := [.data, .data], laidTests := true, laidLooks := .later }
def HkdfDerivesUptoCardSaid : Prop := Claim7.holds Tryd.pinned (.plain (OpenSpec.upto hkdfDerivesSpec)) hkdfDerivesUptoCard
end Rows
end Go.Proofs.YtclecmpmohoamaaDoor
