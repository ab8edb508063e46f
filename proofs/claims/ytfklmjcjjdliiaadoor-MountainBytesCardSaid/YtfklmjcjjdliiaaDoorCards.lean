/-
  DERIVED. GIVEN WITH THE SEED: THE CARDS: each row of YtfklmjcjjdliiaaDoorRows.lean that lists a variable, with what it lists TIED to the program's text (the seventh form; the later family's looks); each row that meets fmt, with fmt's text TOLD by the authors' own Lean function (tested against real Go, not proved from fmt's source: count such statements apart). THE CARD IS WHAT COUNTS. Prove the row's statement (the work); the ties are given (YtfklmjcjjdliiaaDoorTie.lean); close each card by the builder's one call (the guide's Derived/Test/ToyasCard.lean, 'card_holds'). Laid BY PROGRAM, IN A SANDBOX (cutbox-door.mjs). By AI agents, Wed Nov 11 2026. No macro, syntax, notation, axiom, sorry.
-/
import Derived.Test.YtfklmjcjjdliiaaDoorRows
import GoSem.ClaimSeven
namespace Go.Proofs.YtfklmjcjjdliiaaDoor
namespace Rows

/-- THE TIED CARD OF 'licitlaw49.MountainProves'. -/
def mountainProvesCard : Claim7 := { stood := { row := mountainProvesRow, standIns := [], harness := (true, "ee09d82fcd228676b33ed946a691fb41ae5068c4a729aaddff7f5401b4fb3fcf"), looks := false }, kinds := [], alts := [], laidByText := true, laidKinds := [.data, .data, .data], laidTests := true, laidLooks := .later }
def MountainProvesCardSaid : Prop := Claim7.holds Tryd.pinned (.plain (OpenSpec.ofChange mountainProvesSpec)) mountainProvesCard

/-- THE TIED CARD OF 'licitlaw49.MountainIncluded'. -/
def mountainIncludedCard : Claim7 := { stood := { row := mountainIncludedRow, standIns := [], harness := (true, "ee09d82fcd228676b33ed946a691fb41ae5068c4a729aaddff7f5401b4fb3fcf"), looks := false }, kinds := [], alts := [], laidByText := true, laidKinds := [.data, .data, .data], laidTests := true, laidLooks := .later }
def MountainIncludedCardSaid : Prop := Claim7.holds Tryd.pinned (.plain (OpenSpec.ofChange mountainIncludedSpec)) mountainIncludedCard

/-- THE TIED CARD OF 'licitlaw49.MountainOnly'. -/
def mountainOnlyCard : Claim7 := { stood := { row := mountainOnlyRow, standIns := [], harness := (true, "ee09d82fcd228676b33ed946a691fb41ae5068c4a729aaddff7f5401b4fb3fcf"), looks := false }, kinds := [], alts := [], laidByText := true, laidKinds := [.data, .data, .data], laidTests := true, laidLooks := .later }
def MountainOnlyCardSaid : Prop := Claim7.holds Tryd.pinned (.plain (OpenSpec.ofChange mountainOnlySpec)) mountainOnlyCard

/-- THE TIED CARD OF 'licitlaw49.MountainOf'. -/
def mountainOfCard : Claim7 := { stood := { row := mountainOfRow, standIns := [], harness := (true, "ee09d82fcd228676b33ed946a691fb41ae5068c4a729aaddff7f5401b4fb3fcf"), looks := false }, kinds := [], alts := [], laidByText := true, laidKinds := [.data, .data, .data], laidTests := true, laidLooks := .later }
def MountainOfCardSaid : Prop := Claim7.holds Tryd.pinned (.plain (OpenSpec.ofChange mountainOfSpec)) mountainOfCard

/-- THE TIED CARD OF 'licitlaw49.MountainAdds'. -/
def mountainAddsCard : Claim7 := { stood := { row := mountainAddsRow, standIns := [], harness := (true, "ee09d82fcd228676b33ed946a691fb41ae5068c4a729aaddff7f5401b4fb3fcf"), looks := false }, kinds := [], alts := [], laidByText := true, laidKinds := [.data, .data, .data], laidTests := true, laidLooks := .later }
def MountainAddsCardSaid : Prop := Claim7.holds Tryd.pinned (.plain (OpenSpec.ofChange mountainAddsSpec)) mountainAddsCard

/-- THE TIED CARD OF 'licitlaw49.MountainGrows'. -/
def mountainGrowsCard : Claim7 := { stood := { row := mountainGrowsRow, standIns := [], harness := (true, "ee09d82fcd228676b33ed946a691fb41ae5068c4a729aaddff7f5401b4fb3fcf"), looks := false }, kinds := [], alts := [], laidByText := true, laidKinds := [.data, .data, .data], laidTests := true, laidLooks := .later }
def MountainGrowsCardSaid : Prop := Claim7.holds Tryd.pinned (.plain (OpenSpec.ofChange mountainGrowsSpec)) mountainGrowsCard

/-- THE TIED CARD OF 'licitlaw49.MountainGrown'. -/
def mountainGrownCard : Claim7 := { stood := { row := mountainGrownRow, standIns := [], harness := (true, "ee09d82fcd228676b33ed946a691fb41ae5068c4a729aaddff7f5401b4fb3fcf"), looks := false }, kinds := [], alts := [], laidByText := true, laidKinds := [.data, .data, .data], laidTests := true, laidLooks := .later }
def MountainGrownCardSaid : Prop := Claim7.holds Tryd.pinned (.plain (OpenSpec.ofChange mountainGrownSpec)) mountainGrownCard

/-- THE TIED CARD OF 'licitlaw49.MountainParts'. -/
def mountainPartsCard : Claim7 := { stood := { row := mountainPartsRow, standIns := [], harness := (true, "ee09d82fcd228676b33ed946a691fb41ae5068c4a729aaddff7f5401b4fb3fcf"), looks := false }, kinds := [], alts := [], laidByText := true, laidKinds := [.data, .data, .data], laidTests := true, laidLooks := .later }
def MountainPartsCardSaid : Prop := Claim7.holds Tryd.pinned (.plain (OpenSpec.ofChange mountainPartsSpec)) mountainPartsCard

/-- THE TIED CARD OF 'licitlaw49.MountainBytes'. -/
def mountainBytesCard : Claim7 := { stood := { row := mountainBytesRow, standIns := [], harness := (true, "ee09d82fcd228676b33ed946a691fb41ae5068c4a729aaddff7f5401b4fb3fcf"), looks := false }, kinds := [], alts := [], laidByText := true, laidKinds := [.data, .data, .data], laidTests := true, laidLooks := .later }
def MountainBytesCardSaid : Prop := Claim7.holds Tryd.pinned (.plain (OpenSpec.ofChange mountainBytesSpec)) mountainBytesCard

/-- THE TIED CARD OF 'licitlaw49.MountainRoot'. -/
def mountainRootCard : Claim7 := { stood := { row := mountainRootRow, standIns := [], harness := (true, "ee09d82fcd228676b33ed946a691fb41ae5068c4a729aaddff7f5401b4fb3fcf"), looks := false }, kinds := [], alts := [], laidByText := true, laidKinds := [.data, .data, .data], laidTests := true, laidLooks := .later }
def MountainRootCardSaid : Prop := Claim7.holds Tryd.pinned (.plain (OpenSpec.ofChange mountainRootSpec)) mountainRootCard

/-- THE SECOND FORM's CARD OF 'licitlaw49.MountainProves'. -/
def mountainProvesUptoCard : Claim7 := { stood := { row := mountainProvesUptoRow, standIns := [], harness := (true, "ee09d82fcd228676b33ed946a691fb41ae5068c4a729aaddff7f5401b4fb3fcf"), looks := false }, kinds := [], alts := [], laidByText := true, laidKinds := [.data, .data, .data], laidTests := true, laidLooks := .later }
def MountainProvesUptoCardSaid : Prop := Claim7.holds Tryd.pinned (.plain (OpenSpec.upto mountainProvesSpec)) mountainProvesUptoCard

/-- THE SECOND FORM's CARD OF 'licitlaw49.MountainIncluded'. -/
def mountainIncludedUptoCard : Claim7 := { stood := { row := mountainIncludedUptoRow, standIns := [], harness := (true, "ee09d82fcd228676b33ed946a691fb41ae5068c4a729aaddff7f5401b4fb3fcf"), looks := false }, kinds := [], alts := [], laidByText := true, laidKinds := [.data, .data, .data], laidTests := true, laidLooks := .later }
def MountainIncludedUptoCardSaid : Prop := Claim7.holds Tryd.pinned (.plain (OpenSpec.upto mountainIncludedSpec)) mountainIncludedUptoCard

/-- THE SECOND FORM's CARD OF 'licitlaw49.MountainOnly'. -/
def mountainOnlyUptoCard : Claim7 := { stood := { row := mountainOnlyUptoRow, standIns := [], harness := (true, "ee09d82fcd228676b33ed946a691fb41ae5068c4a729aaddff7f5401b4fb3fcf"), looks := false }, kinds := [], alts := [], laidByText := true, laidKinds := [.data, .data, .data], laidTests := true, laidLooks := .later }
def MountainOnlyUptoCardSaid : Prop := Claim7.holds Tryd.pinned (.plain (OpenSpec.upto mountainOnlySpec)) mountainOnlyUptoCard

/-- THE SECOND FORM's CARD OF 'licitlaw49.MountainOf'. -/
def mountainOfUptoCard : Claim7 := { stood := { row := mountainOfUptoRow, standIns := [], harness := (true, "ee09d82fcd228676b33ed946a691fb41ae5068c4a729aaddff7f5401b4fb3fcf"), looks := false }, kinds := [], alts := [], laidByText := true, laidKinds := [.data, .data, .data], laidTests := true, laidLooks := .later }
def MountainOfUptoCardSaid : Prop := Claim7.holds Tryd.pinned (.plain (OpenSpec.upto mountainOfSpec)) mountainOfUptoCard

/-- THE SECOND FORM's CARD OF 'licitlaw49.MountainAdds'. -/
def mountainAddsUptoCard : Claim7 := { stood := { row := mountainAddsUptoRow, standIns := [], harness := (true, "ee09d82fcd228676b33ed946a691fb41ae5068c4a729aaddff7f5401b4fb3fcf"), looks := false }, kinds := [], alts := [], laidByText := true, laidKinds := [.data, .data, .data], laidTests := true, laidLooks := .later }
def MountainAddsUptoCardSaid : Prop := Claim7.holds Tryd.pinned (.plain (OpenSpec.upto mountainAddsSpec)) mountainAddsUptoCard

/-- THE SECOND FORM's CARD OF 'licitlaw49.MountainGrows'. -/
def mountainGrowsUptoCard : Claim7 := { stood := { row := mountainGrowsUptoRow, standIns := [], harness := (true, "ee09d82fcd228676b33ed946a691fb41ae5068c4a729aaddff7f5401b4fb3fcf"), looks := false }, kinds := [], alts := [], laidByText := true, laidKinds := [.data, .data, .data], laidTests := true, laidLooks := .later }
def MountainGrowsUptoCardSaid : Prop := Claim7.holds Tryd.pinned (.plain (OpenSpec.upto mountainGrowsSpec)) mountainGrowsUptoCard

/-- THE SECOND FORM's CARD OF 'licitlaw49.MountainGrown'. -/
def mountainGrownUptoCard : Claim7 := { stood := { row := mountainGrownUptoRow, standIns := [], harness := (true, "ee09d82fcd228676b33ed946a691fb41ae5068c4a729aaddff7f5401b4fb3fcf"), looks := false }, kinds := [], alts := [], laidByText := true, laidKinds := [.data, .data, .data], laidTests := true, laidLooks := .later }
def MountainGrownUptoCardSaid : Prop := Claim7.holds Tryd.pinned (.plain (OpenSpec.upto mountainGrownSpec)) mountainGrownUptoCard

/-- THE SECOND FORM's CARD OF 'licitlaw49.MountainParts'. -/
def mountainPartsUptoCard : Claim7 := { stood := { row := mountainPartsUptoRow, standIns := [], harness := (true, "ee09d82fcd228676b33ed946a691fb41ae5068c4a729aaddff7f5401b4fb3fcf"), looks := false }, kinds := [], alts := [], laidByText := true, laidKinds := [.data, .data, .data], laidTests := true, laidLooks := .later }
def MountainPartsUptoCardSaid : Prop := Claim7.holds Tryd.pinned (.plain (OpenSpec.upto mountainPartsSpec)) mountainPartsUptoCard

/-- THE SECOND FORM's CARD OF 'licitlaw49.MountainBytes'. -/
def mountainBytesUptoCard : Claim7 := { stood := { row := mountainBytesUptoRow, standIns := [], harness := (true, "ee09d82fcd228676b33ed946a691fb41ae5068c4a729aaddff7f5401b4fb3fcf"), looks := false }, kinds := [], alts := [], laidByText := true, laidKinds := [.data, .data, .data], laidTests := true, laidLooks := .later }
def MountainBytesUptoCardSaid : Prop := Claim7.holds Tryd.pinned (.plain (OpenSpec.upto mountainBytesSpec)) mountainBytesUptoCard

/-- THE SECOND FORM's CARD OF 'licitlaw49.MountainRoot'. -/
def mountainRootUptoCard : Claim7 := { stood := { row := mountainRootUptoRow, standIns := [], harness := (true, "ee09d82fcd228676b33ed946a691fb41ae5068c4a729aaddff7f5401b4fb3fcf"), looks := false }, kinds := [], alts := [], laidByText := true, laidKinds := [.data, .data, .data], laidTests := true, laidLooks := .later }
def MountainRootUptoCardSaid : Prop := Claim7.holds Tryd.pinned (.plain (OpenSpec.upto mountainRootSpec)) mountainRootUptoCard
end Rows
end Go.Proofs.YtfklmjcjjdliiaaDoor
