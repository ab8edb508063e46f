/-
  DERIVED. GIVEN WITH THE SEED: THE CARDS: each row of YtknpbekoenbphaaGreatDoorRows.lean that lists a variable, with what it lists TIED to the program's text (the seventh form; the later family's looks); each row that meets fmt, with fmt's text TOLD by the authors' own Lean function (tested against real Go, not proved from fmt's source: count such statements apart). THE CARD IS WHAT COUNTS. Prove the row's statement (the work); the ties are given (YtknpbekoenbphaaGreatDoorTie.lean); close each card by the builder's one call (the guide's Derived/Test/ToyasCard.lean, 'card_holds'). Laid BY PROGRAM, IN A SANDBOX (cutbox-door.mjs). By AI agents, Wed Nov 11 2026. No macro, syntax, notation, axiom, sorry.
-/
import Derived.Test.YtknpbekoenbphaaGreatDoorRows
import GoSem.ClaimSeven
namespace Go.Proofs.YtknpbekoenbphaaGreatDoor
namespace Rows

/-- THE TIED CARD OF 'licitlaw50.ReviewFolds'. -/
def reviewFoldsCard : Claim7 := { stood := { row := reviewFoldsRow, standIns := [], harness := (true, "65f85be54beb99cef3a51f60c62838008ce0d2c35e3282de39808c1910218729"), looks := false }, kinds := [], alts := [], laidByText := true, laidKinds := [.data, .data, .data], laidTests := true, laidLooks := .later }
def ReviewFoldsCardSaid : Prop := Claim7.holds Tryz.pinned (.plain (OpenSpec.ofChange reviewFoldsSpec)) reviewFoldsCard

/-- THE TIED CARD OF 'licitlaw50.ReviewAnyOrder'. -/
def reviewAnyOrderCard : Claim7 := { stood := { row := reviewAnyOrderRow, standIns := [], harness := (true, "65f85be54beb99cef3a51f60c62838008ce0d2c35e3282de39808c1910218729"), looks := false }, kinds := [], alts := [], laidByText := true, laidKinds := [.data, .data, .data], laidTests := true, laidLooks := .later }
def ReviewAnyOrderCardSaid : Prop := Claim7.holds Tryz.pinned (.plain (OpenSpec.ofChange reviewAnyOrderSpec)) reviewAnyOrderCard

/-- THE TIED CARD OF 'licitlaw50.ReviewOrders'. -/
def reviewOrdersCard : Claim7 := { stood := { row := reviewOrdersRow, standIns := [], harness := (true, "65f85be54beb99cef3a51f60c62838008ce0d2c35e3282de39808c1910218729"), looks := false }, kinds := [], alts := [], laidByText := true, laidKinds := [.data, .data, .data], laidTests := true, laidLooks := .later }
def ReviewOrdersCardSaid : Prop := Claim7.holds Tryz.pinned (.plain (OpenSpec.ofChange reviewOrdersSpec)) reviewOrdersCard

/-- THE TIED CARD OF 'licitlaw50.ReviewBeginnings'. -/
def reviewBeginningsCard : Claim7 := { stood := { row := reviewBeginningsRow, standIns := [], harness := (true, "65f85be54beb99cef3a51f60c62838008ce0d2c35e3282de39808c1910218729"), looks := false }, kinds := [], alts := [], laidByText := true, laidKinds := [.data, .data, .data], laidTests := true, laidLooks := .later }
def ReviewBeginningsCardSaid : Prop := Claim7.holds Tryz.pinned (.plain (OpenSpec.ofChange reviewBeginningsSpec)) reviewBeginningsCard

/-- THE TIED CARD OF 'licitlaw50.ReviewPasts'. -/
def reviewPastsCard : Claim7 := { stood := { row := reviewPastsRow, standIns := [], harness := (true, "65f85be54beb99cef3a51f60c62838008ce0d2c35e3282de39808c1910218729"), looks := false }, kinds := [], alts := [], laidByText := true, laidKinds := [.data, .data, .data], laidTests := true, laidLooks := .later }
def ReviewPastsCardSaid : Prop := Claim7.holds Tryz.pinned (.plain (OpenSpec.ofChange reviewPastsSpec)) reviewPastsCard

/-- THE TIED CARD OF 'licitlaw50.ReviewChecks'. -/
def reviewChecksCard : Claim7 := { stood := { row := reviewChecksRow, standIns := [], harness := (true, "65f85be54beb99cef3a51f60c62838008ce0d2c35e3282de39808c1910218729"), looks := false }, kinds := [], alts := [], laidByText := true, laidKinds := [.data, .data, .data], laidTests := true, laidLooks := .later }
def ReviewChecksCardSaid : Prop := Claim7.holds Tryz.pinned (.plain (OpenSpec.ofChange reviewChecksSpec)) reviewChecksCard

/-- THE TIED CARD OF 'licitlaw50.ReviewSigns'. -/
def reviewSignsCard : Claim7 := { stood := { row := reviewSignsRow, standIns := [], harness := (true, "65f85be54beb99cef3a51f60c62838008ce0d2c35e3282de39808c1910218729"), looks := false }, kinds := [], alts := [], laidByText := true, laidKinds := [.data, .data, .data], laidTests := true, laidLooks := .later }
def ReviewSignsCardSaid : Prop := Claim7.holds Tryz.pinned (.plain (OpenSpec.ofChange reviewSignsSpec)) reviewSignsCard

/-- THE TIED CARD OF 'licitlaw50.ReviewValid'. -/
def reviewValidCard : Claim7 := { stood := { row := reviewValidRow, standIns := [], harness := (true, "65f85be54beb99cef3a51f60c62838008ce0d2c35e3282de39808c1910218729"), looks := false }, kinds := [], alts := [], laidByText := true, laidKinds := [.data, .data, .data], laidTests := true, laidLooks := .later }
def ReviewValidCardSaid : Prop := Claim7.holds Tryz.pinned (.plain (OpenSpec.ofChange reviewValidSpec)) reviewValidCard

/-- THE TIED CARD OF 'licitlaw50.ReviewDecodes'. -/
def reviewDecodesCard : Claim7 := { stood := { row := reviewDecodesRow, standIns := [], harness := (true, "65f85be54beb99cef3a51f60c62838008ce0d2c35e3282de39808c1910218729"), looks := false }, kinds := [], alts := [], laidByText := true, laidKinds := [.data, .data, .data], laidTests := true, laidLooks := .later }
def ReviewDecodesCardSaid : Prop := Claim7.holds Tryz.pinned (.plain (OpenSpec.ofChange reviewDecodesSpec)) reviewDecodesCard

/-- THE TIED CARD OF 'licitlaw50.ReviewPacks'. -/
def reviewPacksCard : Claim7 := { stood := { row := reviewPacksRow, standIns := [], harness := (true, "65f85be54beb99cef3a51f60c62838008ce0d2c35e3282de39808c1910218729"), looks := false }, kinds := [], alts := [], laidByText := true, laidKinds := [.data, .data, .data], laidTests := true, laidLooks := .later }
def ReviewPacksCardSaid : Prop := Claim7.holds Tryz.pinned (.plain (OpenSpec.ofChange reviewPacksSpec)) reviewPacksCard

/-- THE SECOND FORM's CARD OF 'licitlaw50.ReviewFolds'. -/
def reviewFoldsUptoCard : Claim7 := { stood := { row := reviewFoldsUptoRow, standIns := [], harness := (true, "65f85be54beb99cef3a51f60c62838008ce0d2c35e3282de39808c1910218729"), looks := false }, kinds := [], alts := [], laidByText := true, laidKinds := [.data, .data, .data], laidTests := true, laidLooks := .later }
def ReviewFoldsUptoCardSaid : Prop := Claim7.holds Tryz.pinned (.plain (OpenSpec.upto reviewFoldsSpec)) reviewFoldsUptoCard

/-- THE SECOND FORM's CARD OF 'licitlaw50.ReviewAnyOrder'. -/
def reviewAnyOrderUptoCard : Claim7 := { stood := { row := reviewAnyOrderUptoRow, standIns := [], harness := (true, "65f85be54beb99cef3a51f60c62838008ce0d2c35e3282de39808c1910218729"), looks := false }, kinds := [], alts := [], laidByText := true, laidKinds := [.data, .data, .data], laidTests := true, laidLooks := .later }
def ReviewAnyOrderUptoCardSaid : Prop := Claim7.holds Tryz.pinned (.plain (OpenSpec.upto reviewAnyOrderSpec)) reviewAnyOrderUptoCard

/-- THE SECOND FORM's CARD OF 'licitlaw50.ReviewOrders'. -/
def reviewOrdersUptoCard : Claim7 := { stood := { row := reviewOrdersUptoRow, standIns := [], harness := (true, "65f85be54beb99cef3a51f60c62838008ce0d2c35e3282de39808c1910218729"), looks := false }, kinds := [], alts := [], laidByText := true, laidKinds := [.data, .data, .data], laidTests := true, laidLooks := .later }
def ReviewOrdersUptoCardSaid : Prop := Claim7.holds Tryz.pinned (.plain (OpenSpec.upto reviewOrdersSpec)) reviewOrdersUptoCard

/-- THE SECOND FORM's CARD OF 'licitlaw50.ReviewBeginnings'. -/
def reviewBeginningsUptoCard : Claim7 := { stood := { row := reviewBeginningsUptoRow, standIns := [], harness := (true, "65f85be54beb99cef3a51f60c62838008ce0d2c35e3282de39808c1910218729"), looks := false }, kinds := [], alts := [], laidByText := true, laidKinds := [.data, .data, .data], laidTests := true, laidLooks := .later }
def ReviewBeginningsUptoCardSaid : Prop := Claim7.holds Tryz.pinned (.plain (OpenSpec.upto reviewBeginningsSpec)) reviewBeginningsUptoCard

/-- THE SECOND FORM's CARD OF 'licitlaw50.ReviewPasts'. -/
def reviewPastsUptoCard : Claim7 := { stood := { row := reviewPastsUptoRow, standIns := [], harness := (true, "65f85be54beb99cef3a51f60c62838008ce0d2c35e3282de39808c1910218729"), looks := false }, kinds := [], alts := [], laidByText := true, laidKinds := [.data, .data, .data], laidTests := true, laidLooks := .later }
def ReviewPastsUptoCardSaid : Prop := Claim7.holds Tryz.pinned (.plain (OpenSpec.upto reviewPastsSpec)) reviewPastsUptoCard

/-- THE SECOND FORM's CARD OF 'licitlaw50.ReviewChecks'. -/
def reviewChecksUptoCard : Claim7 := { stood := { row := reviewChecksUptoRow, standIns := [], harness := (true, "65f85be54beb99cef3a51f60c62838008ce0d2c35e3282de39808c1910218729"), looks := false }, kinds := [], alts := [], laidByText := true, laidKinds := [.data, .data, .data], laidTests := true, laidLooks := .later }
def ReviewChecksUptoCardSaid : Prop := Claim7.holds Tryz.pinned (.plain (OpenSpec.upto reviewChecksSpec)) reviewChecksUptoCard

/-- THE SECOND FORM's CARD OF 'licitlaw50.ReviewSigns'. -/
def reviewSignsUptoCard : Claim7 := { stood := { row := reviewSignsUptoRow, standIns := [], harness := (true, "65f85be54beb99cef3a51f60c62838008ce0d2c35e3282de39808c1910218729"), looks := false }, kinds := [], alts := [], laidByText := true, laidKinds := [.data, .data, .data], laidTests := true, laidLooks := .later }
def ReviewSignsUptoCardSaid : Prop := Claim7.holds Tryz.pinned (.plain (OpenSpec.upto reviewSignsSpec)) reviewSignsUptoCard

/-- THE SECOND FORM's CARD OF 'licitlaw50.ReviewValid'. -/
def reviewValidUptoCard : Claim7 := { stood := { row := reviewValidUptoRow, standIns := [], harness := (true, "65f85be54beb99cef3a51f60c62838008ce0d2c35e3282de39808c1910218729"), looks := false }, kinds := [], alts := [], laidByText := true, laidKinds := [.data, .data, .data], laidTests := true, laidLooks := .later }
def ReviewValidUptoCardSaid : Prop := Claim7.holds Tryz.pinned (.plain (OpenSpec.upto reviewValidSpec)) reviewValidUptoCard

/-- THE SECOND FORM's CARD OF 'licitlaw50.ReviewDecodes'. -/
def reviewDecodesUptoCard : Claim7 := { stood := { row := reviewDecodesUptoRow, standIns := [], harness := (true, "65f85be54beb99cef3a51f60c62838008ce0d2c35e3282de39808c1910218729"), looks := false }, kinds := [], alts := [], laidByText := true, laidKinds := [.data, .data, .data], laidTests := true, laidLooks := .later }
def ReviewDecodesUptoCardSaid : Prop := Claim7.holds Tryz.pinned (.plain (OpenSpec.upto reviewDecodesSpec)) reviewDecodesUptoCard

/-- THE SECOND FORM's CARD OF 'licitlaw50.ReviewPacks'. -/
def reviewPacksUptoCard : Claim7 := { stood := { row := reviewPacksUptoRow, standIns := [], harness := (true, "65f85be54beb99cef3a51f60c62838008ce0d2c35e3282de39808c1910218729"), looks := false }, kinds := [], alts := [], laidByText := true, laidKinds := [.data, .data, .data], laidTests := true, laidLooks := .later }
def ReviewPacksUptoCardSaid : Prop := Claim7.holds Tryz.pinned (.plain (OpenSpec.upto reviewPacksSpec)) reviewPacksUptoCard
end Rows
end Go.Proofs.YtknpbekoenbphaaGreatDoor
