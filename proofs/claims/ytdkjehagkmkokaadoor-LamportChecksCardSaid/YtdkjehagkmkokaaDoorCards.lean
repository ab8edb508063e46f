/-
  DERIVED. GIVEN WITH THE SEED: THE CARDS: each row of YtdkjehagkmkokaaDoorRows.lean that lists a variable, with what it lists TIED to the program's text (the seventh form; the later family's looks); each row that meets fmt, with fmt's text TOLD by the authors' own Lean function (tested against real Go, not proved from fmt's source: count such statements apart). THE CARD IS WHAT COUNTS. Prove the row's statement (the work); the ties are given (YtdkjehagkmkokaaDoorTie.lean); close each card by the builder's one call (the guide's Derived/Test/ToyasCard.lean, 'card_holds'). Laid BY PROGRAM, IN A SANDBOX (cutbox-door.mjs). By AI agents, Wed Nov 11 2026. No macro, syntax, notation, axiom, sorry.
-/
import Derived.Test.YtdkjehagkmkokaaDoorRows
import GoSem.ClaimSeven
namespace Go.Proofs.YtdkjehagkmkokaaDoor
namespace Rows

/-- THE TIED CARD OF 'licitlaw48.LamportRoots'. -/
def lamportRootsCard : Claim7 := { stood := { row := lamportRootsRow, standIns := [], harness := (true, "f8c3e72a7af5329fd8d9e89491178557f4c3c16bf736f2252e0da61f48d10411"), looks := false }, kinds := [], alts := [], laidByText := true, laidKinds := [.data, .data, .data], laidTests := true, laidLooks := .later }
def LamportRootsCardSaid : Prop := Claim7.holds Tryd.pinned (.plain (OpenSpec.ofChange lamportRootsSpec)) lamportRootsCard

/-- THE TIED CARD OF 'licitlaw48.LamportChecks'. -/
def lamportChecksCard : Claim7 := { stood := { row := lamportChecksRow, standIns := [], harness := (true, "f8c3e72a7af5329fd8d9e89491178557f4c3c16bf736f2252e0da61f48d10411"), looks := false }, kinds := [], alts := [], laidByText := true, laidKinds := [.data, .data, .data], laidTests := true, laidLooks := .later }
def LamportChecksCardSaid : Prop := Claim7.holds Tryd.pinned (.plain (OpenSpec.ofChange lamportChecksSpec)) lamportChecksCard

/-- THE TIED CARD OF 'licitlaw48.LamportOnce'. -/
def lamportOnceCard : Claim7 := { stood := { row := lamportOnceRow, standIns := [], harness := (true, "f8c3e72a7af5329fd8d9e89491178557f4c3c16bf736f2252e0da61f48d10411"), looks := false }, kinds := [], alts := [], laidByText := true, laidKinds := [.data, .data, .data], laidTests := true, laidLooks := .later }
def LamportOnceCardSaid : Prop := Claim7.holds Tryd.pinned (.plain (OpenSpec.ofChange lamportOnceSpec)) lamportOnceCard

/-- THE TIED CARD OF 'licitlaw48.LamportSeparate'. -/
def lamportSeparateCard : Claim7 := { stood := { row := lamportSeparateRow, standIns := [], harness := (true, "f8c3e72a7af5329fd8d9e89491178557f4c3c16bf736f2252e0da61f48d10411"), looks := false }, kinds := [], alts := [], laidByText := true, laidKinds := [.data, .data, .data], laidTests := true, laidLooks := .later }
def LamportSeparateCardSaid : Prop := Claim7.holds Tryd.pinned (.plain (OpenSpec.ofChange lamportSeparateSpec)) lamportSeparateCard

/-- THE TIED CARD OF 'licitlaw48.LamportSigns'. -/
def lamportSignsCard : Claim7 := { stood := { row := lamportSignsRow, standIns := [], harness := (true, "f8c3e72a7af5329fd8d9e89491178557f4c3c16bf736f2252e0da61f48d10411"), looks := false }, kinds := [], alts := [], laidByText := true, laidKinds := [.data, .data, .data], laidTests := true, laidLooks := .later }
def LamportSignsCardSaid : Prop := Claim7.holds Tryd.pinned (.plain (OpenSpec.ofChange lamportSignsSpec)) lamportSignsCard

/-- THE TIED CARD OF 'licitlaw48.LamportAccepts'. -/
def lamportAcceptsCard : Claim7 := { stood := { row := lamportAcceptsRow, standIns := [], harness := (true, "f8c3e72a7af5329fd8d9e89491178557f4c3c16bf736f2252e0da61f48d10411"), looks := false }, kinds := [], alts := [], laidByText := true, laidKinds := [.data, .data, .data], laidTests := true, laidLooks := .later }
def LamportAcceptsCardSaid : Prop := Claim7.holds Tryd.pinned (.plain (OpenSpec.ofChange lamportAcceptsSpec)) lamportAcceptsCard

/-- THE TIED CARD OF 'licitlaw48.LamportText'. -/
def lamportTextCard : Claim7 := { stood := { row := lamportTextRow, standIns := [], harness := (true, "f8c3e72a7af5329fd8d9e89491178557f4c3c16bf736f2252e0da61f48d10411"), looks := false }, kinds := [], alts := [], laidByText := true, laidKinds := [.data, .data, .data], laidTests := true, laidLooks := .later }
def LamportTextCardSaid : Prop := Claim7.holds Tryd.pinned (.plain (OpenSpec.ofChange lamportTextSpec)) lamportTextCard

/-- THE TIED CARD OF 'licitlaw48.LamportStrange'. -/
def lamportStrangeCard : Claim7 := { stood := { row := lamportStrangeRow, standIns := [], harness := (true, "f8c3e72a7af5329fd8d9e89491178557f4c3c16bf736f2252e0da61f48d10411"), looks := false }, kinds := [], alts := [], laidByText := true, laidKinds := [.data, .data, .data], laidTests := true, laidLooks := .later }
def LamportStrangeCardSaid : Prop := Claim7.holds Tryd.pinned (.plain (OpenSpec.ofChange lamportStrangeSpec)) lamportStrangeCard

/-- THE SECOND FORM's CARD OF 'licitlaw48.LamportRoots'. -/
def lamportRootsUptoCard : Claim7 := { stood := { row := lamportRootsUptoRow, standIns := [], harness := (true, "f8c3e72a7af5329fd8d9e89491178557f4c3c16bf736f2252e0da61f48d10411"), looks := false }, kinds := [], alts := [], laidByText := true, laidKinds := [.data, .data, .data], laidTests := true, laidLooks := .later }
def LamportRootsUptoCardSaid : Prop := Claim7.holds Tryd.pinned (.plain (OpenSpec.upto lamportRootsSpec)) lamportRootsUptoCard

/-- THE SECOND FORM's CARD OF 'licitlaw48.LamportChecks'. -/
def lamportChecksUptoCard : Claim7 := { stood := { row := lamportChecksUptoRow, standIns := [], harness := (true, "f8c3e72a7af5329fd8d9e89491178557f4c3c16bf736f2252e0da61f48d10411"), looks := false }, kinds := [], alts := [], laidByText := true, laidKinds := [.data, .data, .data], laidTests := true, laidLooks := .later }
def LamportChecksUptoCardSaid : Prop := Claim7.holds Tryd.pinned (.plain (OpenSpec.upto lamportChecksSpec)) lamportChecksUptoCard

/-- THE SECOND FORM's CARD OF 'licitlaw48.LamportOnce'. -/
def lamportOnceUptoCard : Claim7 := { stood := { row := lamportOnceUptoRow, standIns := [], harness := (true, "f8c3e72a7af5329fd8d9e89491178557f4c3c16bf736f2252e0da61f48d10411"), looks := false }, kinds := [], alts := [], laidByText := true, laidKinds := [.data, .data, .data], laidTests := true, laidLooks := .later }
def LamportOnceUptoCardSaid : Prop := Claim7.holds Tryd.pinned (.plain (OpenSpec.upto lamportOnceSpec)) lamportOnceUptoCard

/-- THE SECOND FORM's CARD OF 'licitlaw48.LamportSeparate'. -/
def lamportSeparateUptoCard : Claim7 := { stood := { row := lamportSeparateUptoRow, standIns := [], harness := (true, "f8c3e72a7af5329fd8d9e89491178557f4c3c16bf736f2252e0da61f48d10411"), looks := false }, kinds := [], alts := [], laidByText := true, laidKinds := [.data, .data, .data], laidTests := true, laidLooks := .later }
def LamportSeparateUptoCardSaid : Prop := Claim7.holds Tryd.pinned (.plain (OpenSpec.upto lamportSeparateSpec)) lamportSeparateUptoCard

/-- THE SECOND FORM's CARD OF 'licitlaw48.LamportSigns'. -/
def lamportSignsUptoCard : Claim7 := { stood := { row := lamportSignsUptoRow, standIns := [], harness := (true, "f8c3e72a7af5329fd8d9e89491178557f4c3c16bf736f2252e0da61f48d10411"), looks := false }, kinds := [], alts := [], laidByText := true, laidKinds := [.data, .data, .data], laidTests := true, laidLooks := .later }
def LamportSignsUptoCardSaid : Prop := Claim7.holds Tryd.pinned (.plain (OpenSpec.upto lamportSignsSpec)) lamportSignsUptoCard

/-- THE SECOND FORM's CARD OF 'licitlaw48.LamportAccepts'. -/
def lamportAcceptsUptoCard : Claim7 := { stood := { row := lamportAcceptsUptoRow, standIns := [], harness := (true, "f8c3e72a7af5329fd8d9e89491178557f4c3c16bf736f2252e0da61f48d10411"), looks := false }, kinds := [], alts := [], laidByText := true, laidKinds := [.data, .data, .data], laidTests := true, laidLooks := .later }
def LamportAcceptsUptoCardSaid : Prop := Claim7.holds Tryd.pinned (.plain (OpenSpec.upto lamportAcceptsSpec)) lamportAcceptsUptoCard

/-- THE SECOND FORM's CARD OF 'licitlaw48.LamportText'. -/
def lamportTextUptoCard : Claim7 := { stood := { row := lamportTextUptoRow, standIns := [], harness := (true, "f8c3e72a7af5329fd8d9e89491178557f4c3c16bf736f2252e0da61f48d10411"), looks := false }, kinds := [], alts := [], laidByText := true, laidKinds := [.data, .data, .data], laidTests := true, laidLooks := .later }
def LamportTextUptoCardSaid : Prop := Claim7.holds Tryd.pinned (.plain (OpenSpec.upto lamportTextSpec)) lamportTextUptoCard

/-- THE SECOND FORM's CARD OF 'licitlaw48.LamportStrange'. -/
def lamportStrangeUptoCard : Claim7 := { stood := { row := lamportStrangeUptoRow, standIns := [], harness := (true, "f8c3e72a7af5329fd8d9e89491178557f4c3c16bf736f2252e0da61f48d10411"), looks := false }, kinds := [], alts := [], laidByText := true, laidKinds := [.data, .data, .data], laidTests := true, laidLooks := .later }
def LamportStrangeUptoCardSaid : Prop := Claim7.holds Tryd.pinned (.plain (OpenSpec.upto lamportStrangeSpec)) lamportStrangeUptoCard
end Rows
end Go.Proofs.YtdkjehagkmkokaaDoor
