/-
  DERIVED. GIVEN WITH THE SEED: THE CARDS: each row of YtadbkhijieinkaaDoorRows.lean that lists a variable, with what it lists TIED to the program's text (the seventh form; the later family's looks); each row that meets fmt, with fmt's text TOLD by the authors' own Lean function (tested against real Go, not proved from fmt's source: count such statements apart). THE CARD IS WHAT COUNTS. Prove the row's statement (the work); the ties are given (YtadbkhijieinkaaDoorTie.lean); close each card by the builder's one call (the guide's Derived/Test/ToyasCard.lean, 'card_holds'). Laid BY PROGRAM, IN A SANDBOX (cutbox-door.mjs). By AI agents, Wed Nov 11 2026. No macro, syntax, notation, axiom, sorry.
-/
import Derived.Test.YtadbkhijieinkaaDoorRows
import GoSem.ClaimSeven
namespace Go.Proofs.YtadbkhijieinkaaDoor
namespace Rows

/-- THE TIED CARD OF 'licitlaw02.CodecNumbers'. -/
def codecNumbersCard : Claim7 := { stood := { row := codecNumbersRow, standIns := [], harness := (true, "27927a8343f79f994dc172a5d557e55f2184230dedee41d9c7d8df1257d3cff3"), looks := false }, kinds := [], alts := [], laidByText := true, laidKinds := [.data, .data, .data], laidTests := true, laidLooks := .later }
def CodecNumbersCardSaid : Prop := Claim7.holds Tryd.pinned (.plain (OpenSpec.ofChange codecNumbersSpec)) codecNumbersCard

/-- THE TIED CARD OF 'licitlaw02.CodecTexts'. -/
def codecTextsCard : Claim7 := { stood := { row := codecTextsRow, standIns := [], harness := (true, "27927a8343f79f994dc172a5d557e55f2184230dedee41d9c7d8df1257d3cff3"), looks := false }, kinds := [], alts := [], laidByText := true, laidKinds := [.data, .data, .data], laidTests := true, laidLooks := .later }
def CodecTextsCardSaid : Prop := Claim7.holds Tryd.pinned (.plain (OpenSpec.ofChange codecTextsSpec)) codecTextsCard

/-- THE TIED CARD OF 'licitlaw02.CodecReads'. -/
def codecReadsCard : Claim7 := { stood := { row := codecReadsRow, standIns := [], harness := (true, "27927a8343f79f994dc172a5d557e55f2184230dedee41d9c7d8df1257d3cff3"), looks := false }, kinds := [], alts := [], laidByText := true, laidKinds := [.data, .data, .data], laidTests := true, laidLooks := .later }
def CodecReadsCardSaid : Prop := Claim7.holds Tryd.pinned (.plain (OpenSpec.ofChange codecReadsSpec)) codecReadsCard

/-- THE TIED CARD OF 'licitlaw02.CodecReturns'. -/
def codecReturnsCard : Claim7 := { stood := { row := codecReturnsRow, standIns := [], harness := (true, "27927a8343f79f994dc172a5d557e55f2184230dedee41d9c7d8df1257d3cff3"), looks := false }, kinds := [], alts := [], laidByText := true, laidKinds := [.data, .data, .data], laidTests := true, laidLooks := .later }
def CodecReturnsCardSaid : Prop := Claim7.holds Tryd.pinned (.plain (OpenSpec.ofChange codecReturnsSpec)) codecReturnsCard

/-- THE TIED CARD OF 'licitlaw02.CodecBeginnings'. -/
def codecBeginningsCard : Claim7 := { stood := { row := codecBeginningsRow, standIns := [], harness := (true, "27927a8343f79f994dc172a5d557e55f2184230dedee41d9c7d8df1257d3cff3"), looks := false }, kinds := [], alts := [], laidByText := true, laidKinds := [.data, .data, .data], laidTests := true, laidLooks := .later }
def CodecBeginningsCardSaid : Prop := Claim7.holds Tryd.pinned (.plain (OpenSpec.ofChange codecBeginningsSpec)) codecBeginningsCard

/-- THE TIED CARD OF 'licitlaw02.CodecCanonical'. -/
def codecCanonicalCard : Claim7 := { stood := { row := codecCanonicalRow, standIns := [], harness := (true, "27927a8343f79f994dc172a5d557e55f2184230dedee41d9c7d8df1257d3cff3"), looks := false }, kinds := [], alts := [], laidByText := true, laidKinds := [.data, .data, .data], laidTests := true, laidLooks := .later }
def CodecCanonicalCardSaid : Prop := Claim7.holds Tryd.pinned (.plain (OpenSpec.ofChange codecCanonicalSpec)) codecCanonicalCard

/-- THE TIED CARD OF 'licitlaw02.CodecStops'. -/
def codecStopsCard : Claim7 := { stood := { row := codecStopsRow, standIns := [], harness := (true, "27927a8343f79f994dc172a5d557e55f2184230dedee41d9c7d8df1257d3cff3"), looks := false }, kinds := [], alts := [], laidByText := true, laidKinds := [.data, .data, .data], laidTests := true, laidLooks := .later }
def CodecStopsCardSaid : Prop := Claim7.holds Tryd.pinned (.plain (OpenSpec.ofChange codecStopsSpec)) codecStopsCard

/-- THE SECOND FORM's CARD OF 'licitlaw02.CodecNumbers'. -/
def codecNumbersUptoCard : Claim7 := { stood := { row := codecNumbersUptoRow, standIns := [], harness := (true, "27927a8343f79f994dc172a5d557e55f2184230dedee41d9c7d8df1257d3cff3"), looks := false }, kinds := [], alts := [], laidByText := true, laidKinds := [.data, .data, .data], laidTests := true, laidLooks := .later }
def CodecNumbersUptoCardSaid : Prop := Claim7.holds Tryd.pinned (.plain (OpenSpec.upto codecNumbersSpec)) codecNumbersUptoCard

/-- THE SECOND FORM's CARD OF 'licitlaw02.CodecTexts'. -/
def codecTextsUptoCard : Claim7 := { stood := { row := codecTextsUptoRow, standIns := [], harness := (true, "27927a8343f79f994dc172a5d557e55f2184230dedee41d9c7d8df1257d3cff3"), looks := false }, kinds := [], alts := [], laidByText := true, laidKinds := [.data, .data, .data], laidTests := true, laidLooks := .later }
def CodecTextsUptoCardSaid : Prop := Claim7.holds Tryd.pinned (.plain (OpenSpec.upto codecTextsSpec)) codecTextsUptoCard

/-- THE SECOND FORM's CARD OF 'licitlaw02.CodecReads'. -/
def codecReadsUptoCard : Claim7 := { stood := { row := codecReadsUptoRow, standIns := [], harness := (true, "27927a8343f79f994dc172a5d557e55f2184230dedee41d9c7d8df1257d3cff3"), looks := false }, kinds := [], alts := [], laidByText := true, laidKinds := [.data, .data, .data], laidTests := true, laidLooks := .later }
def CodecReadsUptoCardSaid : Prop := Claim7.holds Tryd.pinned (.plain (OpenSpec.upto codecReadsSpec)) codecReadsUptoCard

/-- THE SECOND FORM's CARD OF 'licitlaw02.CodecReturns'. -/
def codecReturnsUptoCard : Claim7 := { stood := { row := codecReturnsUptoRow, standIns := [], harness := (true, "27927a8343f79f994dc172a5d557e55f2184230dedee41d9c7d8df1257d3cff3"), looks := false }, kinds := [], alts := [], laidByText := true, laidKinds := [.data, .data, .data], laidTests := true, laidLooks := .later }
def CodecReturnsUptoCardSaid : Prop := Claim7.holds Tryd.pinned (.plain (OpenSpec.upto codecReturnsSpec)) codecReturnsUptoCard

/-- THE SECOND FORM's CARD OF 'licitlaw02.CodecBeginnings'. -/
def codecBeginningsUptoCard : Claim7 := { stood := { row := codecBeginningsUptoRow, standIns := [], harness := (true, "27927a8343f79f994dc172a5d557e55f2184230dedee41d9c7d8df1257d3cff3"), looks := false }, kinds := [], alts := [], laidByText := true, laidKinds := [.data, .data, .data], laidTests := true, laidLooks := .later }
def CodecBeginningsUptoCardSaid : Prop := Claim7.holds Tryd.pinned (.plain (OpenSpec.upto codecBeginningsSpec)) codecBeginningsUptoCard

/-- THE SECOND FORM's CARD OF 'licitlaw02.CodecCanonical'. -/
def codecCanonicalUptoCard : Claim7 := { stood := { row := codecCanonicalUptoRow, standIns := [], harness := (true, "27927a8343f79f994dc172a5d557e55f2184230dedee41d9c7d8df1257d3cff3"), looks := false }, kinds := [], alts := [], laidByText := true, laidKinds := [.data, .data, .data], laidTests := true, laidLooks := .later }
def CodecCanonicalUptoCardSaid : Prop := Claim7.holds Tryd.pinned (.plain (OpenSpec.upto codecCanonicalSpec)) codecCanonicalUptoCard

/-- THE SECOND FORM's CARD OF 'licitlaw02.CodecStops'. -/
def codecStopsUptoCard : Claim7 := { stood := { row := codecStopsUptoRow, standIns := [], harness := (true, "27927a8343f79f994dc172a5d557e55f2184230dedee41d9c7d8df1257d3cff3"), looks := false }, kinds := [], alts := [], laidByText := true, laidKinds := [.data, .data, .data], laidTests := true, laidLooks := .later }
def CodecStopsUptoCardSaid : Prop := Claim7.holds Tryd.pinned (.plain (OpenSpec.upto codecStopsSpec)) codecStopsUptoCard
end Rows
end Go.Proofs.YtadbkhijieinkaaDoor
