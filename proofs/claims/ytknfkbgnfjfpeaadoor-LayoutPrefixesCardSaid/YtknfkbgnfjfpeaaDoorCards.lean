/-
  DERIVED. GIVEN WITH THE SEED: THE CARDS: each row of YtknfkbgnfjfpeaaDoorRows.lean that lists a variable, with what it lists TIED to the program's text (the seventh form; the later family's looks); each row that meets fmt, with fmt's text TOLD by the authors' own Lean function (tested against real Go, not proved from fmt's source: count such statements apart). THE CARD IS WHAT COUNTS. Prove the row's statement (the work); the ties are given (YtknfkbgnfjfpeaaDoorTie.lean); close each card by the builder's one call (the guide's Derived/Test/ToyasCard.lean, 'card_holds'). Laid BY PROGRAM, IN A SANDBOX (cutbox-door.mjs). By AI agents, Wed Nov 11 2026. No macro, syntax, notation, axiom, sorry.
-/
import Derived.Test.YtknfkbgnfjfpeaaDoorRows
import GoSem.ClaimSeven
namespace Go.Proofs.YtknfkbgnfjfpeaaDoor
namespace Rows

/-- THE TIED CARD OF 'tsblocklaw04.WireWrites'. -/
def wireWritesCard : Claim7 := { stood := { row := wireWritesRow, standIns := [], harness := (true, "005c9968711651b18d82882d6c35738aeb766a8ccb150a8cc9f4f504114e13bb"), looks := false }, kinds := [], alts := [], laidByText := true, laidKinds := [.data], laidTests := true, laidLooks := .later }
def WireWritesCardSaid : Prop := Claim7.holds Tryd.pinned (.plain (OpenSpec.ofChange wireWritesSpec)) wireWritesCard

/-- THE TIED CARD OF 'tsblocklaw04.WireFindsBursts'. -/
def wireFindsBurstsCard : Claim7 := { stood := { row := wireFindsBurstsRow, standIns := [], harness := (true, "005c9968711651b18d82882d6c35738aeb766a8ccb150a8cc9f4f504114e13bb"), looks := false }, kinds := [], alts := [], laidByText := true, laidKinds := [.data], laidTests := true, laidLooks := .later }
def WireFindsBurstsCardSaid : Prop := Claim7.holds Tryd.pinned (.plain (OpenSpec.ofChange wireFindsBurstsSpec)) wireFindsBurstsCard

/-- THE TIED CARD OF 'tsblocklaw04.WireRoundTrip'. -/
def wireRoundTripCard : Claim7 := { stood := { row := wireRoundTripRow, standIns := [], harness := (true, "005c9968711651b18d82882d6c35738aeb766a8ccb150a8cc9f4f504114e13bb"), looks := false }, kinds := [], alts := [], laidByText := true, laidKinds := [.data], laidTests := true, laidLooks := .later }
def WireRoundTripCardSaid : Prop := Claim7.holds Tryd.pinned (.plain (OpenSpec.ofChange wireRoundTripSpec)) wireRoundTripCard

/-- THE TIED CARD OF 'tsblocklaw04.WireReads'. -/
def wireReadsCard : Claim7 := { stood := { row := wireReadsRow, standIns := [], harness := (true, "005c9968711651b18d82882d6c35738aeb766a8ccb150a8cc9f4f504114e13bb"), looks := false }, kinds := [], alts := [], laidByText := true, laidKinds := [.data], laidTests := true, laidLooks := .later }
def WireReadsCardSaid : Prop := Claim7.holds Tryd.pinned (.plain (OpenSpec.ofChange wireReadsSpec)) wireReadsCard

/-- THE TIED CARD OF 'tsblocklaw04.WireStays'. -/
def wireStaysCard : Claim7 := { stood := { row := wireStaysRow, standIns := [], harness := (true, "005c9968711651b18d82882d6c35738aeb766a8ccb150a8cc9f4f504114e13bb"), looks := false }, kinds := [], alts := [], laidByText := true, laidKinds := [.data], laidTests := true, laidLooks := .later }
def WireStaysCardSaid : Prop := Claim7.holds Tryd.pinned (.plain (OpenSpec.ofChange wireStaysSpec)) wireStaysCard

/-- THE TIED CARD OF 'tsblocklaw04.WireIsolated'. -/
def wireIsolatedCard : Claim7 := { stood := { row := wireIsolatedRow, standIns := [], harness := (true, "005c9968711651b18d82882d6c35738aeb766a8ccb150a8cc9f4f504114e13bb"), looks := false }, kinds := [], alts := [], laidByText := true, laidKinds := [.data], laidTests := true, laidLooks := .later }
def WireIsolatedCardSaid : Prop := Claim7.holds Tryd.pinned (.plain (OpenSpec.ofChange wireIsolatedSpec)) wireIsolatedCard

/-- THE TIED CARD OF 'tsblocklaw16.LayoutAssembles'. -/
def layoutAssemblesCard : Claim7 := { stood := { row := layoutAssemblesRow, standIns := [], harness := (true, "005c9968711651b18d82882d6c35738aeb766a8ccb150a8cc9f4f504114e13bb"), looks := false }, kinds := [], alts := [], laidByText := true, laidKinds := [.data], laidTests := true, laidLooks := .later }
def LayoutAssemblesCardSaid : Prop := Claim7.holds Tryd.pinned (.plain (OpenSpec.ofChange layoutAssemblesSpec)) layoutAssemblesCard

/-- THE TIED CARD OF 'tsblocklaw16.LayoutParses'. -/
def layoutParsesCard : Claim7 := { stood := { row := layoutParsesRow, standIns := [], harness := (true, "005c9968711651b18d82882d6c35738aeb766a8ccb150a8cc9f4f504114e13bb"), looks := false }, kinds := [], alts := [], laidByText := true, laidKinds := [.data], laidTests := true, laidLooks := .later }
def LayoutParsesCardSaid : Prop := Claim7.holds Tryd.pinned (.plain (OpenSpec.ofChange layoutParsesSpec)) layoutParsesCard

/-- THE TIED CARD OF 'tsblocklaw16.LayoutIsCanonical'. -/
def layoutIsCanonicalCard : Claim7 := { stood := { row := layoutIsCanonicalRow, standIns := [], harness := (true, "005c9968711651b18d82882d6c35738aeb766a8ccb150a8cc9f4f504114e13bb"), looks := false }, kinds := [], alts := [], laidByText := true, laidKinds := [.data], laidTests := true, laidLooks := .later }
def LayoutIsCanonicalCardSaid : Prop := Claim7.holds Tryd.pinned (.plain (OpenSpec.ofChange layoutIsCanonicalSpec)) layoutIsCanonicalCard

/-- THE TIED CARD OF 'tsblocklaw16.LayoutFindsBursts'. -/
def layoutFindsBurstsCard : Claim7 := { stood := { row := layoutFindsBurstsRow, standIns := [], harness := (true, "005c9968711651b18d82882d6c35738aeb766a8ccb150a8cc9f4f504114e13bb"), looks := false }, kinds := [], alts := [], laidByText := true, laidKinds := [.data], laidTests := true, laidLooks := .later }
def LayoutFindsBurstsCardSaid : Prop := Claim7.holds Tryd.pinned (.plain (OpenSpec.ofChange layoutFindsBurstsSpec)) layoutFindsBurstsCard

/-- THE TIED CARD OF 'tsblocklaw16.LayoutRoundTrip'. -/
def layoutRoundTripCard : Claim7 := { stood := { row := layoutRoundTripRow, standIns := [], harness := (true, "005c9968711651b18d82882d6c35738aeb766a8ccb150a8cc9f4f504114e13bb"), looks := false }, kinds := [], alts := [], laidByText := true, laidKinds := [.data], laidTests := true, laidLooks := .later }
def LayoutRoundTripCardSaid : Prop := Claim7.holds Tryd.pinned (.plain (OpenSpec.ofChange layoutRoundTripSpec)) layoutRoundTripCard

/-- THE TIED CARD OF 'tsblocklaw16.LayoutPrefixes'. -/
def layoutPrefixesCard : Claim7 := { stood := { row := layoutPrefixesRow, standIns := [], harness := (true, "005c9968711651b18d82882d6c35738aeb766a8ccb150a8cc9f4f504114e13bb"), looks := false }, kinds := [], alts := [], laidByText := true, laidKinds := [.data], laidTests := true, laidLooks := .later }
def LayoutPrefixesCardSaid : Prop := Claim7.holds Tryd.pinned (.plain (OpenSpec.ofChange layoutPrefixesSpec)) layoutPrefixesCard

/-- THE SECOND FORM's CARD OF 'tsblocklaw04.WireWrites'. -/
def wireWritesUptoCard : Claim7 := { stood := { row := wireWritesUptoRow, standIns := [], harness := (true, "005c9968711651b18d82882d6c35738aeb766a8ccb150a8cc9f4f504114e13bb"), looks := false }, kinds := [], alts := [], laidByText := true, laidKinds := [.data], laidTests := true, laidLooks := .later }
def WireWritesUptoCardSaid : Prop := Claim7.holds Tryd.pinned (.plain (OpenSpec.upto wireWritesSpec)) wireWritesUptoCard

/-- THE SECOND FORM's CARD OF 'tsblocklaw04.WireFindsBursts'. -/
def wireFindsBurstsUptoCard : Claim7 := { stood := { row := wireFindsBurstsUptoRow, standIns := [], harness := (true, "005c9968711651b18d82882d6c35738aeb766a8ccb150a8cc9f4f504114e13bb"), looks := false }, kinds := [], alts := [], laidByText := true, laidKinds := [.data], laidTests := true, laidLooks := .later }
def WireFindsBurstsUptoCardSaid : Prop := Claim7.holds Tryd.pinned (.plain (OpenSpec.upto wireFindsBurstsSpec)) wireFindsBurstsUptoCard

/-- THE SECOND FORM's CARD OF 'tsblocklaw04.WireRoundTrip'. -/
def wireRoundTripUptoCard : Claim7 := { stood := { row := wireRoundTripUptoRow, standIns := [], harness := (true, "005c9968711651b18d82882d6c35738aeb766a8ccb150a8cc9f4f504114e13bb"), looks := false }, kinds := [], alts := [], laidByText := true, laidKinds := [.data], laidTests := true, laidLooks := .later }
def WireRoundTripUptoCardSaid : Prop := Claim7.holds Tryd.pinned (.plain (OpenSpec.upto wireRoundTripSpec)) wireRoundTripUptoCard

/-- THE SECOND FORM's CARD OF 'tsblocklaw04.WireReads'. -/
def wireReadsUptoCard : Claim7 := { stood := { row := wireReadsUptoRow, standIns := [], harness := (true, "005c9968711651b18d82882d6c35738aeb766a8ccb150a8cc9f4f504114e13bb"), looks := false }, kinds := [], alts := [], laidByText := true, laidKinds := [.data], laidTests := true, laidLooks := .later }
def WireReadsUptoCardSaid : Prop := Claim7.holds Tryd.pinned (.plain (OpenSpec.upto wireReadsSpec)) wireReadsUptoCard

/-- THE SECOND FORM's CARD OF 'tsblocklaw04.WireStays'. -/
def wireStaysUptoCard : Claim7 := { stood := { row := wireStaysUptoRow, standIns := [], harness := (true, "005c9968711651b18d82882d6c35738aeb766a8ccb150a8cc9f4f504114e13bb"), looks := false }, kinds := [], alts := [], laidByText := true, laidKinds := [.data], laidTests := true, laidLooks := .later }
def WireStaysUptoCardSaid : Prop := Claim7.holds Tryd.pinned (.plain (OpenSpec.upto wireStaysSpec)) wireStaysUptoCard

/-- THE SECOND FORM's CARD OF 'tsblocklaw04.WireIsolated'. -/
def wireIsolatedUptoCard : Claim7 := { stood := { row := wireIsolatedUptoRow, standIns := [], harness := (true, "005c9968711651b18d82882d6c35738aeb766a8ccb150a8cc9f4f504114e13bb"), looks := false }, kinds := [], alts := [], laidByText := true, laidKinds := [.data], laidTests := true, laidLooks := .later }
def WireIsolatedUptoCardSaid : Prop := Claim7.holds Tryd.pinned (.plain (OpenSpec.upto wireIsolatedSpec)) wireIsolatedUptoCard

/-- THE SECOND FORM's CARD OF 'tsblocklaw16.LayoutAssembles'. -/
def layoutAssemblesUptoCard : Claim7 := { stood := { row := layoutAssemblesUptoRow, standIns := [], harness := (true, "005c9968711651b18d82882d6c35738aeb766a8ccb150a8cc9f4f504114e13bb"), looks := false }, kinds := [], alts := [], laidByText := true, laidKinds := [.data], laidTests := true, laidLooks := .later }
def LayoutAssemblesUptoCardSaid : Prop := Claim7.holds Tryd.pinned (.plain (OpenSpec.upto layoutAssemblesSpec)) layoutAssemblesUptoCard

/-- THE SECOND FORM's CARD OF 'tsblocklaw16.LayoutParses'. -/
def layoutParsesUptoCard : Claim7 := { stood := { row := layoutParsesUptoRow, standIns := [], harness := (true, "005c9968711651b18d82882d6c35738aeb766a8ccb150a8cc9f4f504114e13bb"), looks := false }, kinds := [], alts := [], laidByText := true, laidKinds := [.data], laidTests := true, laidLooks := .later }
def LayoutParsesUptoCardSaid : Prop := Claim7.holds Tryd.pinned (.plain (OpenSpec.upto layoutParsesSpec)) layoutParsesUptoCard

/-- THE SECOND FORM's CARD OF 'tsblocklaw16.LayoutIsCanonical'. -/
def layoutIsCanonicalUptoCard : Claim7 := { stood := { row := layoutIsCanonicalUptoRow, standIns := [], harness := (true, "005c9968711651b18d82882d6c35738aeb766a8ccb150a8cc9f4f504114e13bb"), looks := false }, kinds := [], alts := [], laidByText := true, laidKinds := [.data], laidTests := true, laidLooks := .later }
def LayoutIsCanonicalUptoCardSaid : Prop := Claim7.holds Tryd.pinned (.plain (OpenSpec.upto layoutIsCanonicalSpec)) layoutIsCanonicalUptoCard

/-- THE SECOND FORM's CARD OF 'tsblocklaw16.LayoutFindsBursts'. -/
def layoutFindsBurstsUptoCard : Claim7 := { stood := { row := layoutFindsBurstsUptoRow, standIns := [], harness := (true, "005c9968711651b18d82882d6c35738aeb766a8ccb150a8cc9f4f504114e13bb"), looks := false }, kinds := [], alts := [], laidByText := true, laidKinds := [.data], laidTests := true, laidLooks := .later }
def LayoutFindsBurstsUptoCardSaid : Prop := Claim7.holds Tryd.pinned (.plain (OpenSpec.upto layoutFindsBurstsSpec)) layoutFindsBurstsUptoCard

/-- THE SECOND FORM's CARD OF 'tsblocklaw16.LayoutRoundTrip'. -/
def layoutRoundTripUptoCard : Claim7 := { stood := { row := layoutRoundTripUptoRow, standIns := [], harness := (true, "005c9968711651b18d82882d6c35738aeb766a8ccb150a8cc9f4f504114e13bb"), looks := false }, kinds := [], alts := [], laidByText := true, laidKinds := [.data], laidTests := true, laidLooks := .later }
def LayoutRoundTripUptoCardSaid : Prop := Claim7.holds Tryd.pinned (.plain (OpenSpec.upto layoutRoundTripSpec)) layoutRoundTripUptoCard

/-- THE SECOND FORM's CARD OF 'tsblocklaw16.LayoutPrefixes'. -/
def layoutPrefixesUptoCard : Claim7 := { stood := { row := layoutPrefixesUptoRow, standIns := [], harness := (true, "005c9968711651b18d82882d6c35738aeb766a8ccb150a8cc9f4f504114e13bb"), looks := false }, kinds := [], alts := [], laidByText := true, laidKinds := [.data], laidTests := true, laidLooks := .later }
def LayoutPrefixesUptoCardSaid : Prop := Claim7.holds Tryd.pinned (.plain (OpenSpec.upto layoutPrefixesSpec)) layoutPrefixesUptoCard
end Rows
end Go.Proofs.YtknfkbgnfjfpeaaDoor
