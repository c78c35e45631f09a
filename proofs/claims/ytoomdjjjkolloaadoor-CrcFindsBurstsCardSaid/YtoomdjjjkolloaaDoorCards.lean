/-
  DERIVED. GIVEN WITH THE SEED: THE CARDS: each row of YtoomdjjjkolloaaDoorRows.lean that lists a variable, with what it lists TIED to the program's text (the seventh form; the later family's looks); each row that meets fmt, with fmt's text TOLD by the authors' own Lean function (tested against real Go, not proved from fmt's source: count such statements apart). THE CARD IS WHAT COUNTS. Prove the row's statement (the work); the ties are given (YtoomdjjjkolloaaDoorTie.lean); close each card by the builder's one call (the guide's Derived/Test/ToyasCard.lean, 'card_holds'). Laid BY PROGRAM, IN A SANDBOX (cutbox-door.mjs). By AI agents, Wed Nov 11 2026. No macro, syntax, notation, axiom, sorry.
-/
import Derived.Test.YtoomdjjjkolloaaDoorRows
import GoSem.ClaimSeven
namespace Go.Proofs.YtoomdjjjkolloaaDoor
namespace Rows

/-- THE TIED CARD OF 'tsblocklaw03.CrcConcatenates'. -/
def crcConcatenatesCard : Claim7 := { stood := { row := crcConcatenatesRow, standIns := [], harness := (true, "6c5c9fb04f16cf6444fdbc633a1fd916dca7f5e43a9736e87021bfad08899124"), looks := false }, kinds := [], alts := [], laidByText := true, laidKinds := [.data], laidTests := true, laidLooks := .later }
def CrcConcatenatesCardSaid : Prop := Claim7.holds Tryd.pinned (.plain (OpenSpec.ofChange crcConcatenatesSpec)) crcConcatenatesCard

/-- THE TIED CARD OF 'tsblocklaw03.CrcCombines'. -/
def crcCombinesCard : Claim7 := { stood := { row := crcCombinesRow, standIns := [], harness := (true, "6c5c9fb04f16cf6444fdbc633a1fd916dca7f5e43a9736e87021bfad08899124"), looks := false }, kinds := [], alts := [], laidByText := true, laidKinds := [.data], laidTests := true, laidLooks := .later }
def CrcCombinesCardSaid : Prop := Claim7.holds Tryd.pinned (.plain (OpenSpec.ofChange crcCombinesSpec)) crcCombinesCard

/-- THE TIED CARD OF 'tsblocklaw03.CrcCombinesLong'. -/
def crcCombinesLongCard : Claim7 := { stood := { row := crcCombinesLongRow, standIns := [], harness := (true, "6c5c9fb04f16cf6444fdbc633a1fd916dca7f5e43a9736e87021bfad08899124"), looks := false }, kinds := [], alts := [], laidByText := true, laidKinds := [.data], laidTests := true, laidLooks := .later }
def CrcCombinesLongCardSaid : Prop := Claim7.holds Tryd.pinned (.plain (OpenSpec.ofChange crcCombinesLongSpec)) crcCombinesLongCard

/-- THE TIED CARD OF 'tsblocklaw03.CrcRoundTrip'. -/
def crcRoundTripCard : Claim7 := { stood := { row := crcRoundTripRow, standIns := [], harness := (true, "6c5c9fb04f16cf6444fdbc633a1fd916dca7f5e43a9736e87021bfad08899124"), looks := false }, kinds := [], alts := [], laidByText := true, laidKinds := [.data], laidTests := true, laidLooks := .later }
def CrcRoundTripCardSaid : Prop := Claim7.holds Tryd.pinned (.plain (OpenSpec.ofChange crcRoundTripSpec)) crcRoundTripCard

/-- THE TIED CARD OF 'tsblocklaw03.CrcMatchesReference'. -/
def crcMatchesReferenceCard : Claim7 := { stood := { row := crcMatchesReferenceRow, standIns := [], harness := (true, "6c5c9fb04f16cf6444fdbc633a1fd916dca7f5e43a9736e87021bfad08899124"), looks := false }, kinds := [], alts := [], laidByText := true, laidKinds := [.data], laidTests := true, laidLooks := .later }
def CrcMatchesReferenceCardSaid : Prop := Claim7.holds Tryd.pinned (.plain (OpenSpec.ofChange crcMatchesReferenceSpec)) crcMatchesReferenceCard

/-- THE TIED CARD OF 'tsblocklaw03.CrcFindsBursts'. -/
def crcFindsBurstsCard : Claim7 := { stood := { row := crcFindsBurstsRow, standIns := [], harness := (true, "6c5c9fb04f16cf6444fdbc633a1fd916dca7f5e43a9736e87021bfad08899124"), looks := false }, kinds := [], alts := [], laidByText := true, laidKinds := [.data], laidTests := true, laidLooks := .later }
def CrcFindsBurstsCardSaid : Prop := Claim7.holds Tryd.pinned (.plain (OpenSpec.ofChange crcFindsBurstsSpec)) crcFindsBurstsCard

/-- THE SECOND FORM's CARD OF 'tsblocklaw03.CrcConcatenates'. -/
def crcConcatenatesUptoCard : Claim7 := { stood := { row := crcConcatenatesUptoRow, standIns := [], harness := (true, "6c5c9fb04f16cf6444fdbc633a1fd916dca7f5e43a9736e87021bfad08899124"), looks := false }, kinds := [], alts := [], laidByText := true, laidKinds := [.data], laidTests := true, laidLooks := .later }
def CrcConcatenatesUptoCardSaid : Prop := Claim7.holds Tryd.pinned (.plain (OpenSpec.upto crcConcatenatesSpec)) crcConcatenatesUptoCard

/-- THE SECOND FORM's CARD OF 'tsblocklaw03.CrcCombines'. -/
def crcCombinesUptoCard : Claim7 := { stood := { row := crcCombinesUptoRow, standIns := [], harness := (true, "6c5c9fb04f16cf6444fdbc633a1fd916dca7f5e43a9736e87021bfad08899124"), looks := false }, kinds := [], alts := [], laidByText := true, laidKinds := [.data], laidTests := true, laidLooks := .later }
def CrcCombinesUptoCardSaid : Prop := Claim7.holds Tryd.pinned (.plain (OpenSpec.upto crcCombinesSpec)) crcCombinesUptoCard

/-- THE SECOND FORM's CARD OF 'tsblocklaw03.CrcCombinesLong'. -/
def crcCombinesLongUptoCard : Claim7 := { stood := { row := crcCombinesLongUptoRow, standIns := [], harness := (true, "6c5c9fb04f16cf6444fdbc633a1fd916dca7f5e43a9736e87021bfad08899124"), looks := false }, kinds := [], alts := [], laidByText := true, laidKinds := [.data], laidTests := true, laidLooks := .later }
def CrcCombinesLongUptoCardSaid : Prop := Claim7.holds Tryd.pinned (.plain (OpenSpec.upto crcCombinesLongSpec)) crcCombinesLongUptoCard

/-- THE SECOND FORM's CARD OF 'tsblocklaw03.CrcRoundTrip'. -/
def crcRoundTripUptoCard : Claim7 := { stood := { row := crcRoundTripUptoRow, standIns := [], harness := (true, "6c5c9fb04f16cf6444fdbc633a1fd916dca7f5e43a9736e87021bfad08899124"), looks := false }, kinds := [], alts := [], laidByText := true, laidKinds := [.data], laidTests := true, laidLooks := .later }
def CrcRoundTripUptoCardSaid : Prop := Claim7.holds Tryd.pinned (.plain (OpenSpec.upto crcRoundTripSpec)) crcRoundTripUptoCard

/-- THE SECOND FORM's CARD OF 'tsblocklaw03.CrcMatchesReference'. -/
def crcMatchesReferenceUptoCard : Claim7 := { stood := { row := crcMatchesReferenceUptoRow, standIns := [], harness := (true, "6c5c9fb04f16cf6444fdbc633a1fd916dca7f5e43a9736e87021bfad08899124"), looks := false }, kinds := [], alts := [], laidByText := true, laidKinds := [.data], laidTests := true, laidLooks := .later }
def CrcMatchesReferenceUptoCardSaid : Prop := Claim7.holds Tryd.pinned (.plain (OpenSpec.upto crcMatchesReferenceSpec)) crcMatchesReferenceUptoCard

/-- THE SECOND FORM's CARD OF 'tsblocklaw03.CrcFindsBursts'. -/
def crcFindsBurstsUptoCard : Claim7 := { stood := { row := crcFindsBurstsUptoRow, standIns := [], harness := (true, "6c5c9fb04f16cf6444fdbc633a1fd916dca7f5e43a9736e87021bfad08899124"), looks := false }, kinds := [], alts := [], laidByText := true, laidKinds := [.data], laidTests := true, laidLooks := .later }
def CrcFindsBurstsUptoCardSaid : Prop := Claim7.holds Tryd.pinned (.plain (OpenSpec.upto crcFindsBurstsSpec)) crcFindsBurstsUptoCard
end Rows
end Go.Proofs.YtoomdjjjkolloaaDoor
