/-
  DERIVED. GIVEN WITH THE SEED: THE CARDS: each row of YtongopommlghgaaGreatDoorRows.lean that lists a variable, with what it lists TIED to the program's text (the seventh form; the later family's looks); each row that meets fmt, with fmt's text TOLD by the authors' own Lean function (tested against real Go, not proved from fmt's source: count such statements apart). THE CARD IS WHAT COUNTS. Prove the row's statement (the work); the ties are given (YtongopommlghgaaGreatDoorTie.lean); close each card by the builder's one call (the guide's Derived/Test/ToyasCard.lean, 'card_holds'). Laid BY PROGRAM, IN A SANDBOX (cutbox-door.mjs). By AI agents, Wed Nov 11 2026. No macro, syntax, notation, axiom, sorry.
-/
import Derived.Test.YtongopommlghgaaGreatDoorRows
import GoSem.ClaimSeven
namespace Go.Proofs.YtongopommlghgaaGreatDoor
namespace Rows

/-- THE TIED CARD OF 'tsblocktop.TopImage'. -/
def topImageCard : Claim7 := { stood := { row := topImageRow, standIns := [], harness := (true, "cce18b68ecef0868f90fcc38c1826ef8d8104255588523e34b5248328074a100"), looks := true }, kinds := [], alts := [], laidByText := true, laidKinds := [.data, .data, .data], laidTests := true, laidLooks := .later }
def TopImageCardSaid : Prop := Claim7.holds Tryz.pinned (.plain (OpenSpec.ofChange topImageSpec)) topImageCard

/-- THE TIED CARD OF 'tsblocktop.TopDamage'. -/
def topDamageCard : Claim7 := { stood := { row := topDamageRow, standIns := [], harness := (true, "cce18b68ecef0868f90fcc38c1826ef8d8104255588523e34b5248328074a100"), looks := true }, kinds := [], alts := [], laidByText := true, laidKinds := [.data, .data, .data], laidTests := true, laidLooks := .later }
def TopDamageCardSaid : Prop := Claim7.holds Tryz.pinned (.plain (OpenSpec.ofChange topDamageSpec)) topDamageCard

/-- THE TIED CARD OF 'tsblocktop.TopOwnLabels'. -/
def topOwnLabelsCard : Claim7 := { stood := { row := topOwnLabelsRow, standIns := [], harness := (true, "cce18b68ecef0868f90fcc38c1826ef8d8104255588523e34b5248328074a100"), looks := true }, kinds := [], alts := [], laidByText := true, laidKinds := [.data, .data, .data], laidTests := true, laidLooks := .later }
def TopOwnLabelsCardSaid : Prop := Claim7.holds Tryz.pinned (.plain (OpenSpec.ofChange topOwnLabelsSpec)) topOwnLabelsCard

/-- THE TIED CARD OF 'tsblocktop.TopSelect'. -/
def topSelectCard : Claim7 := { stood := { row := topSelectRow, standIns := [], harness := (true, "cce18b68ecef0868f90fcc38c1826ef8d8104255588523e34b5248328074a100"), looks := true }, kinds := [], alts := [], laidByText := true, laidKinds := [.data, .data, .data], laidTests := true, laidLooks := .later }
def TopSelectCardSaid : Prop := Claim7.holds Tryz.pinned (.plain (OpenSpec.ofChange topSelectSpec)) topSelectCard

/-- THE TIED CARD OF 'tsblocktop.TopJoins'. -/
def topJoinsCard : Claim7 := { stood := { row := topJoinsRow, standIns := [], harness := (true, "cce18b68ecef0868f90fcc38c1826ef8d8104255588523e34b5248328074a100"), looks := true }, kinds := [], alts := [], laidByText := true, laidKinds := [.data, .data, .data], laidTests := true, laidLooks := .later }
def TopJoinsCardSaid : Prop := Claim7.holds Tryz.pinned (.plain (OpenSpec.ofChange topJoinsSpec)) topJoinsCard

/-- THE SECOND FORM's CARD OF 'tsblocktop.TopImage'. -/
def topImageUptoCard : Claim7 := { stood := { row := topImageUptoRow, standIns := [], harness := (true, "cce18b68ecef0868f90fcc38c1826ef8d8104255588523e34b5248328074a100"), looks := true }, kinds := [], alts := [], laidByText := true, laidKinds := [.data, .data, .data], laidTests := true, laidLooks := .later }
def TopImageUptoCardSaid : Prop := Claim7.holds Tryz.pinned (.plain (OpenSpec.upto topImageSpec)) topImageUptoCard

/-- THE SECOND FORM's CARD OF 'tsblocktop.TopDamage'. -/
def topDamageUptoCard : Claim7 := { stood := { row := topDamageUptoRow, standIns := [], harness := (true, "cce18b68ecef0868f90fcc38c1826ef8d8104255588523e34b5248328074a100"), looks := true }, kinds := [], alts := [], laidByText := true, laidKinds := [.data, .data, .data], laidTests := true, laidLooks := .later }
def TopDamageUptoCardSaid : Prop := Claim7.holds Tryz.pinned (.plain (OpenSpec.upto topDamageSpec)) topDamageUptoCard

/-- THE SECOND FORM's CARD OF 'tsblocktop.TopOwnLabels'. -/
def topOwnLabelsUptoCard : Claim7 := { stood := { row := topOwnLabelsUptoRow, standIns := [], harness := (true, "cce18b68ecef0868f90fcc38c1826ef8d8104255588523e34b5248328074a100"), looks := true }, kinds := [], alts := [], laidByText := true, laidKinds := [.data, .data, .data], laidTests := true, laidLooks := .later }
def TopOwnLabelsUptoCardSaid : Prop := Claim7.holds Tryz.pinned (.plain (OpenSpec.upto topOwnLabelsSpec)) topOwnLabelsUptoCard

/-- THE SECOND FORM's CARD OF 'tsblocktop.TopSelect'. -/
def topSelectUptoCard : Claim7 := { stood := { row := topSelectUptoRow, standIns := [], harness := (true, "cce18b68ecef0868f90fcc38c1826ef8d8104255588523e34b5248328074a100"), looks := true }, kinds := [], alts := [], laidByText := true, laidKinds := [.data, .data, .data], laidTests := true, laidLooks := .later }
def TopSelectUptoCardSaid : Prop := Claim7.holds Tryz.pinned (.plain (OpenSpec.upto topSelectSpec)) topSelectUptoCard

/-- THE SECOND FORM's CARD OF 'tsblocktop.TopJoins'. -/
def topJoinsUptoCard : Claim7 := { stood := { row := topJoinsUptoRow, standIns := [], harness := (true, "cce18b68ecef0868f90fcc38c1826ef8d8104255588523e34b5248328074a100"), looks := true }, kinds := [], alts := [], laidByText := true, laidKinds := [.data, .data, .data], laidTests := true, laidLooks := .later }
def TopJoinsUptoCardSaid : Prop := Claim7.holds Tryz.pinned (.plain (OpenSpec.upto topJoinsSpec)) topJoinsUptoCard
end Rows
end Go.Proofs.YtongopommlghgaaGreatDoor
