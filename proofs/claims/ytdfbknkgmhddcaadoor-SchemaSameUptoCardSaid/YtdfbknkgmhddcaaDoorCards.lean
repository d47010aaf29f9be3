/-
  DERIVED. GIVEN WITH THE SEED: THE CARDS: each row of YtdfbknkgmhddcaaDoorRows.lean that lists a variable, with what it lists TIED to the program's text (the seventh form; the later family's looks); each row that meets fmt, with fmt's text TOLD by the authors' own Lean function (tested against real Go, not proved from fmt's source: count such statements apart). THE CARD IS WHAT COUNTS. Prove the row's statement (the work); the ties are given (YtdfbknkgmhddcaaDoorTie.lean); close each card by the builder's one call (the guide's Derived/Test/ToyasCard.lean, 'card_holds'). Laid BY PROGRAM, IN A SANDBOX (cutbox-door.mjs). By AI agents, Wed Nov 11 2026. No macro, syntax, notation, axiom, sorry.
-/
import Derived.Test.YtdfbknkgmhddcaaDoorRows
import GoSem.ClaimSeven
namespace Go.Proofs.YtdfbknkgmhddcaaDoor
namespace Rows

/-- THE TIED CARD OF 'headlandlaw14.SchemaTells'. -/
def schemaTellsCard : Claim7 := { stood := { row := schemaTellsRow, standIns := [], harness := (true, "cf623674d334b9f2ec88823bd3e461462cb72fedcfbee7f090c21078c5ddbd74"), looks := true }, kinds := [], alts := [], laidByText := true, laidKinds := [.data, .pinned], laidTests := true, laidLooks := .later }
def SchemaTellsCardSaid : Prop := Claim7.holds Tryd.pinned (.plain (OpenSpec.ofChange schemaTellsSpec)) schemaTellsCard

/-- THE TIED CARD OF 'headlandlaw14.SchemaSame'. -/
def schemaSameCard : Claim7 := { stood := { row := schemaSameRow, standIns := [], harness := (true, "cf623674d334b9f2ec88823bd3e461462cb72fedcfbee7f090c21078c5ddbd74"), looks := true }, kinds := [], alts := [], laidByText := true, laidKinds := [.data, .pinned], laidTests := true, laidLooks := .later }
def SchemaSameCardSaid : Prop := Claim7.holds Tryd.pinned (.plain (OpenSpec.ofChange schemaSameSpec)) schemaSameCard

/-- THE TIED CARD OF 'headlandlaw14.SchemaBytes'. -/
def schemaBytesCard : Claim7 := { stood := { row := schemaBytesRow, standIns := [], harness := (true, "cf623674d334b9f2ec88823bd3e461462cb72fedcfbee7f090c21078c5ddbd74"), looks := true }, kinds := [], alts := [], laidByText := true, laidKinds := [.data, .pinned], laidTests := true, laidLooks := .later }
def SchemaBytesCardSaid : Prop := Claim7.holds Tryd.pinned (.plain (OpenSpec.ofChange schemaBytesSpec)) schemaBytesCard

/-- THE SECOND FORM's CARD OF 'headlandlaw14.SchemaTells'. -/
def schemaTellsUptoCard : Claim7 := { stood := { row := schemaTellsUptoRow, standIns := [], harness := (true, "cf623674d334b9f2ec88823bd3e461462cb72fedcfbee7f090c21078c5ddbd74"), looks := true }, kinds := [], alts := [], laidByText := true, laidKinds := [.data, .pinned], laidTests := true, laidLooks := .later }
def SchemaTellsUptoCardSaid : Prop := Claim7.holds Tryd.pinned (.plain (OpenSpec.upto schemaTellsSpec)) schemaTellsUptoCard

/-- THE SECOND FORM's CARD OF 'headlandlaw14.SchemaSame'. -/
def schemaSameUptoCard : Claim7 := { stood := { row := schemaSameUptoRow, standIns := [], harness := (true, "cf623674d334b9f2ec88823bd3e461462cb72fedcfbee7f090c21078c5ddbd74"), looks := true }, kinds := [], alts := [], laidByText := true, laidKinds := [.data, .pinned], laidTests := true, laidLooks := .later }
def SchemaSameUptoCardSaid : Prop := Claim7.holds Tryd.pinned (.plain (OpenSpec.upto schemaSameSpec)) schemaSameUptoCard

/-- THE SECOND FORM's CARD OF 'headlandlaw14.SchemaBytes'. -/
def schemaBytesUptoCard : Claim7 := { stood := { row := schemaBytesUptoRow, standIns := [], harness := (true, "cf623674d334b9f2ec88823bd3e461462cb72fedcfbee7f090c21078c5ddbd74"), looks := true }, kinds := [], alts := [], laidByText := true, laidKinds := [.data, .pinned], laidTests := true, laidLooks := .later }
def SchemaBytesUptoCardSaid : Prop := Claim7.holds Tryd.pinned (.plain (OpenSpec.upto schemaBytesSpec)) schemaBytesUptoCard
end Rows
end Go.Proofs.YtdfbknkgmhddcaaDoor
