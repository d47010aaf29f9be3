/-
  DERIVED. GIVEN WITH THE SEED: THE CARDS: each row of YtdojooblfemmnaaDoorRows.lean that lists a variable, with what it lists TIED to the program's text (the seventh form; the later family's looks); each row that meets fmt, with fmt's text TOLD by the authors' own Lean function (tested against real Go, not proved from fmt's source: count such statements apart). THE CARD IS WHAT COUNTS. Prove the row's statement (the work); the ties are given (YtdojooblfemmnaaDoorTie.lean); close each card by the builder's one call (the guide's Derived/Test/ToyasCard.lean, 'card_holds'). Laid BY PROGRAM, IN A SANDBOX (cutbox-door.mjs). By AI agents, Wed Nov 11 2026. No macro, syntax, notation, axiom, sorry.
-/
import Derived.Test.YtdojooblfemmnaaDoorRows
import GoSem.ClaimSeven
namespace Go.Proofs.YtdojooblfemmnaaDoor
namespace Rows

/-- THE TIED CARD OF 'headlandlaw18.SessionPlays'. -/
def sessionPlaysCard : Claim7 := { stood := { row := sessionPlaysRow, standIns := [], harness := (true, "d8222f6ea76e41e05556eb481d49a5130e93c318ff482cee1bc2d6059ee1a1ea"), looks := true }, kinds := [], alts := [], laidByText := true, laidKinds := [.data, .pinned], laidTests := true, laidLooks := .later }
def SessionPlaysCardSaid : Prop := Claim7.holds Tryd.pinned (.plain (OpenSpec.ofChange sessionPlaysSpec)) sessionPlaysCard

/-- THE TIED CARD OF 'headlandlaw18.SessionApart'. -/
def sessionApartCard : Claim7 := { stood := { row := sessionApartRow, standIns := [], harness := (true, "d8222f6ea76e41e05556eb481d49a5130e93c318ff482cee1bc2d6059ee1a1ea"), looks := true }, kinds := [], alts := [], laidByText := true, laidKinds := [.data, .pinned], laidTests := true, laidLooks := .later }
def SessionApartCardSaid : Prop := Claim7.holds Tryd.pinned (.plain (OpenSpec.ofChange sessionApartSpec)) sessionApartCard

/-- THE SECOND FORM's CARD OF 'headlandlaw18.SessionPlays'. -/
def sessionPlaysUptoCard : Claim7 := { stood := { row := sessionPlaysUptoRow, standIns := [], harness := (true, "d8222f6ea76e41e05556eb481d49a5130e93c318ff482cee1bc2d6059ee1a1ea"), looks := true }, kinds := [], alts := [], laidByText := true, laidKinds := [.data, .pinned], laidTests := true, laidLooks := .later }
def SessionPlaysUptoCardSaid : Prop := Claim7.holds Tryd.pinned (.plain (OpenSpec.upto sessionPlaysSpec)) sessionPlaysUptoCard

/-- THE SECOND FORM's CARD OF 'headlandlaw18.SessionApart'. -/
def sessionApartUptoCard : Claim7 := { stood := { row := sessionApartUptoRow, standIns := [], harness := (true, "d8222f6ea76e41e05556eb481d49a5130e93c318ff482cee1bc2d6059ee1a1ea"), looks := true }, kinds := [], alts := [], laidByText := true, laidKinds := [.data, .pinned], laidTests := true, laidLooks := .later }
def SessionApartUptoCardSaid : Prop := Claim7.holds Tryd.pinned (.plain (OpenSpec.upto sessionApartSpec)) sessionApartUptoCard
end Rows
end Go.Proofs.YtdojooblfemmnaaDoor
