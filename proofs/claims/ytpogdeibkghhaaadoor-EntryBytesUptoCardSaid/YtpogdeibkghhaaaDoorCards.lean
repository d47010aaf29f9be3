/-
  DERIVED. GIVEN WITH THE SEED: THE CARDS: each row of YtpogdeibkghhaaaDoorRows.lean that lists a variable, with what it lists TIED to the program's text (the seventh form; the later family's looks); each row that meets fmt, with fmt's text TOLD by the authors' own Lean function (tested against real Go, not proved from fmt's source: count such statements apart). THE CARD IS WHAT COUNTS. Prove the row's statement (the work); the ties are given (YtpogdeibkghhaaaDoorTie.lean); close each card by the builder's one call (the guide's Derived/Test/ToyasCard.lean, 'card_holds'). Laid BY PROGRAM, IN A SANDBOX (cutbox-door.mjs). By AI agents, Wed Nov 11 2026. No macro, syntax, notation, axiom, sorry.
-/
import Derived.Test.YtpogdeibkghhaaaDoorRows
import GoSem.ClaimSeven
namespace Go.Proofs.YtpogdeibkghhaaaDoor
namespace Rows

/-- THE TIED CARD OF 'headlandlaw17.EntryReplies'. -/
def entryRepliesCard : Claim7 := { stood := { row := entryRepliesRow, standIns := [], harness := (true, "b62bac3bdc415516168a796428d418da73ffab316c9ab18e45b1bb8d907e3e0b"), looks := true }, kinds := [], alts := [], laidByText := true, laidKinds := [.data, .pinned], laidTests := true, laidLooks := .later }
def EntryRepliesCardSaid : Prop := Claim7.holds Tryd.pinned (.plain (OpenSpec.ofChange entryRepliesSpec)) entryRepliesCard

/-- THE TIED CARD OF 'headlandlaw17.EntryForth'. -/
def entryForthCard : Claim7 := { stood := { row := entryForthRow, standIns := [], harness := (true, "b62bac3bdc415516168a796428d418da73ffab316c9ab18e45b1bb8d907e3e0b"), looks := true }, kinds := [], alts := [], laidByText := true, laidKinds := [.data, .pinned], laidTests := true, laidLooks := .later }
def EntryForthCardSaid : Prop := Claim7.holds Tryd.pinned (.plain (OpenSpec.ofChange entryForthSpec)) entryForthCard

/-- THE TIED CARD OF 'headlandlaw17.EntryBytes'. -/
def entryBytesCard : Claim7 := { stood := { row := entryBytesRow, standIns := [], harness := (true, "b62bac3bdc415516168a796428d418da73ffab316c9ab18e45b1bb8d907e3e0b"), looks := true }, kinds := [], alts := [], laidByText := true, laidKinds := [.data, .pinned], laidTests := true, laidLooks := .later }
def EntryBytesCardSaid : Prop := Claim7.holds Tryd.pinned (.plain (OpenSpec.ofChange entryBytesSpec)) entryBytesCard

/-- THE SECOND FORM's CARD OF 'headlandlaw17.EntryReplies'. -/
def entryRepliesUptoCard : Claim7 := { stood := { row := entryRepliesUptoRow, standIns := [], harness := (true, "b62bac3bdc415516168a796428d418da73ffab316c9ab18e45b1bb8d907e3e0b"), looks := true }, kinds := [], alts := [], laidByText := true, laidKinds := [.data, .pinned], laidTests := true, laidLooks := .later }
def EntryRepliesUptoCardSaid : Prop := Claim7.holds Tryd.pinned (.plain (OpenSpec.upto entryRepliesSpec)) entryRepliesUptoCard

/-- THE SECOND FORM's CARD OF 'headlandlaw17.EntryForth'. -/
def entryForthUptoCard : Claim7 := { stood := { row := entryForthUptoRow, standIns := [], harness := (true, "b62bac3bdc415516168a796428d418da73ffab316c9ab18e45b1bb8d907e3e0b"), looks := true }, kinds := [], alts := [], laidByText := true, laidKinds := [.data, .pinned], laidTests := true, laidLooks := .later }
def EntryForthUptoCardSaid : Prop := Claim7.holds Tryd.pinned (.plain (OpenSpec.upto entryForthSpec)) entryForthUptoCard

/-- THE SECOND FORM's CARD OF 'headlandlaw17.EntryBytes'. -/
def entryBytesUptoCard : Claim7 := { stood := { row := entryBytesUptoRow, standIns := [], harness := (true, "b62bac3bdc415516168a796428d418da73ffab316c9ab18e45b1bb8d907e3e0b"), looks := true }, kinds := [], alts := [], laidByText := true, laidKinds := [.data, .pinned], laidTests := true, laidLooks := .later }
def EntryBytesUptoCardSaid : Prop := Claim7.holds Tryd.pinned (.plain (OpenSpec.upto entryBytesSpec)) entryBytesUptoCard
end Rows
end Go.Proofs.YtpogdeibkghhaaaDoor
