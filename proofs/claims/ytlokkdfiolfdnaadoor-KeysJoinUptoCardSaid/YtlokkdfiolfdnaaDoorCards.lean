/-
  DERIVED. GIVEN WITH THE SEED: THE CARDS: each row of YtlokkdfiolfdnaaDoorRows.lean that lists a variable, with what it lists TIED to the program's text (the seventh form; the later family's looks); each row that meets fmt, with fmt's text TOLD by the authors' own Lean function (tested against real Go, not proved from fmt's source: count such statements apart). THE CARD IS WHAT COUNTS. Prove the row's statement (the work); the ties are given (YtlokkdfiolfdnaaDoorTie.lean); close each card by the builder's one call (the guide's Derived/Test/ToyasCard.lean, 'card_holds'). Laid BY PROGRAM, IN A SANDBOX (cutbox-door.mjs). By AI agents, Wed Nov 11 2026. No macro, syntax, notation, axiom, sorry.
-/
import Derived.Test.YtlokkdfiolfdnaaDoorRows
import GoSem.ClaimSeven
namespace Go.Proofs.YtlokkdfiolfdnaaDoor
namespace Rows

/-- THE TIED CARD OF 'headlandlaw2.KeysRight'. -/
def keysRightCard : Claim7 := { stood := { row := keysRightRow, standIns := [], harness := (true, "795040d033ce430930298f74c2e774b321153ea36ef04f00d34a037630d7304c"), looks := true }, kinds := [], alts := [], laidByText := true, laidKinds := [.data, .pinned], laidTests := true, laidLooks := .later }
def KeysRightCardSaid : Prop := Claim7.holds Tryd.pinned (.plain (OpenSpec.ofChange keysRightSpec)) keysRightCard

/-- THE TIED CARD OF 'headlandlaw2.KeysBytes'. -/
def keysBytesCard : Claim7 := { stood := { row := keysBytesRow, standIns := [], harness := (true, "795040d033ce430930298f74c2e774b321153ea36ef04f00d34a037630d7304c"), looks := true }, kinds := [], alts := [], laidByText := true, laidKinds := [.data, .pinned], laidTests := true, laidLooks := .later }
def KeysBytesCardSaid : Prop := Claim7.holds Tryd.pinned (.plain (OpenSpec.ofChange keysBytesSpec)) keysBytesCard

/-- THE TIED CARD OF 'headlandlaw2.KeysOrder'. -/
def keysOrderCard : Claim7 := { stood := { row := keysOrderRow, standIns := [], harness := (true, "795040d033ce430930298f74c2e774b321153ea36ef04f00d34a037630d7304c"), looks := true }, kinds := [], alts := [], laidByText := true, laidKinds := [.data, .pinned], laidTests := true, laidLooks := .later }
def KeysOrderCardSaid : Prop := Claim7.holds Tryd.pinned (.plain (OpenSpec.ofChange keysOrderSpec)) keysOrderCard

/-- THE TIED CARD OF 'headlandlaw2.KeysForth'. -/
def keysForthCard : Claim7 := { stood := { row := keysForthRow, standIns := [], harness := (true, "795040d033ce430930298f74c2e774b321153ea36ef04f00d34a037630d7304c"), looks := true }, kinds := [], alts := [], laidByText := true, laidKinds := [.data, .pinned], laidTests := true, laidLooks := .later }
def KeysForthCardSaid : Prop := Claim7.holds Tryd.pinned (.plain (OpenSpec.ofChange keysForthSpec)) keysForthCard

/-- THE TIED CARD OF 'headlandlaw2.KeysFold'. -/
def keysFoldCard : Claim7 := { stood := { row := keysFoldRow, standIns := [], harness := (true, "795040d033ce430930298f74c2e774b321153ea36ef04f00d34a037630d7304c"), looks := true }, kinds := [], alts := [], laidByText := true, laidKinds := [.data, .pinned], laidTests := true, laidLooks := .later }
def KeysFoldCardSaid : Prop := Claim7.holds Tryd.pinned (.plain (OpenSpec.ofChange keysFoldSpec)) keysFoldCard

/-- THE TIED CARD OF 'headlandlaw2.KeysJoin'. -/
def keysJoinCard : Claim7 := { stood := { row := keysJoinRow, standIns := [], harness := (true, "795040d033ce430930298f74c2e774b321153ea36ef04f00d34a037630d7304c"), looks := true }, kinds := [], alts := [], laidByText := true, laidKinds := [.data, .pinned], laidTests := true, laidLooks := .later }
def KeysJoinCardSaid : Prop := Claim7.holds Tryd.pinned (.plain (OpenSpec.ofChange keysJoinSpec)) keysJoinCard

/-- THE TIED CARD OF 'headlandlaw2.KeysTexts'. -/
def keysTextsCard : Claim7 := { stood := { row := keysTextsRow, standIns := [], harness := (true, "795040d033ce430930298f74c2e774b321153ea36ef04f00d34a037630d7304c"), looks := true }, kinds := [], alts := [], laidByText := true, laidKinds := [.data, .pinned], laidTests := true, laidLooks := .later }
def KeysTextsCardSaid : Prop := Claim7.holds Tryd.pinned (.plain (OpenSpec.ofChange keysTextsSpec)) keysTextsCard

/-- THE SECOND FORM's CARD OF 'headlandlaw2.KeysRight'. -/
def keysRightUptoCard : Claim7 := { stood := { row := keysRightUptoRow, standIns := [], harness := (true, "795040d033ce430930298f74c2e774b321153ea36ef04f00d34a037630d7304c"), looks := true }, kinds := [], alts := [], laidByText := true, laidKinds := [.data, .pinned], laidTests := true, laidLooks := .later }
def KeysRightUptoCardSaid : Prop := Claim7.holds Tryd.pinned (.plain (OpenSpec.upto keysRightSpec)) keysRightUptoCard

/-- THE SECOND FORM's CARD OF 'headlandlaw2.KeysBytes'. -/
def keysBytesUptoCard : Claim7 := { stood := { row := keysBytesUptoRow, standIns := [], harness := (true, "795040d033ce430930298f74c2e774b321153ea36ef04f00d34a037630d7304c"), looks := true }, kinds := [], alts := [], laidByText := true, laidKinds := [.data, .pinned], laidTests := true, laidLooks := .later }
def KeysBytesUptoCardSaid : Prop := Claim7.holds Tryd.pinned (.plain (OpenSpec.upto keysBytesSpec)) keysBytesUptoCard

/-- THE SECOND FORM's CARD OF 'headlandlaw2.KeysOrder'. -/
def keysOrderUptoCard : Claim7 := { stood := { row := keysOrderUptoRow, standIns := [], harness := (true, "795040d033ce430930298f74c2e774b321153ea36ef04f00d34a037630d7304c"), looks := true }, kinds := [], alts := [], laidByText := true, laidKinds := [.data, .pinned], laidTests := true, laidLooks := .later }
def KeysOrderUptoCardSaid : Prop := Claim7.holds Tryd.pinned (.plain (OpenSpec.upto keysOrderSpec)) keysOrderUptoCard

/-- THE SECOND FORM's CARD OF 'headlandlaw2.KeysForth'. -/
def keysForthUptoCard : Claim7 := { stood := { row := keysForthUptoRow, standIns := [], harness := (true, "795040d033ce430930298f74c2e774b321153ea36ef04f00d34a037630d7304c"), looks := true }, kinds := [], alts := [], laidByText := true, laidKinds := [.data, .pinned], laidTests := true, laidLooks := .later }
def KeysForthUptoCardSaid : Prop := Claim7.holds Tryd.pinned (.plain (OpenSpec.upto keysForthSpec)) keysForthUptoCard

/-- THE SECOND FORM's CARD OF 'headlandlaw2.KeysFold'. -/
def keysFoldUptoCard : Claim7 := { stood := { row := keysFoldUptoRow, standIns := [], harness := (true, "795040d033ce430930298f74c2e774b321153ea36ef04f00d34a037630d7304c"), looks := true }, kinds := [], alts := [], laidByText := true, laidKinds := [.data, .pinned], laidTests := true, laidLooks := .later }
def KeysFoldUptoCardSaid : Prop := Claim7.holds Tryd.pinned (.plain (OpenSpec.upto keysFoldSpec)) keysFoldUptoCard

/-- THE SECOND FORM's CARD OF 'headlandlaw2.KeysJoin'. -/
def keysJoinUptoCard : Claim7 := { stood := { row := keysJoinUptoRow, standIns := [], harness := (true, "795040d033ce430930298f74c2e774b321153ea36ef04f00d34a037630d7304c"), looks := true }, kinds := [], alts := [], laidByText := true, laidKinds := [.data, .pinned], laidTests := true, laidLooks := .later }
def KeysJoinUptoCardSaid : Prop := Claim7.holds Tryd.pinned (.plain (OpenSpec.upto keysJoinSpec)) keysJoinUptoCard

/-- THE SECOND FORM's CARD OF 'headlandlaw2.KeysTexts'. -/
def keysTextsUptoCard : Claim7 := { stood := { row := keysTextsUptoRow, standIns := [], harness := (true, "795040d033ce430930298f74c2e774b321153ea36ef04f00d34a037630d7304c"), looks := true }, kinds := [], alts := [], laidByText := true, laidKinds := [.data, .pinned], laidTests := true, laidLooks := .later }
def KeysTextsUptoCardSaid : Prop := Claim7.holds Tryd.pinned (.plain (OpenSpec.upto keysTextsSpec)) keysTextsUptoCard
end Rows
end Go.Proofs.YtlokkdfiolfdnaaDoor
