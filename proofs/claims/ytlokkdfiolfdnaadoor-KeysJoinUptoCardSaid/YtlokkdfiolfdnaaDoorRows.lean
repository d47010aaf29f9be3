/-
  NARROWER THAN 'FOR EVERY INPUT', by the rows' own cells (each row's printed sentence says how): KeysRight: laid · KeysBytes: laid · KeysOrder: laid · KeysForth: laid · KeysFold: laid · KeysJoin: laid · KeysTexts: laid.
  DERIVED. THE GIVEN ROWS OF THIS SEAT. 7 by the template 'for every input the law returns true; each argument reads behind the call as it read before'; 0 by the template 'total and deterministic' (their statements: YtlokkdfiolfdnaaDoorTotals.lean).
  GIVEN WITH THE SEED: the statements are not yours to turn. If you find one false, say at which input.
  Laid BY PROGRAM, IN A SANDBOX (cutbox-rows.mjs): the forced cells as the released guide's own fill.sh prints them over the translation 49db2796f649d075… (all of the seat's roots in one cut). By AI agents, Wed Nov 11 2026. No macro, syntax, notation, axiom, sorry.
-/
import Derived.Test.YtlokkdfiolfdnaaDoorChecked
import GoSem.PinnedTables
import GoSem.Claim
import GoSem.ClaimJoined
import GoSem.ClaimMapViews
import Derived.JoinedTies
import Derived.KernelRfl
namespace Go.Proofs.YtlokkdfiolfdnaaDoor
/- THE CELL 'sum', in the pinned program and in every row, IS THE sha256 OF THE DUMP (.gsa) THAT YtlokkdfiolfdnaaDoorProg.lean LOADS. Nothing in Lean hashes anything: it is a label: what it is worth is what the hold of that sum in a sandbox is worth. -/
noncomputable def Tryd.pinned : Pinned := { name := "ytlokkdfiolfdnaadoor", sum := "49db2796f649d075abb6feb1ee3eda1fbe620827244d3da99c6c12679b18ca89", checked := Tryd.checked }
namespace Rows
def none {H : Type} : Left H := { results := [], args := [] }

/- WHAT THE LISTED PACKAGE-LEVEL VARIABLES READ AS WHEN THE CALL BEGINS. Each datum BY PROGRAM (the guide's laid-datum.mjs) off the statement by which the dump's own 'gosem.cut.vars' lays the variable. In a bare row this is a premise. The card (YtlokkdfiolfdnaaDoorCards.lean) ties it to the program's text. -/
def laid_unicode_utf8_acceptRanges {H : Type} : DataW H := .agg [.agg [.lit (.int .u8 128), .lit (.int .u8 191)], .agg [.lit (.int .u8 160), .lit (.int .u8 191)], .agg [.lit (.int .u8 128), .lit (.int .u8 159)], .agg [.lit (.int .u8 144), .lit (.int .u8 191)], .agg [.lit (.int .u8 128), .lit (.int .u8 143)], .agg [.lit (.int .u8 0), .lit (.int .u8 0)], .agg [.lit (.int .u8 0), .lit (.int .u8 0)], .agg [.lit (.int .u8 0), .lit (.int .u8 0)], .agg [.lit (.int .u8 0), .lit (.int .u8 0)], .agg [.lit (.int .u8 0), .lit (.int .u8 0)], .agg [.lit (.int .u8 0), .lit (.int .u8 0)], .agg [.lit (.int .u8 0), .lit (.int .u8 0)], .agg [.lit (.int .u8 0), .lit (.int .u8 0)], .agg [.lit (.int .u8 0), .lit (.int .u8 0)], .agg [.lit (.int .u8 0), .lit (.int .u8 0)], .agg [.lit (.int .u8 0), .lit (.int .u8 0)]]
/-- One of Go's own tables, pinned by name: the form's constant. -/
def laid_unicode_utf8_first : DataW Unit := Go.Pinned.utf8First

/-- 'headlandlaw2.KeysRight': WHATEVER THE INPUT: true; the input reads as it did. -/
def keysRightSpec : ChangeSpec := { name := "keysRight", fn := fun _ => fun
  | [d1, d2] => { results := [.lit (.bool true)], args := [d1, d2] }
  | _ => none }
def keysRightRow : OpenClaim := { program := "ytlokkdfiolfdnaadoor", sum := "49db2796f649d075abb6feb1ee3eda1fbe620827244d3da99c6c12679b18ca89", func := "headland/headlandlaw2.KeysRight", spec := "keysRight", named := ["unicode/utf8.first", "unicode/utf8.acceptRanges"], apart := false, laid := [("unicode/utf8.acceptRanges", laid_unicode_utf8_acceptRanges), ("unicode/utf8.first", laid_unicode_utf8_first)] }
def KeysRightSaid : Prop := keysRightRow.holds Tryd.pinned (OpenSpec.ofChange keysRightSpec)

/-- ITS FALSE NEIGHBOUR: 'it returns false'. Refute it at one input. -/
def keysRightWrong : ChangeSpec := { name := "keysRight", fn := fun _ => fun
  | [d1, d2] => { results := [.lit (.bool false)], args := [d1, d2] }
  | _ => none }
def KeysRightWrongFalsely : Prop := keysRightRow.holds Tryd.pinned (OpenSpec.ofChange keysRightWrong)

/-- 'headlandlaw2.KeysBytes': WHATEVER THE INPUT: true; the input reads as it did. -/
def keysBytesSpec : ChangeSpec := { name := "keysBytes", fn := fun _ => fun
  | [d1, d2] => { results := [.lit (.bool true)], args := [d1, d2] }
  | _ => none }
def keysBytesRow : OpenClaim := { program := "ytlokkdfiolfdnaadoor", sum := "49db2796f649d075abb6feb1ee3eda1fbe620827244d3da99c6c12679b18ca89", func := "headland/headlandlaw2.KeysBytes", spec := "keysBytes", named := ["unicode/utf8.first", "unicode/utf8.acceptRanges"], apart := false, laid := [("unicode/utf8.acceptRanges", laid_unicode_utf8_acceptRanges), ("unicode/utf8.first", laid_unicode_utf8_first)] }
def KeysBytesSaid : Prop := keysBytesRow.holds Tryd.pinned (OpenSpec.ofChange keysBytesSpec)

/-- ITS FALSE NEIGHBOUR: 'it returns false'. Refute it at one input. -/
def keysBytesWrong : ChangeSpec := { name := "keysBytes", fn := fun _ => fun
  | [d1, d2] => { results := [.lit (.bool false)], args := [d1, d2] }
  | _ => none }
def KeysBytesWrongFalsely : Prop := keysBytesRow.holds Tryd.pinned (OpenSpec.ofChange keysBytesWrong)

/-- 'headlandlaw2.KeysOrder': WHATEVER THE INPUT: true; the input reads as it did. -/
def keysOrderSpec : ChangeSpec := { name := "keysOrder", fn := fun _ => fun
  | [d1, d2] => { results := [.lit (.bool true)], args := [d1, d2] }
  | _ => none }
def keysOrderRow : OpenClaim := { program := "ytlokkdfiolfdnaadoor", sum := "49db2796f649d075abb6feb1ee3eda1fbe620827244d3da99c6c12679b18ca89", func := "headland/headlandlaw2.KeysOrder", spec := "keysOrder", named := ["unicode/utf8.first", "unicode/utf8.acceptRanges"], apart := false, laid := [("unicode/utf8.acceptRanges", laid_unicode_utf8_acceptRanges), ("unicode/utf8.first", laid_unicode_utf8_first)] }
def KeysOrderSaid : Prop := keysOrderRow.holds Tryd.pinned (OpenSpec.ofChange keysOrderSpec)

/-- ITS FALSE NEIGHBOUR: 'it returns false'. Refute it at one input. -/
def keysOrderWrong : ChangeSpec := { name := "keysOrder", fn := fun _ => fun
  | [d1, d2] => { results := [.lit (.bool false)], args := [d1, d2] }
  | _ => none }
def KeysOrderWrongFalsely : Prop := keysOrderRow.holds Tryd.pinned (OpenSpec.ofChange keysOrderWrong)

/-- 'headlandlaw2.KeysForth': WHATEVER THE INPUT: true; the input reads as it did. -/
def keysForthSpec : ChangeSpec := { name := "keysForth", fn := fun _ => fun
  | [d] => { results := [.lit (.bool true)], args := [d] }
  | _ => none }
def keysForthRow : OpenClaim := { program := "ytlokkdfiolfdnaadoor", sum := "49db2796f649d075abb6feb1ee3eda1fbe620827244d3da99c6c12679b18ca89", func := "headland/headlandlaw2.KeysForth", spec := "keysForth", named := ["unicode/utf8.first", "unicode/utf8.acceptRanges"], apart := false, laid := [("unicode/utf8.acceptRanges", laid_unicode_utf8_acceptRanges), ("unicode/utf8.first", laid_unicode_utf8_first)] }
def KeysForthSaid : Prop := keysForthRow.holds Tryd.pinned (OpenSpec.ofChange keysForthSpec)

/-- ITS FALSE NEIGHBOUR: 'it returns false'. Refute it at one input. -/
def keysForthWrong : ChangeSpec := { name := "keysForth", fn := fun _ => fun
  | [d] => { results := [.lit (.bool false)], args := [d] }
  | _ => none }
def KeysForthWrongFalsely : Prop := keysForthRow.holds Tryd.pinned (OpenSpec.ofChange keysForthWrong)

/-- 'headlandlaw2.KeysFold': WHATEVER THE INPUT: true; the input reads as it did. -/
def keysFoldSpec : ChangeSpec := { name := "keysFold", fn := fun _ => fun
  | [d] => { results := [.lit (.bool true)], args := [d] }
  | _ => none }
def keysFoldRow : OpenClaim := { program := "ytlokkdfiolfdnaadoor", sum := "49db2796f649d075abb6feb1ee3eda1fbe620827244d3da99c6c12679b18ca89", func := "headland/headlandlaw2.KeysFold", spec := "keysFold", named := ["unicode/utf8.first", "unicode/utf8.acceptRanges"], apart := false, laid := [("unicode/utf8.acceptRanges", laid_unicode_utf8_acceptRanges), ("unicode/utf8.first", laid_unicode_utf8_first)] }
def KeysFoldSaid : Prop := keysFoldRow.holds Tryd.pinned (OpenSpec.ofChange keysFoldSpec)

/-- ITS FALSE NEIGHBOUR: 'it returns false'. Refute it at one input. -/
def keysFoldWrong : ChangeSpec := { name := "keysFold", fn := fun _ => fun
  | [d] => { results := [.lit (.bool false)], args := [d] }
  | _ => none }
def KeysFoldWrongFalsely : Prop := keysFoldRow.holds Tryd.pinned (OpenSpec.ofChange keysFoldWrong)

/-- 'headlandlaw2.KeysJoin': WHATEVER THE INPUT: true; the input reads as it did. -/
def keysJoinSpec : ChangeSpec := { name := "keysJoin", fn := fun _ => fun
  | [d1, d2, d3] => { results := [.lit (.bool true)], args := [d1, d2, d3] }
  | _ => none }
def keysJoinRow : OpenClaim := { program := "ytlokkdfiolfdnaadoor", sum := "49db2796f649d075abb6feb1ee3eda1fbe620827244d3da99c6c12679b18ca89", func := "headland/headlandlaw2.KeysJoin", spec := "keysJoin", named := ["unicode/utf8.first", "unicode/utf8.acceptRanges"], apart := false, laid := [("unicode/utf8.acceptRanges", laid_unicode_utf8_acceptRanges), ("unicode/utf8.first", laid_unicode_utf8_first)] }
def KeysJoinSaid : Prop := keysJoinRow.holds Tryd.pinned (OpenSpec.ofChange keysJoinSpec)

/-- ITS FALSE NEIGHBOUR: 'it returns false'. Refute it at one input. -/
def keysJoinWrong : ChangeSpec := { name := "keysJoin", fn := fun _ => fun
  | [d1, d2, d3] => { results := [.lit (.bool false)], args := [d1, d2, d3] }
  | _ => none }
def KeysJoinWrongFalsely : Prop := keysJoinRow.holds Tryd.pinned (OpenSpec.ofChange keysJoinWrong)

/-- 'headlandlaw2.KeysTexts': WHATEVER THE INPUT: true; the input reads as it did. -/
def keysTextsSpec : ChangeSpec := { name := "keysTexts", fn := fun _ => fun
  | [d1, d2] => { results := [.lit (.bool true)], args := [d1, d2] }
  | _ => none }
def keysTextsRow : OpenClaim := { program := "ytlokkdfiolfdnaadoor", sum := "49db2796f649d075abb6feb1ee3eda1fbe620827244d3da99c6c12679b18ca89", func := "headland/headlandlaw2.KeysTexts", spec := "keysTexts", named := ["unicode/utf8.first", "unicode/utf8.acceptRanges"], apart := false, laid := [("unicode/utf8.acceptRanges", laid_unicode_utf8_acceptRanges), ("unicode/utf8.first", laid_unicode_utf8_first)] }
def KeysTextsSaid : Prop := keysTextsRow.holds Tryd.pinned (OpenSpec.ofChange keysTextsSpec)

/-- ITS FALSE NEIGHBOUR: 'it returns false'. Refute it at one input. -/
def keysTextsWrong : ChangeSpec := { name := "keysTexts", fn := fun _ => fun
  | [d1, d2] => { results := [.lit (.bool false)], args := [d1, d2] }
  | _ => none }
def KeysTextsWrongFalsely : Prop := keysTextsRow.holds Tryd.pinned (OpenSpec.ofChange keysTextsWrong)

/- THE SECOND FORM. 'bulk': how many values and letters a reading holds, each counted each time it is reached (what is shared counts as often as it is met; a slice's spare places count too). A statement '..UptoSaid' is the law's where the arguments, and the package variables that the reading takes, are together of bulk at most 1048576: NARROWER than '..Said'. Prove '..Said' where nothing that the law and all that it calls make is longer than what came in: it says more and counts as full. Else prove '..UptoSaid'. A law counts once. -/
mutual
def uptoBulk {H : Type} : DataW H → Nat
  | .lit (.string bytes) => bytes.length + 1
  | .lit _ => 1
  | .nil => 1
  | .ptr d => uptoBulk d + 1
  | .slice elems spare => uptoBulkAll elems + uptoBulkAll spare + 1
  | .agg parts => uptoBulkAll parts + 1
  | .iface _ d => uptoBulk d + 1
  | .map entries => uptoBulkEntries entries + 1
  | .held _ => 1
def uptoBulkAll {H : Type} : List (DataW H) → Nat
  | [] => 0
  | d :: r => uptoBulk d + uptoBulkAll r
def uptoBulkEntries {H : Type} : List (Lit × DataW H) → Nat
  | [] => 0
  | x :: r => uptoBulkEntry x + uptoBulkEntries r
def uptoBulkEntry {H : Type} : Lit × DataW H → Nat
  | (.string bytes, d) => bytes.length + uptoBulk d + 1
  | (_, d) => uptoBulk d + 1
 end
def uptoSmall : (H : Type) → List (DataW H) → Bool := fun _ ds => decide (uptoBulkAll ds ≤ 1048576)
def OpenSpec.upto (s : _root_.Go.ChangeSpec) : _root_.Go.OpenSpec := { _root_.Go.OpenSpec.ofChange s with cond := some uptoSmall }

/-- 'headlandlaw2.KeysRight', WHERE WHAT IT READS IS OF BULK AT MOST 1048576: true; the input reads as it did. -/
def keysRightUptoRow : OpenClaim := { program := "ytlokkdfiolfdnaadoor", sum := "49db2796f649d075abb6feb1ee3eda1fbe620827244d3da99c6c12679b18ca89", func := "headland/headlandlaw2.KeysRight", spec := "keysRight", named := ["unicode/utf8.first", "unicode/utf8.acceptRanges"], apart := false, laid := [("unicode/utf8.acceptRanges", laid_unicode_utf8_acceptRanges), ("unicode/utf8.first", laid_unicode_utf8_first)], narrowed := true }
def KeysRightUptoSaid : Prop := keysRightUptoRow.holds Tryd.pinned (OpenSpec.upto keysRightSpec)

/-- 'headlandlaw2.KeysBytes', WHERE WHAT IT READS IS OF BULK AT MOST 1048576: true; the input reads as it did. -/
def keysBytesUptoRow : OpenClaim := { program := "ytlokkdfiolfdnaadoor", sum := "49db2796f649d075abb6feb1ee3eda1fbe620827244d3da99c6c12679b18ca89", func := "headland/headlandlaw2.KeysBytes", spec := "keysBytes", named := ["unicode/utf8.first", "unicode/utf8.acceptRanges"], apart := false, laid := [("unicode/utf8.acceptRanges", laid_unicode_utf8_acceptRanges), ("unicode/utf8.first", laid_unicode_utf8_first)], narrowed := true }
def KeysBytesUptoSaid : Prop := keysBytesUptoRow.holds Tryd.pinned (OpenSpec.upto keysBytesSpec)

/-- 'headlandlaw2.KeysOrder', WHERE WHAT IT READS IS OF BULK AT MOST 1048576: true; the input reads as it did. -/
def keysOrderUptoRow : OpenClaim := { program := "ytlokkdfiolfdnaadoor", sum := "49db2796f649d075abb6feb1ee3eda1fbe620827244d3da99c6c12679b18ca89", func := "headland/headlandlaw2.KeysOrder", spec := "keysOrder", named := ["unicode/utf8.first", "unicode/utf8.acceptRanges"], apart := false, laid := [("unicode/utf8.acceptRanges", laid_unicode_utf8_acceptRanges), ("unicode/utf8.first", laid_unicode_utf8_first)], narrowed := true }
def KeysOrderUptoSaid : Prop := keysOrderUptoRow.holds Tryd.pinned (OpenSpec.upto keysOrderSpec)

/-- 'headlandlaw2.KeysForth', WHERE WHAT IT READS IS OF BULK AT MOST 1048576: true; the input reads as it did. -/
def keysForthUptoRow : OpenClaim := { program := "ytlokkdfiolfdnaadoor", sum := "49db2796f649d075abb6feb1ee3eda1fbe620827244d3da99c6c12679b18ca89", func := "headland/headlandlaw2.KeysForth", spec := "keysForth", named := ["unicode/utf8.first", "unicode/utf8.acceptRanges"], apart := false, laid := [("unicode/utf8.acceptRanges", laid_unicode_utf8_acceptRanges), ("unicode/utf8.first", laid_unicode_utf8_first)], narrowed := true }
def KeysForthUptoSaid : Prop := keysForthUptoRow.holds Tryd.pinned (OpenSpec.upto keysForthSpec)

/-- 'headlandlaw2.KeysFold', WHERE WHAT IT READS IS OF BULK AT MOST 1048576: true; the input reads as it did. -/
def keysFoldUptoRow : OpenClaim := { program := "ytlokkdfiolfdnaadoor", sum := "49db2796f649d075abb6feb1ee3eda1fbe620827244d3da99c6c12679b18ca89", func := "headland/headlandlaw2.KeysFold", spec := "keysFold", named := ["unicode/utf8.first", "unicode/utf8.acceptRanges"], apart := false, laid := [("unicode/utf8.acceptRanges", laid_unicode_utf8_acceptRanges), ("unicode/utf8.first", laid_unicode_utf8_first)], narrowed := true }
def KeysFoldUptoSaid : Prop := keysFoldUptoRow.holds Tryd.pinned (OpenSpec.upto keysFoldSpec)

/-- 'headlandlaw2.KeysJoin', WHERE WHAT IT READS IS OF BULK AT MOST 1048576: true; the input reads as it did. -/
def keysJoinUptoRow : OpenClaim := { program := "ytlokkdfiolfdnaadoor", sum := "49db2796f649d075abb6feb1ee3eda1fbe620827244d3da99c6c12679b18ca89", func := "headland/headlandlaw2.KeysJoin", spec := "keysJoin", named := ["unicode/utf8.first", "unicode/utf8.acceptRanges"], apart := false, laid := [("unicode/utf8.acceptRanges", laid_unicode_utf8_acceptRanges), ("unicode/utf8.first", laid_unicode_utf8_first)], narrowed := true }
def KeysJoinUptoSaid : Prop := keysJoinUptoRow.holds Tryd.pinned (OpenSpec.upto keysJoinSpec)

/-- 'headlandlaw2.KeysTexts', WHERE WHAT IT READS IS OF BULK AT MOST 1048576: true; the input reads as it did. -/
def keysTextsUptoRow : OpenClaim := { program := "ytlokkdfiolfdnaadoor", sum := "49db2796f649d075abb6feb1ee3eda1fbe620827244d3da99c6c12679b18ca89", func := "headland/headlandlaw2.KeysTexts", spec := "keysTexts", named := ["unicode/utf8.first", "unicode/utf8.acceptRanges"], apart := false, laid := [("unicode/utf8.acceptRanges", laid_unicode_utf8_acceptRanges), ("unicode/utf8.first", laid_unicode_utf8_first)], narrowed := true }
def KeysTextsUptoSaid : Prop := keysTextsUptoRow.holds Tryd.pinned (OpenSpec.upto keysTextsSpec)

end Rows
end Go.Proofs.YtlokkdfiolfdnaaDoor
