/-
  No cell of these rows narrows 'for every input' (looked for: loops, veiled, ifaces, maps, wideKeys, modest, calm, conditions, laid).
  DERIVED. THE GIVEN ROWS OF THIS SEAT. 4 by the template 'for every input the law returns true; each argument reads behind the call as it read before'; 0 by the template 'total and deterministic' (their statements: YtccifnjlfhdpiaaTotals.lean).
  GIVEN WITH THE SEED: the statements are not yours to turn. If you find one false, say at which input.
  Laid BY PROGRAM, IN A SANDBOX (cutbox-rows.mjs): the forced cells as the released guide's own fill.sh prints them over the translation 56885420a4698c41… (all of the seat's roots in one cut). By AI agents, Wed Nov 11 2026. No macro, syntax, notation, axiom, sorry.
-/
import Derived.Test.YtccifnjlfhdpiaaChecked
import GoSem.Claim
import GoSem.ClaimJoined
import GoSem.ClaimMapViews
import Derived.JoinedTies
import Derived.KernelRfl
namespace Go.Proofs.Ytccifnjlfhdpiaa
/- THE CELL 'sum', in the pinned program and in every row, IS THE sha256 OF THE DUMP (.gsa) THAT YtccifnjlfhdpiaaProg.lean LOADS. Nothing in Lean hashes anything: it is a label: what it is worth is what the hold of that sum in a sandbox is worth. -/
noncomputable def Try.pinned : Pinned := { name := "ytccifnjlfhdpiaa", sum := "56885420a4698c41366e32cd8976d75c8964948754bd1da85bd1b6781c1dc961", checked := Try.checked }
namespace Rows
def none {H : Type} : Left H := { results := [], args := [] }

/-- 'headlandlaw4.PageBack': WHATEVER THE INPUT: true; the input reads as it did. -/
def pageBackSpec : ChangeSpec := { name := "pageBack", fn := fun _ => fun
  | [d1, d2, d3] => { results := [.lit (.bool true)], args := [d1, d2, d3] }
  | _ => none }
def pageBackRow : OpenClaim := { program := "ytccifnjlfhdpiaa", sum := "56885420a4698c41366e32cd8976d75c8964948754bd1da85bd1b6781c1dc961", func := "headland/headlandlaw4.PageBack", spec := "pageBack", apart := false }
def PageBackSaid : Prop := pageBackRow.holds Try.pinned (OpenSpec.ofChange pageBackSpec)

/-- ITS FALSE NEIGHBOUR: 'it returns false'. Refute it at one input. -/
def pageBackWrong : ChangeSpec := { name := "pageBack", fn := fun _ => fun
  | [d1, d2, d3] => { results := [.lit (.bool false)], args := [d1, d2, d3] }
  | _ => none }
def PageBackWrongFalsely : Prop := pageBackRow.holds Try.pinned (OpenSpec.ofChange pageBackWrong)

/-- 'headlandlaw4.PageFlips': WHATEVER THE INPUT: true; the input reads as it did. -/
def pageFlipsSpec : ChangeSpec := { name := "pageFlips", fn := fun _ => fun
  | [d1, d2, d3, d4, d5] => { results := [.lit (.bool true)], args := [d1, d2, d3, d4, d5] }
  | _ => none }
def pageFlipsRow : OpenClaim := { program := "ytccifnjlfhdpiaa", sum := "56885420a4698c41366e32cd8976d75c8964948754bd1da85bd1b6781c1dc961", func := "headland/headlandlaw4.PageFlips", spec := "pageFlips", apart := false }
def PageFlipsSaid : Prop := pageFlipsRow.holds Try.pinned (OpenSpec.ofChange pageFlipsSpec)

/-- ITS FALSE NEIGHBOUR: 'it returns false'. Refute it at one input. -/
def pageFlipsWrong : ChangeSpec := { name := "pageFlips", fn := fun _ => fun
  | [d1, d2, d3, d4, d5] => { results := [.lit (.bool false)], args := [d1, d2, d3, d4, d5] }
  | _ => none }
def PageFlipsWrongFalsely : Prop := pageFlipsRow.holds Try.pinned (OpenSpec.ofChange pageFlipsWrong)

/-- 'headlandlaw4.PageLost': WHATEVER THE INPUT: true; the input reads as it did. -/
def pageLostSpec : ChangeSpec := { name := "pageLost", fn := fun _ => fun
  | [d1, d2] => { results := [.lit (.bool true)], args := [d1, d2] }
  | _ => none }
def pageLostRow : OpenClaim := { program := "ytccifnjlfhdpiaa", sum := "56885420a4698c41366e32cd8976d75c8964948754bd1da85bd1b6781c1dc961", func := "headland/headlandlaw4.PageLost", spec := "pageLost", apart := false }
def PageLostSaid : Prop := pageLostRow.holds Try.pinned (OpenSpec.ofChange pageLostSpec)

/-- ITS FALSE NEIGHBOUR: 'it returns false'. Refute it at one input. -/
def pageLostWrong : ChangeSpec := { name := "pageLost", fn := fun _ => fun
  | [d1, d2] => { results := [.lit (.bool false)], args := [d1, d2] }
  | _ => none }
def PageLostWrongFalsely : Prop := pageLostRow.holds Try.pinned (OpenSpec.ofChange pageLostWrong)

/-- 'headlandlaw4.PageKeeps': WHATEVER THE INPUT: true; the input reads as it did. -/
def pageKeepsSpec : ChangeSpec := { name := "pageKeeps", fn := fun _ => fun
  | [d1, d2] => { results := [.lit (.bool true)], args := [d1, d2] }
  | _ => none }
def pageKeepsRow : OpenClaim := { program := "ytccifnjlfhdpiaa", sum := "56885420a4698c41366e32cd8976d75c8964948754bd1da85bd1b6781c1dc961", func := "headland/headlandlaw4.PageKeeps", spec := "pageKeeps", apart := false }
def PageKeepsSaid : Prop := pageKeepsRow.holds Try.pinned (OpenSpec.ofChange pageKeepsSpec)

/-- ITS FALSE NEIGHBOUR: 'it returns false'. Refute it at one input. -/
def pageKeepsWrong : ChangeSpec := { name := "pageKeeps", fn := fun _ => fun
  | [d1, d2] => { results := [.lit (.bool false)], args := [d1, d2] }
  | _ => none }
def PageKeepsWrongFalsely : Prop := pageKeepsRow.holds Try.pinned (OpenSpec.ofChange pageKeepsWrong)

/- THE SECOND FORM. 'bulk': how many values and letters a reading holds, each counted each time it is reached (what is shared counts as often as it is met; a slice's spare places count too). A statement '..UptoSaid' is the law's where the arguments, and the package variables that the reading takes, are together of bulk at most 1048576: NARROWER than '..Said'. Prove '..Said' where nothing that the law and all that it calls make is longer than what came in: it says more and counts as full. Else prove '..UptoSaid'. A law counts once. -/
mutual
def uptoBulk {H : Type} : DataW H → Nat
  | .lit (.string bytes) => bytes.length + 1
  | .lit _ => 1
  | .nil => 1
  | .ptr d => uptoBulk d + 1
  | .slice elems spare => uptoBulkAll elems + uptoBulkAll spare + 1
  | .agg parts => uptoBulkAll parts + 1
  | .iface _ d => uptoBulk d + 1
  | .map entries => uptoBulkEntries entries + 1
  | .held _ => 1
def uptoBulkAll {H : Type} : List (DataW H) → Nat
  | [] => 0
  | d :: r => uptoBulk d + uptoBulkAll r
def uptoBulkEntries {H : Type} : List (Lit × DataW H) → Nat
  | [] => 0
  | x :: r => uptoBulkEntry x + uptoBulkEntries r
def uptoBulkEntry {H : Type} : Lit × DataW H → Nat
  | (.string bytes, d) => bytes.length + uptoBulk d + 1
  | (_, d) => uptoBulk d + 1
 end
def uptoSmall : (H : Type) → List (DataW H) → Bool := fun _ ds => decide (uptoBulkAll ds ≤ 1048576)
def OpenSpec.upto (s : _root_.Go.ChangeSpec) : _root_.Go.OpenSpec := { _root_.Go.OpenSpec.ofChange s with cond := some uptoSmall }

/-- 'headlandlaw4.PageBack', WHERE WHAT IT READS IS OF BULK AT MOST 1048576: true; the input reads as it did. -/
def pageBackUptoRow : OpenClaim := { program := "ytccifnjlfhdpiaa", sum := "56885420a4698c41366e32cd8976d75c8964948754bd1da85bd1b6781c1dc961", func := "headland/headlandlaw4.PageBack", spec := "pageBack", apart := false, narrowed := true }
def PageBackUptoSaid : Prop := pageBackUptoRow.holds Try.pinned (OpenSpec.upto pageBackSpec)

/-- 'headlandlaw4.PageFlips', WHERE WHAT IT READS IS OF BULK AT MOST 1048576: true; the input reads as it did. -/
def pageFlipsUptoRow : OpenClaim := { program := "ytccifnjlfhdpiaa", sum := "56885420a4698c41366e32cd8976d75c8964948754bd1da85bd1b6781c1dc961", func := "headland/headlandlaw4.PageFlips", spec := "pageFlips", apart := false, narrowed := true }
def PageFlipsUptoSaid : Prop := pageFlipsUptoRow.holds Try.pinned (OpenSpec.upto pageFlipsSpec)

/-- 'headlandlaw4.PageLost', WHERE WHAT IT READS IS OF BULK AT MOST 1048576: true; the input reads as it did. -/
def pageLostUptoRow : OpenClaim := { program := "ytccifnjlfhdpiaa", sum := "56885420a4698c41366e32cd8976d75c8964948754bd1da85bd1b6781c1dc961", func := "headland/headlandlaw4.PageLost", spec := "pageLost", apart := false, narrowed := true }
def PageLostUptoSaid : Prop := pageLostUptoRow.holds Try.pinned (OpenSpec.upto pageLostSpec)

/-- 'headlandlaw4.PageKeeps', WHERE WHAT IT READS IS OF BULK AT MOST 1048576: true; the input reads as it did. -/
def pageKeepsUptoRow : OpenClaim := { program := "ytccifnjlfhdpiaa", sum := "56885420a4698c41366e32cd8976d75c8964948754bd1da85bd1b6781c1dc961", func := "headland/headlandlaw4.PageKeeps", spec := "pageKeeps", apart := false, narrowed := true }
def PageKeepsUptoSaid : Prop := pageKeepsUptoRow.holds Try.pinned (OpenSpec.upto pageKeepsSpec)

end Rows
end Go.Proofs.Ytccifnjlfhdpiaa
