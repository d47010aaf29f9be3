/-
  No cell of these rows narrows 'for every input' (looked for: loops, veiled, ifaces, maps, wideKeys, modest, calm, conditions, laid).
  DERIVED. THE GIVEN ROWS OF THIS SEAT. 5 by the template 'for every input the law returns true; each argument reads behind the call as it read before'; 0 by the template 'total and deterministic' (their statements: YthhgagkacogigaaTotals.lean).
  GIVEN WITH THE SEED: the statements are not yours to turn. If you find one false, say at which input.
  Laid BY PROGRAM, IN A SANDBOX (cutbox-rows.mjs): the forced cells as the released guide's own fill.sh prints them over the translation 34f8b4872f8b47bc… (all of the seat's roots in one cut). By AI agents, Wed Nov 11 2026. No macro, syntax, notation, axiom, sorry.
-/
import Derived.Test.YthhgagkacogigaaChecked
import GoSem.Claim
import GoSem.ClaimJoined
import GoSem.ClaimMapViews
import Derived.JoinedTies
import Derived.KernelRfl
namespace Go.Proofs.Ythhgagkacogigaa
/- THE CELL 'sum', in the pinned program and in every row, IS THE sha256 OF THE DUMP (.gsa) THAT YthhgagkacogigaaProg.lean LOADS. Nothing in Lean hashes anything: it is a label: what it is worth is what the hold of that sum in a sandbox is worth. -/
noncomputable def Try.pinned : Pinned := { name := "ythhgagkacogigaa", sum := "34f8b4872f8b47bcbfd0e339fbd1f1c0cc6b76ec94fb332795e3593b33c1be4c", checked := Try.checked }
namespace Rows
def none {H : Type} : Left H := { results := [], args := [] }

/-- 'headlandlaw1.WireSums': WHATEVER THE INPUT: true; the input reads as it did. -/
def wireSumsSpec : ChangeSpec := { name := "wireSums", fn := fun _ => fun
  | [d] => { results := [.lit (.bool true)], args := [d] }
  | _ => none }
def wireSumsRow : OpenClaim := { program := "ythhgagkacogigaa", sum := "34f8b4872f8b47bcbfd0e339fbd1f1c0cc6b76ec94fb332795e3593b33c1be4c", func := "headland/headlandlaw1.WireSums", spec := "wireSums", apart := false }
def WireSumsSaid : Prop := wireSumsRow.holds Try.pinned (OpenSpec.ofChange wireSumsSpec)

/-- ITS FALSE NEIGHBOUR: 'it returns false'. Refute it at one input. -/
def wireSumsWrong : ChangeSpec := { name := "wireSums", fn := fun _ => fun
  | [d] => { results := [.lit (.bool false)], args := [d] }
  | _ => none }
def WireSumsWrongFalsely : Prop := wireSumsRow.holds Try.pinned (OpenSpec.ofChange wireSumsWrong)

/-- 'headlandlaw1.WireBits': WHATEVER THE INPUT: true; the input reads as it did. -/
def wireBitsSpec : ChangeSpec := { name := "wireBits", fn := fun _ => fun
  | [d1, d2, d3, d4, d5] => { results := [.lit (.bool true)], args := [d1, d2, d3, d4, d5] }
  | _ => none }
def wireBitsRow : OpenClaim := { program := "ythhgagkacogigaa", sum := "34f8b4872f8b47bcbfd0e339fbd1f1c0cc6b76ec94fb332795e3593b33c1be4c", func := "headland/headlandlaw1.WireBits", spec := "wireBits", apart := false }
def WireBitsSaid : Prop := wireBitsRow.holds Try.pinned (OpenSpec.ofChange wireBitsSpec)

/-- ITS FALSE NEIGHBOUR: 'it returns false'. Refute it at one input. -/
def wireBitsWrong : ChangeSpec := { name := "wireBits", fn := fun _ => fun
  | [d1, d2, d3, d4, d5] => { results := [.lit (.bool false)], args := [d1, d2, d3, d4, d5] }
  | _ => none }
def WireBitsWrongFalsely : Prop := wireBitsRow.holds Try.pinned (OpenSpec.ofChange wireBitsWrong)

/-- 'headlandlaw1.WireForth': WHATEVER THE INPUT: true; the input reads as it did. -/
def wireForthSpec : ChangeSpec := { name := "wireForth", fn := fun _ => fun
  | [d1, d2, d3, d4] => { results := [.lit (.bool true)], args := [d1, d2, d3, d4] }
  | _ => none }
def wireForthRow : OpenClaim := { program := "ythhgagkacogigaa", sum := "34f8b4872f8b47bcbfd0e339fbd1f1c0cc6b76ec94fb332795e3593b33c1be4c", func := "headland/headlandlaw1.WireForth", spec := "wireForth", apart := false }
def WireForthSaid : Prop := wireForthRow.holds Try.pinned (OpenSpec.ofChange wireForthSpec)

/-- ITS FALSE NEIGHBOUR: 'it returns false'. Refute it at one input. -/
def wireForthWrong : ChangeSpec := { name := "wireForth", fn := fun _ => fun
  | [d1, d2, d3, d4] => { results := [.lit (.bool false)], args := [d1, d2, d3, d4] }
  | _ => none }
def WireForthWrongFalsely : Prop := wireForthRow.holds Try.pinned (OpenSpec.ofChange wireForthWrong)

/-- 'headlandlaw1.WireBack': WHATEVER THE INPUT: true; the input reads as it did. -/
def wireBackSpec : ChangeSpec := { name := "wireBack", fn := fun _ => fun
  | [d1, d2, d3, d4] => { results := [.lit (.bool true)], args := [d1, d2, d3, d4] }
  | _ => none }
def wireBackRow : OpenClaim := { program := "ythhgagkacogigaa", sum := "34f8b4872f8b47bcbfd0e339fbd1f1c0cc6b76ec94fb332795e3593b33c1be4c", func := "headland/headlandlaw1.WireBack", spec := "wireBack", apart := false }
def WireBackSaid : Prop := wireBackRow.holds Try.pinned (OpenSpec.ofChange wireBackSpec)

/-- ITS FALSE NEIGHBOUR: 'it returns false'. Refute it at one input. -/
def wireBackWrong : ChangeSpec := { name := "wireBack", fn := fun _ => fun
  | [d1, d2, d3, d4] => { results := [.lit (.bool false)], args := [d1, d2, d3, d4] }
  | _ => none }
def WireBackWrongFalsely : Prop := wireBackRow.holds Try.pinned (OpenSpec.ofChange wireBackWrong)

/-- 'headlandlaw1.WireRow': WHATEVER THE INPUT: true; the input reads as it did. -/
def wireRowSpec : ChangeSpec := { name := "wireRow", fn := fun _ => fun
  | [d1, d2, d3] => { results := [.lit (.bool true)], args := [d1, d2, d3] }
  | _ => none }
def wireRowRow : OpenClaim := { program := "ythhgagkacogigaa", sum := "34f8b4872f8b47bcbfd0e339fbd1f1c0cc6b76ec94fb332795e3593b33c1be4c", func := "headland/headlandlaw1.WireRow", spec := "wireRow", apart := false }
def WireRowSaid : Prop := wireRowRow.holds Try.pinned (OpenSpec.ofChange wireRowSpec)

/-- ITS FALSE NEIGHBOUR: 'it returns false'. Refute it at one input. -/
def wireRowWrong : ChangeSpec := { name := "wireRow", fn := fun _ => fun
  | [d1, d2, d3] => { results := [.lit (.bool false)], args := [d1, d2, d3] }
  | _ => none }
def WireRowWrongFalsely : Prop := wireRowRow.holds Try.pinned (OpenSpec.ofChange wireRowWrong)

/- THE SECOND FORM. 'bulk': how many values and letters a reading holds, each counted each time it is reached (what is shared counts as often as it is met; a slice's spare places count too). A statement '..UptoSaid' is the law's where the arguments, and the package variables that the reading takes, are together of bulk at most 1048576: NARROWER than '..Said'. Prove '..Said' where nothing that the law and all that it calls make is longer than what came in: it says more and counts as full. Else prove '..UptoSaid'. A law counts once. -/
mutual
def uptoBulk {H : Type} : DataW H → Nat
  | .lit (.string bytes) => bytes.length + 1
  | .lit _ => 1
  | .nil => 1
  | .ptr d => uptoBulk d + 1
  | .slice elems spare => uptoBulkAll elems + uptoBulkAll spare + 1
  | .agg parts => uptoBulkAll parts + 1
  | .iface _ d => uptoBulk d + 1
  | .map entries => uptoBulkEntries entries + 1
  | .held _ => 1
def uptoBulkAll {H : Type} : List (DataW H) → Nat
  | [] => 0
  | d :: r => uptoBulk d + uptoBulkAll r
def uptoBulkEntries {H : Type} : List (Lit × DataW H) → Nat
  | [] => 0
  | x :: r => uptoBulkEntry x + uptoBulkEntries r
def uptoBulkEntry {H : Type} : Lit × DataW H → Nat
  | (.string bytes, d) => bytes.length + uptoBulk d + 1
  | (_, d) => uptoBulk d + 1
 end
def uptoSmall : (H : Type) → List (DataW H) → Bool := fun _ ds => decide (uptoBulkAll ds ≤ 1048576)
def OpenSpec.upto (s : _root_.Go.ChangeSpec) : _root_.Go.OpenSpec := { _root_.Go.OpenSpec.ofChange s with cond := some uptoSmall }

/-- 'headlandlaw1.WireSums', WHERE WHAT IT READS IS OF BULK AT MOST 1048576: true; the input reads as it did. -/
def wireSumsUptoRow : OpenClaim := { program := "ythhgagkacogigaa", sum := "34f8b4872f8b47bcbfd0e339fbd1f1c0cc6b76ec94fb332795e3593b33c1be4c", func := "headland/headlandlaw1.WireSums", spec := "wireSums", apart := false, narrowed := true }
def WireSumsUptoSaid : Prop := wireSumsUptoRow.holds Try.pinned (OpenSpec.upto wireSumsSpec)

/-- 'headlandlaw1.WireBits', WHERE WHAT IT READS IS OF BULK AT MOST 1048576: true; the input reads as it did. -/
def wireBitsUptoRow : OpenClaim := { program := "ythhgagkacogigaa", sum := "34f8b4872f8b47bcbfd0e339fbd1f1c0cc6b76ec94fb332795e3593b33c1be4c", func := "headland/headlandlaw1.WireBits", spec := "wireBits", apart := false, narrowed := true }
def WireBitsUptoSaid : Prop := wireBitsUptoRow.holds Try.pinned (OpenSpec.upto wireBitsSpec)

/-- 'headlandlaw1.WireForth', WHERE WHAT IT READS IS OF BULK AT MOST 1048576: true; the input reads as it did. -/
def wireForthUptoRow : OpenClaim := { program := "ythhgagkacogigaa", sum := "34f8b4872f8b47bcbfd0e339fbd1f1c0cc6b76ec94fb332795e3593b33c1be4c", func := "headland/headlandlaw1.WireForth", spec := "wireForth", apart := false, narrowed := true }
def WireForthUptoSaid : Prop := wireForthUptoRow.holds Try.pinned (OpenSpec.upto wireForthSpec)

/-- 'headlandlaw1.WireBack', WHERE WHAT IT READS IS OF BULK AT MOST 1048576: true; the input reads as it did. -/
def wireBackUptoRow : OpenClaim := { program := "ythhgagkacogigaa", sum := "34f8b4872f8b47bcbfd0e339fbd1f1c0cc6b76ec94fb332795e3593b33c1be4c", func := "headland/headlandlaw1.WireBack", spec := "wireBack", apart := false, narrowed := true }
def WireBackUptoSaid : Prop := wireBackUptoRow.holds Try.pinned (OpenSpec.upto wireBackSpec)

/-- 'headlandlaw1.WireRow', WHERE WHAT IT READS IS OF BULK AT MOST 1048576: true; the input reads as it did. -/
def wireRowUptoRow : OpenClaim := { program := "ythhgagkacogigaa", sum := "34f8b4872f8b47bcbfd0e339fbd1f1c0cc6b76ec94fb332795e3593b33c1be4c", func := "headland/headlandlaw1.WireRow", spec := "wireRow", apart := false, narrowed := true }
def WireRowUptoSaid : Prop := wireRowUptoRow.holds Try.pinned (OpenSpec.upto wireRowSpec)

end Rows
end Go.Proofs.Ythhgagkacogigaa
