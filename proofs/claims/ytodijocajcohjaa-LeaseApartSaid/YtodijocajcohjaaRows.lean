/-
  No cell of these rows narrows 'for every input' (looked for: loops, veiled, ifaces, maps, wideKeys, modest, calm, conditions, laid).
  DERIVED. THE GIVEN ROWS OF THIS SEAT. 4 by the template 'for every input the law returns true; each argument reads behind the call as it read before'; 0 by the template 'total and deterministic' (their statements: YtodijocajcohjaaTotals.lean).
  GIVEN WITH THE SEED: the statements are not yours to turn. If you find one false, say at which input.
  Laid BY PROGRAM, IN A SANDBOX (cutbox-rows.mjs): the forced cells as the released guide's own fill.sh prints them over the translation 74efc98dc81fc786… (all of the seat's roots in one cut). By AI agents, Wed Nov 11 2026. No macro, syntax, notation, axiom, sorry.
-/
import Derived.Test.YtodijocajcohjaaChecked
import GoSem.Claim
import GoSem.ClaimJoined
import GoSem.ClaimMapViews
import Derived.JoinedTies
import Derived.KernelRfl
namespace Go.Proofs.Ytodijocajcohjaa
/- THE CELL 'sum', in the pinned program and in every row, IS THE sha256 OF THE DUMP (.gsa) THAT YtodijocajcohjaaProg.lean LOADS. Nothing in Lean hashes anything: it is a label: what it is worth is what the hold of that sum in a sandbox is worth. -/
noncomputable def Try.pinned : Pinned := { name := "ytodijocajcohjaa", sum := "74efc98dc81fc786712dc3b8bcdc5520d27f88b4721192bce9d7a4f5d67d01d0", checked := Try.checked }
namespace Rows
def none {H : Type} : Left H := { results := [], args := [] }

/-- 'headlandlaw19.LeasePlays': WHATEVER THE INPUT: true; the input reads as it did. -/
def leasePlaysSpec : ChangeSpec := { name := "leasePlays", fn := fun _ => fun
  | [d] => { results := [.lit (.bool true)], args := [d] }
  | _ => none }
def leasePlaysRow : OpenClaim := { program := "ytodijocajcohjaa", sum := "74efc98dc81fc786712dc3b8bcdc5520d27f88b4721192bce9d7a4f5d67d01d0", func := "headland/headlandlaw19.LeasePlays", spec := "leasePlays", inPlace := ["internal/bytealg.Compare"], unfollowed := true, recurses := true, apart := false }
def LeasePlaysSaid : Prop := leasePlaysRow.holds Try.pinned (OpenSpec.ofChange leasePlaysSpec)

/-- ITS FALSE NEIGHBOUR: 'it returns false'. Refute it at one input. -/
def leasePlaysWrong : ChangeSpec := { name := "leasePlays", fn := fun _ => fun
  | [d] => { results := [.lit (.bool false)], args := [d] }
  | _ => none }
def LeasePlaysWrongFalsely : Prop := leasePlaysRow.holds Try.pinned (OpenSpec.ofChange leasePlaysWrong)

/-- 'headlandlaw19.LeaseOnce': WHATEVER THE INPUT: true; the input reads as it did. -/
def leaseOnceSpec : ChangeSpec := { name := "leaseOnce", fn := fun _ => fun
  | [d1, d2, d3, d4, d5] => { results := [.lit (.bool true)], args := [d1, d2, d3, d4, d5] }
  | _ => none }
def leaseOnceRow : OpenClaim := { program := "ytodijocajcohjaa", sum := "74efc98dc81fc786712dc3b8bcdc5520d27f88b4721192bce9d7a4f5d67d01d0", func := "headland/headlandlaw19.LeaseOnce", spec := "leaseOnce", inPlace := ["internal/bytealg.Compare"], unfollowed := true, recurses := true, apart := false }
def LeaseOnceSaid : Prop := leaseOnceRow.holds Try.pinned (OpenSpec.ofChange leaseOnceSpec)

/-- ITS FALSE NEIGHBOUR: 'it returns false'. Refute it at one input. -/
def leaseOnceWrong : ChangeSpec := { name := "leaseOnce", fn := fun _ => fun
  | [d1, d2, d3, d4, d5] => { results := [.lit (.bool false)], args := [d1, d2, d3, d4, d5] }
  | _ => none }
def LeaseOnceWrongFalsely : Prop := leaseOnceRow.holds Try.pinned (OpenSpec.ofChange leaseOnceWrong)

/-- 'headlandlaw19.LeaseClocks': WHATEVER THE INPUT: true; the input reads as it did. -/
def leaseClocksSpec : ChangeSpec := { name := "leaseClocks", fn := fun _ => fun
  | [d1, d2, d3, d4, d5] => { results := [.lit (.bool true)], args := [d1, d2, d3, d4, d5] }
  | _ => none }
def leaseClocksRow : OpenClaim := { program := "ytodijocajcohjaa", sum := "74efc98dc81fc786712dc3b8bcdc5520d27f88b4721192bce9d7a4f5d67d01d0", func := "headland/headlandlaw19.LeaseClocks", spec := "leaseClocks", inPlace := ["internal/bytealg.Compare"], unfollowed := true, recurses := true, apart := false }
def LeaseClocksSaid : Prop := leaseClocksRow.holds Try.pinned (OpenSpec.ofChange leaseClocksSpec)

/-- ITS FALSE NEIGHBOUR: 'it returns false'. Refute it at one input. -/
def leaseClocksWrong : ChangeSpec := { name := "leaseClocks", fn := fun _ => fun
  | [d1, d2, d3, d4, d5] => { results := [.lit (.bool false)], args := [d1, d2, d3, d4, d5] }
  | _ => none }
def LeaseClocksWrongFalsely : Prop := leaseClocksRow.holds Try.pinned (OpenSpec.ofChange leaseClocksWrong)

/-- 'headlandlaw19.LeaseApart': WHATEVER THE INPUT: true; the input reads as it did. -/
def leaseApartSpec : ChangeSpec := { name := "leaseApart", fn := fun _ => fun
  | [d1, d2, d3, d4, d5, d6, d7] => { results := [.lit (.bool true)], args := [d1, d2, d3, d4, d5, d6, d7] }
  | _ => none }
def leaseApartRow : OpenClaim := { program := "ytodijocajcohjaa", sum := "74efc98dc81fc786712dc3b8bcdc5520d27f88b4721192bce9d7a4f5d67d01d0", func := "headland/headlandlaw19.LeaseApart", spec := "leaseApart", inPlace := ["internal/bytealg.Compare"], unfollowed := true, recurses := true, apart := false }
def LeaseApartSaid : Prop := leaseApartRow.holds Try.pinned (OpenSpec.ofChange leaseApartSpec)

/-- ITS FALSE NEIGHBOUR: 'it returns false'. Refute it at one input. -/
def leaseApartWrong : ChangeSpec := { name := "leaseApart", fn := fun _ => fun
  | [d1, d2, d3, d4, d5, d6, d7] => { results := [.lit (.bool false)], args := [d1, d2, d3, d4, d5, d6, d7] }
  | _ => none }
def LeaseApartWrongFalsely : Prop := leaseApartRow.holds Try.pinned (OpenSpec.ofChange leaseApartWrong)

/- THE SECOND FORM. 'bulk': how many values and letters a reading holds, each counted each time it is reached (what is shared counts as often as it is met; a slice's spare places count too). A statement '..UptoSaid' is the law's where the arguments, and the package variables that the reading takes, are together of bulk at most 1048576: NARROWER than '..Said'. Prove '..Said' where nothing that the law and all that it calls make is longer than what came in: it says more and counts as full. Else prove '..UptoSaid'. A law counts once. -/
mutual
def uptoBulk {H : Type} : DataW H → Nat
  | .lit (.string bytes) => bytes.length + 1
  | .lit _ => 1
  | .nil => 1
  | .ptr d => uptoBulk d + 1
  | .slice elems spare => uptoBulkAll elems + uptoBulkAll spare + 1
  | .agg parts => uptoBulkAll parts + 1
  | .iface _ d => uptoBulk d + 1
  | .map entries => uptoBulkEntries entries + 1
  | .held _ => 1
def uptoBulkAll {H : Type} : List (DataW H) → Nat
  | [] => 0
  | d :: r => uptoBulk d + uptoBulkAll r
def uptoBulkEntries {H : Type} : List (Lit × DataW H) → Nat
  | [] => 0
  | x :: r => uptoBulkEntry x + uptoBulkEntries r
def uptoBulkEntry {H : Type} : Lit × DataW H → Nat
  | (.string bytes, d) => bytes.length + uptoBulk d + 1
  | (_, d) => uptoBulk d + 1
 end
def uptoSmall : (H : Type) → List (DataW H) → Bool := fun _ ds => decide (uptoBulkAll ds ≤ 1048576)
def OpenSpec.upto (s : _root_.Go.ChangeSpec) : _root_.Go.OpenSpec := { _root_.Go.OpenSpec.ofChange s with cond := some uptoSmall }

/-- 'headlandlaw19.LeasePlays', WHERE WHAT IT READS IS OF BULK AT MOST 1048576: true; the input reads as it did. -/
def leasePlaysUptoRow : OpenClaim := { program := "ytodijocajcohjaa", sum := "74efc98dc81fc786712dc3b8bcdc5520d27f88b4721192bce9d7a4f5d67d01d0", func := "headland/headlandlaw19.LeasePlays", spec := "leasePlays", inPlace := ["internal/bytealg.Compare"], unfollowed := true, recurses := true, apart := false, narrowed := true }
def LeasePlaysUptoSaid : Prop := leasePlaysUptoRow.holds Try.pinned (OpenSpec.upto leasePlaysSpec)

/-- 'headlandlaw19.LeaseOnce', WHERE WHAT IT READS IS OF BULK AT MOST 1048576: true; the input reads as it did. -/
def leaseOnceUptoRow : OpenClaim := { program := "ytodijocajcohjaa", sum := "74efc98dc81fc786712dc3b8bcdc5520d27f88b4721192bce9d7a4f5d67d01d0", func := "headland/headlandlaw19.LeaseOnce", spec := "leaseOnce", inPlace := ["internal/bytealg.Compare"], unfollowed := true, recurses := true, apart := false, narrowed := true }
def LeaseOnceUptoSaid : Prop := leaseOnceUptoRow.holds Try.pinned (OpenSpec.upto leaseOnceSpec)

/-- 'headlandlaw19.LeaseClocks', WHERE WHAT IT READS IS OF BULK AT MOST 1048576: true; the input reads as it did. -/
def leaseClocksUptoRow : OpenClaim := { program := "ytodijocajcohjaa", sum := "74efc98dc81fc786712dc3b8bcdc5520d27f88b4721192bce9d7a4f5d67d01d0", func := "headland/headlandlaw19.LeaseClocks", spec := "leaseClocks", inPlace := ["internal/bytealg.Compare"], unfollowed := true, recurses := true, apart := false, narrowed := true }
def LeaseClocksUptoSaid : Prop := leaseClocksUptoRow.holds Try.pinned (OpenSpec.upto leaseClocksSpec)

/-- 'headlandlaw19.LeaseApart', WHERE WHAT IT READS IS OF BULK AT MOST 1048576: true; the input reads as it did. -/
def leaseApartUptoRow : OpenClaim := { program := "ytodijocajcohjaa", sum := "74efc98dc81fc786712dc3b8bcdc5520d27f88b4721192bce9d7a4f5d67d01d0", func := "headland/headlandlaw19.LeaseApart", spec := "leaseApart", inPlace := ["internal/bytealg.Compare"], unfollowed := true, recurses := true, apart := false, narrowed := true }
def LeaseApartUptoSaid : Prop := leaseApartUptoRow.holds Try.pinned (OpenSpec.upto leaseApartSpec)

end Rows
end Go.Proofs.Ytodijocajcohjaa
