/- Names for what lies in memory. -/
import Derived.Test.YtdojooblfemmnaaDoorObj
namespace Go.Proofs.YtdojooblfemmnaaDoor
open Go.RowKit
theorem nla {a b : Nat} : a ≤ b + a := Nat.le_add_left _ _
abbrev ck0 (b : Nat) (o : Int × Bool × Int × Int × Int × Int × Int) (v1 : Nat) (v2 : Option Addr) (v3 : Nat) (v4 : Nat) : MP := Cl b 68 [.int .i64 o.1, .map (some v1), .slice v2 v3 v4, .bool o.2.1, .int .i64 o.2.2.1, .int .i64 o.2.2.2.1, .int .u64 o.2.2.2.2.1, .int .i64 o.2.2.2.2.2.1, .int .i64 o.2.2.2.2.2.2]
abbrev ck1 (b : Nat) (o : Int × Int × Int × Int) (v1 : Nat) (v2 : Nat) : MP := Cl b 134 [.int .i64 o.1, .map (some v1), .pointer (some ⟨v2, 0, none⟩), .int .i64 o.2.1, .int .u64 o.2.2.1, .int .i64 o.2.2.2]
abbrev ck2 (b : Nat) (o : Int × Int × Int × Int) (v1 : Nat) (v2 : Nat) (v3 : Nat) : MP := Cl b 107 [.pointer (some ⟨v1, 0, none⟩), .nilIface, .int .i64 o.1, .int .i64 o.2.1, .nilIface, .int .i64 o.2.2.1, .int .i64 o.2.2.2, .map (some v2), .slice none 0 0, .slice none 0 0, .map (some v3)]
abbrev ck3 (b : Nat) (v1 : Nat) (v2 : Nat) (v3 : Nat) : MP := Cl b 107 [.pointer (some ⟨v1, 0, none⟩), .nilIface, .int .i64 0, .int .i64 0, .nilIface, .int .i64 0, .int .i64 0, .map (some v2), .slice none 0 0, .slice none 0 0, .map (some v3)]
abbrev ck4 (b : Nat) (o : Int × Int × Int × Int × Int × Int × Int × Int × Int × Int × Int × Int × Int × Int × Int × Int × Int) (v1 : Nat) : MP := Cl b 74 [.pointer (some ⟨v1, 0, none⟩), .int .i64 o.1, .int .i64 o.2.1, .int .i64 o.2.2.1, .int .i64 o.2.2.2.1, .int .i64 o.2.2.2.2.1, .int .i64 o.2.2.2.2.2.1, .int .i64 o.2.2.2.2.2.2.1, .int .i64 o.2.2.2.2.2.2.2.1, .int .i64 o.2.2.2.2.2.2.2.2.1, .int .i64 o.2.2.2.2.2.2.2.2.2.1, .int .i64 o.2.2.2.2.2.2.2.2.2.2.1, .int .i64 o.2.2.2.2.2.2.2.2.2.2.2.1, .int .i64 o.2.2.2.2.2.2.2.2.2.2.2.2.1, .int .i64 o.2.2.2.2.2.2.2.2.2.2.2.2.2.1, .int .i64 o.2.2.2.2.2.2.2.2.2.2.2.2.2.2.1, .int .i64 o.2.2.2.2.2.2.2.2.2.2.2.2.2.2.2.1, .int .i64 o.2.2.2.2.2.2.2.2.2.2.2.2.2.2.2.2]
abbrev ck5 (b : Nat) (v1 : Nat) : MP := Cl b 74 [.pointer (some ⟨v1, 0, none⟩), .int .i64 0, .int .i64 0, .int .i64 0, .int .i64 0, .int .i64 0, .int .i64 0, .int .i64 0, .int .i64 0, .int .i64 0, .int .i64 0, .int .i64 0, .int .i64 0, .int .i64 0, .int .i64 0, .int .i64 0, .int .i64 0, .int .i64 0]
abbrev ck6 (b : Nat) (v1 : Nat) (v2 : Option Addr) (v3 : Nat) (v4 : Nat) : MP := Cl b 84 [.pointer (some ⟨v1, 0, none⟩), .slice v2 v3 v4]
end Go.Proofs.YtdojooblfemmnaaDoor
