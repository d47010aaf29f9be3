/- What the program's own table says of its types. -/
import Derived.Test.YtdfbknkgmhddcaaDoorProg
import Derived.Test.YtdfbknkgmhddcaaDoorMem2
namespace Go.Proofs.YtdfbknkgmhddcaaDoor
instance : TI Tryd.prog 0 1 0 false (.tuple #[]) := ⟨by kernel_rfl, by kernel_rfl, rfl⟩
instance : TI Tryd.prog 1 1 8 false .nilFunc := ⟨by kernel_rfl, by kernel_rfl, rfl⟩
instance : INT Tryd.prog 2 .i64 := ⟨by kernel_rfl⟩
instance : TI Tryd.prog 2 1 8 false (.int .i64 0) := ⟨by kernel_rfl, by kernel_rfl, rfl⟩
instance : INT Tryd.prog 3 .i64 := ⟨by kernel_rfl⟩
instance : TI Tryd.prog 3 1 8 false (.int .i64 0) := ⟨by kernel_rfl, by kernel_rfl, rfl⟩
instance : TI Tryd.prog 4 1 1 false (.bool false) := ⟨by kernel_rfl, by kernel_rfl, rfl⟩
instance : INT Tryd.prog 5 .u8 := ⟨by kernel_rfl⟩
instance : TI Tryd.prog 5 1 1 false (.int .u8 0) := ⟨by kernel_rfl, by kernel_rfl, rfl⟩
instance : INT Tryd.prog 6 .u8 := ⟨by kernel_rfl⟩
instance : TI Tryd.prog 6 1 1 false (.int .u8 0) := ⟨by kernel_rfl, by kernel_rfl, rfl⟩
instance : SF Tryd.prog 7 [(2, 0), (3, 1), (4, 2), (6, 3)] := ⟨by kernel_rfl⟩
instance : FLD Tryd.prog 7 0 0 := ⟨fun w b o => by simp [Instr.fieldAt, Instr.sureAddr, fieldPlace, Addr.add]⟩
instance : FLD Tryd.prog 7 1 1 := ⟨fun w b o => by simp [Instr.fieldAt, Instr.sureAddr, fieldPlace, Addr.add]⟩
instance : FLD Tryd.prog 7 2 2 := ⟨fun w b o => by simp [Instr.fieldAt, Instr.sureAddr, fieldPlace, Addr.add]⟩
instance : FLD Tryd.prog 7 3 3 := ⟨fun w b o => by simp [Instr.fieldAt, Instr.sureAddr, fieldPlace, Addr.add]⟩
instance : TI Tryd.prog 7 4 24 true (.agg #[(.int .i64 0), (.int .i64 0), (.bool false), (.int .u8 0)]) := ⟨by kernel_rfl, by kernel_rfl, rfl⟩
instance : SF Tryd.prog 8 [(2, 0), (3, 1), (4, 2), (6, 3)] := ⟨by kernel_rfl⟩
instance : FLD Tryd.prog 8 0 0 := ⟨fun w b o => by simp [Instr.fieldAt, Instr.sureAddr, fieldPlace, Addr.add]⟩
instance : FLD Tryd.prog 8 1 1 := ⟨fun w b o => by simp [Instr.fieldAt, Instr.sureAddr, fieldPlace, Addr.add]⟩
instance : FLD Tryd.prog 8 2 2 := ⟨fun w b o => by simp [Instr.fieldAt, Instr.sureAddr, fieldPlace, Addr.add]⟩
instance : FLD Tryd.prog 8 3 3 := ⟨fun w b o => by simp [Instr.fieldAt, Instr.sureAddr, fieldPlace, Addr.add]⟩
instance : TI Tryd.prog 8 4 24 true (.agg #[(.int .i64 0), (.int .i64 0), (.bool false), (.int .u8 0)]) := ⟨by kernel_rfl, by kernel_rfl, rfl⟩
instance : STR Tryd.prog 9 := ⟨by kernel_rfl⟩
instance : TI Tryd.prog 9 1 16 false (.string { data := #[] }) := ⟨by kernel_rfl, by kernel_rfl, rfl⟩
instance : STR Tryd.prog 10 := ⟨by kernel_rfl⟩
instance : TI Tryd.prog 10 1 16 false (.string { data := #[] }) := ⟨by kernel_rfl, by kernel_rfl, rfl⟩
instance : STR Tryd.prog 11 := ⟨by kernel_rfl⟩
instance : TI Tryd.prog 11 1 16 false (.string { data := #[] }) := ⟨by kernel_rfl, by kernel_rfl, rfl⟩
instance : INT Tryd.prog 12 .u64 := ⟨by kernel_rfl⟩
instance : TI Tryd.prog 12 1 8 false (.int .u64 0) := ⟨by kernel_rfl, by kernel_rfl, rfl⟩
instance : SF Tryd.prog 13 [(9, 0), (12, 1)] := ⟨by kernel_rfl⟩
instance : FLD Tryd.prog 13 0 0 := ⟨fun w b o => by simp [Instr.fieldAt, Instr.sureAddr, fieldPlace, Addr.add]⟩
instance : FLD Tryd.prog 13 1 1 := ⟨fun w b o => by simp [Instr.fieldAt, Instr.sureAddr, fieldPlace, Addr.add]⟩
instance : TI Tryd.prog 13 2 24 true (.agg #[(.string { data := #[] }), (.int .u64 0)]) := ⟨by kernel_rfl, by kernel_rfl, rfl⟩
instance : SF Tryd.prog 14 [(9, 0), (12, 1)] := ⟨by kernel_rfl⟩
instance : FLD Tryd.prog 14 0 0 := ⟨fun w b o => by simp [Instr.fieldAt, Instr.sureAddr, fieldPlace, Addr.add]⟩
instance : FLD Tryd.prog 14 1 1 := ⟨fun w b o => by simp [Instr.fieldAt, Instr.sureAddr, fieldPlace, Addr.add]⟩
instance : TI Tryd.prog 14 2 24 true (.agg #[(.string { data := #[] }), (.int .u64 0)]) := ⟨by kernel_rfl, by kernel_rfl, rfl⟩
instance : TI Tryd.prog 15 1 8 false (.pointer none) := ⟨by kernel_rfl, by kernel_rfl, rfl⟩
instance : TI Tryd.prog 16 1 8 false (.pointer none) := ⟨by kernel_rfl, by kernel_rfl, rfl⟩
instance : TI Tryd.prog 17 1 8 false (.pointer none) := ⟨by kernel_rfl, by kernel_rfl, rfl⟩
instance : SF Tryd.prog 18 [(17, 0)] := ⟨by kernel_rfl⟩
instance : FLD Tryd.prog 18 0 0 := ⟨fun w b o => by simp [Instr.fieldAt, Instr.sureAddr, fieldPlace, Addr.add]⟩
instance : TI Tryd.prog 18 1 8 true (.agg #[(.pointer none)]) := ⟨by kernel_rfl, by kernel_rfl, rfl⟩
instance : SF Tryd.prog 19 [(17, 0)] := ⟨by kernel_rfl⟩
instance : FLD Tryd.prog 19 0 0 := ⟨fun w b o => by simp [Instr.fieldAt, Instr.sureAddr, fieldPlace, Addr.add]⟩
instance : TI Tryd.prog 19 1 8 true (.agg #[(.pointer none)]) := ⟨by kernel_rfl, by kernel_rfl, rfl⟩
instance : TI Tryd.prog 20 1 16 false .nilIface := ⟨by kernel_rfl, by kernel_rfl, rfl⟩
instance : INT Tryd.prog 21 .i32 := ⟨by kernel_rfl⟩
instance : TI Tryd.prog 21 1 4 false (.int .i32 0) := ⟨by kernel_rfl, by kernel_rfl, rfl⟩
instance : SL Tryd.prog 22 54 := ⟨by kernel_rfl⟩
instance : TI Tryd.prog 22 1 24 false (.slice none 0 0) := ⟨by kernel_rfl, by kernel_rfl, rfl⟩
instance : SL Tryd.prog 23 58 := ⟨by kernel_rfl⟩
instance : TI Tryd.prog 23 1 24 false (.slice none 0 0) := ⟨by kernel_rfl, by kernel_rfl, rfl⟩
instance : SF Tryd.prog 24 [(9, 0), (22, 1), (23, 2)] := ⟨by kernel_rfl⟩
instance : FLD Tryd.prog 24 0 0 := ⟨fun w b o => by simp [Instr.fieldAt, Instr.sureAddr, fieldPlace, Addr.add]⟩
instance : FLD Tryd.prog 24 1 1 := ⟨fun w b o => by simp [Instr.fieldAt, Instr.sureAddr, fieldPlace, Addr.add]⟩
instance : FLD Tryd.prog 24 2 2 := ⟨fun w b o => by simp [Instr.fieldAt, Instr.sureAddr, fieldPlace, Addr.add]⟩
instance : TI Tryd.prog 24 3 64 true (.agg #[(.string { data := #[] }), (.slice none 0 0), (.slice none 0 0)]) := ⟨by kernel_rfl, by kernel_rfl, rfl⟩
instance : SF Tryd.prog 25 [(9, 0), (22, 1), (23, 2)] := ⟨by kernel_rfl⟩
instance : FLD Tryd.prog 25 0 0 := ⟨fun w b o => by simp [Instr.fieldAt, Instr.sureAddr, fieldPlace, Addr.add]⟩
instance : FLD Tryd.prog 25 1 1 := ⟨fun w b o => by simp [Instr.fieldAt, Instr.sureAddr, fieldPlace, Addr.add]⟩
instance : FLD Tryd.prog 25 2 2 := ⟨fun w b o => by simp [Instr.fieldAt, Instr.sureAddr, fieldPlace, Addr.add]⟩
instance : TI Tryd.prog 25 3 64 true (.agg #[(.string { data := #[] }), (.slice none 0 0), (.slice none 0 0)]) := ⟨by kernel_rfl, by kernel_rfl, rfl⟩
instance : SL Tryd.prog 26 39 := ⟨by kernel_rfl⟩
instance : TI Tryd.prog 26 1 24 false (.slice none 0 0) := ⟨by kernel_rfl, by kernel_rfl, rfl⟩
instance : TI Tryd.prog 27 1 8 false .nilFunc := ⟨by kernel_rfl, by kernel_rfl, rfl⟩
instance : TI Tryd.prog 28 1 8 false .nilFunc := ⟨by kernel_rfl, by kernel_rfl, rfl⟩
instance : INT Tryd.prog 29 .i64 := ⟨by kernel_rfl⟩
instance : TI Tryd.prog 29 1 8 false (.int .i64 0) := ⟨by kernel_rfl, by kernel_rfl, rfl⟩
instance : TI Tryd.prog 30 1 8 false .nilFunc := ⟨by kernel_rfl, by kernel_rfl, rfl⟩
instance : TI Tryd.prog 31 1 8 false .nilFunc := ⟨by kernel_rfl, by kernel_rfl, rfl⟩
instance : TI Tryd.prog 32 1 8 false .nilFunc := ⟨by kernel_rfl, by kernel_rfl, rfl⟩
instance : TI Tryd.prog 33 1 8 false .nilFunc := ⟨by kernel_rfl, by kernel_rfl, rfl⟩
instance : TI Tryd.prog 34 1 8 false .nilFunc := ⟨by kernel_rfl, by kernel_rfl, rfl⟩
instance : TI Tryd.prog 35 1 8 false .nilFunc := ⟨by kernel_rfl, by kernel_rfl, rfl⟩
instance : TI Tryd.prog 36 1 8 false .nilFunc := ⟨by kernel_rfl, by kernel_rfl, rfl⟩
instance : TI Tryd.prog 37 1 8 false .nilFunc := ⟨by kernel_rfl, by kernel_rfl, rfl⟩
instance : SF Tryd.prog 38 [(3, 0), (3, 1), (9, 2)] := ⟨by kernel_rfl⟩
instance : FLD Tryd.prog 38 0 0 := ⟨fun w b o => by simp [Instr.fieldAt, Instr.sureAddr, fieldPlace, Addr.add]⟩
instance : FLD Tryd.prog 38 1 1 := ⟨fun w b o => by simp [Instr.fieldAt, Instr.sureAddr, fieldPlace, Addr.add]⟩
instance : FLD Tryd.prog 38 2 2 := ⟨fun w b o => by simp [Instr.fieldAt, Instr.sureAddr, fieldPlace, Addr.add]⟩
instance : TI Tryd.prog 38 3 32 true (.agg #[(.int .i64 0), (.int .i64 0), (.string { data := #[] })]) := ⟨by kernel_rfl, by kernel_rfl, rfl⟩
instance : SF Tryd.prog 39 [(3, 0), (3, 1), (9, 2)] := ⟨by kernel_rfl⟩
instance : FLD Tryd.prog 39 0 0 := ⟨fun w b o => by simp [Instr.fieldAt, Instr.sureAddr, fieldPlace, Addr.add]⟩
instance : FLD Tryd.prog 39 1 1 := ⟨fun w b o => by simp [Instr.fieldAt, Instr.sureAddr, fieldPlace, Addr.add]⟩
instance : FLD Tryd.prog 39 2 2 := ⟨fun w b o => by simp [Instr.fieldAt, Instr.sureAddr, fieldPlace, Addr.add]⟩
instance : TI Tryd.prog 39 3 32 true (.agg #[(.int .i64 0), (.int .i64 0), (.string { data := #[] })]) := ⟨by kernel_rfl, by kernel_rfl, rfl⟩
instance : TI Tryd.prog 40 1 8 false .nilFunc := ⟨by kernel_rfl, by kernel_rfl, rfl⟩
instance : TI Tryd.prog 41 1 8 false .nilFunc := ⟨by kernel_rfl, by kernel_rfl, rfl⟩
instance : SL Tryd.prog 42 5 := ⟨by kernel_rfl⟩
instance : TI Tryd.prog 42 1 24 false (.slice none 0 0) := ⟨by kernel_rfl, by kernel_rfl, rfl⟩
instance : TI Tryd.prog 43 1 0 false (.tuple #[(.slice none 0 0), (.int .i64 0)]) := ⟨by kernel_rfl, by kernel_rfl, rfl⟩
instance : TI Tryd.prog 44 1 8 false .nilFunc := ⟨by kernel_rfl, by kernel_rfl, rfl⟩
instance : TI Tryd.prog 45 1 8 false .nilFunc := ⟨by kernel_rfl, by kernel_rfl, rfl⟩
instance : TI Tryd.prog 46 1 8 false .nilFunc := ⟨by kernel_rfl, by kernel_rfl, rfl⟩
instance : TI Tryd.prog 47 1 8 false .nilFunc := ⟨by kernel_rfl, by kernel_rfl, rfl⟩
instance : TI Tryd.prog 48 1 0 false (.tuple #[(.agg #[(.string { data := #[] }), (.slice none 0 0), (.slice none 0 0)]), (.int .i64 0)]) := ⟨by kernel_rfl, by kernel_rfl, rfl⟩
instance : TI Tryd.prog 49 1 8 false .nilFunc := ⟨by kernel_rfl, by kernel_rfl, rfl⟩
instance : TI Tryd.prog 50 1 0 false (.tuple #[(.slice none 0 0), (.int .i64 0)]) := ⟨by kernel_rfl, by kernel_rfl, rfl⟩
instance : TI Tryd.prog 51 1 8 false .nilFunc := ⟨by kernel_rfl, by kernel_rfl, rfl⟩
instance : TI Tryd.prog 52 1 8 false .nilFunc := ⟨by kernel_rfl, by kernel_rfl, rfl⟩
instance : SF Tryd.prog 53 [(9, 0), (3, 1), (3, 2)] := ⟨by kernel_rfl⟩
instance : FLD Tryd.prog 53 0 0 := ⟨fun w b o => by simp [Instr.fieldAt, Instr.sureAddr, fieldPlace, Addr.add]⟩
instance : FLD Tryd.prog 53 1 1 := ⟨fun w b o => by simp [Instr.fieldAt, Instr.sureAddr, fieldPlace, Addr.add]⟩
instance : FLD Tryd.prog 53 2 2 := ⟨fun w b o => by simp [Instr.fieldAt, Instr.sureAddr, fieldPlace, Addr.add]⟩
instance : TI Tryd.prog 53 3 32 true (.agg #[(.string { data := #[] }), (.int .i64 0), (.int .i64 0)]) := ⟨by kernel_rfl, by kernel_rfl, rfl⟩
instance : SF Tryd.prog 54 [(9, 0), (3, 1), (3, 2)] := ⟨by kernel_rfl⟩
instance : FLD Tryd.prog 54 0 0 := ⟨fun w b o => by simp [Instr.fieldAt, Instr.sureAddr, fieldPlace, Addr.add]⟩
instance : FLD Tryd.prog 54 1 1 := ⟨fun w b o => by simp [Instr.fieldAt, Instr.sureAddr, fieldPlace, Addr.add]⟩
instance : FLD Tryd.prog 54 2 2 := ⟨fun w b o => by simp [Instr.fieldAt, Instr.sureAddr, fieldPlace, Addr.add]⟩
instance : TI Tryd.prog 54 3 32 true (.agg #[(.string { data := #[] }), (.int .i64 0), (.int .i64 0)]) := ⟨by kernel_rfl, by kernel_rfl, rfl⟩
instance : TI Tryd.prog 55 1 8 false .nilFunc := ⟨by kernel_rfl, by kernel_rfl, rfl⟩
instance : TI Tryd.prog 56 1 8 false .nilFunc := ⟨by kernel_rfl, by kernel_rfl, rfl⟩
instance : SF Tryd.prog 57 [(3, 0), (4, 1)] := ⟨by kernel_rfl⟩
instance : FLD Tryd.prog 57 0 0 := ⟨fun w b o => by simp [Instr.fieldAt, Instr.sureAddr, fieldPlace, Addr.add]⟩
instance : FLD Tryd.prog 57 1 1 := ⟨fun w b o => by simp [Instr.fieldAt, Instr.sureAddr, fieldPlace, Addr.add]⟩
instance : TI Tryd.prog 57 2 16 true (.agg #[(.int .i64 0), (.bool false)]) := ⟨by kernel_rfl, by kernel_rfl, rfl⟩
instance : SF Tryd.prog 58 [(3, 0), (4, 1)] := ⟨by kernel_rfl⟩
instance : FLD Tryd.prog 58 0 0 := ⟨fun w b o => by simp [Instr.fieldAt, Instr.sureAddr, fieldPlace, Addr.add]⟩
instance : FLD Tryd.prog 58 1 1 := ⟨fun w b o => by simp [Instr.fieldAt, Instr.sureAddr, fieldPlace, Addr.add]⟩
instance : TI Tryd.prog 58 2 16 true (.agg #[(.int .i64 0), (.bool false)]) := ⟨by kernel_rfl, by kernel_rfl, rfl⟩
instance : TI Tryd.prog 59 1 8 false .nilFunc := ⟨by kernel_rfl, by kernel_rfl, rfl⟩
instance : TI Tryd.prog 60 1 8 false .nilFunc := ⟨by kernel_rfl, by kernel_rfl, rfl⟩
instance : TI Tryd.prog 61 1 8 false .nilFunc := ⟨by kernel_rfl, by kernel_rfl, rfl⟩
instance : TI Tryd.prog 62 1 8 false .nilFunc := ⟨by kernel_rfl, by kernel_rfl, rfl⟩
instance : TI Tryd.prog 63 1 8 false .nilFunc := ⟨by kernel_rfl, by kernel_rfl, rfl⟩
instance : TI Tryd.prog 64 1 8 false .nilFunc := ⟨by kernel_rfl, by kernel_rfl, rfl⟩
instance : TI Tryd.prog 65 1 8 false .nilFunc := ⟨by kernel_rfl, by kernel_rfl, rfl⟩
instance : TI Tryd.prog 66 1 8 false .nilFunc := ⟨by kernel_rfl, by kernel_rfl, rfl⟩
instance : TI Tryd.prog 67 1 8 false .nilFunc := ⟨by kernel_rfl, by kernel_rfl, rfl⟩
instance : TI Tryd.prog 68 1 8 false .nilFunc := ⟨by kernel_rfl, by kernel_rfl, rfl⟩
instance : TI Tryd.prog 69 1 8 false .nilFunc := ⟨by kernel_rfl, by kernel_rfl, rfl⟩
instance : TI Tryd.prog 70 1 8 false .nilFunc := ⟨by kernel_rfl, by kernel_rfl, rfl⟩
instance : TI Tryd.prog 71 1 8 false .nilFunc := ⟨by kernel_rfl, by kernel_rfl, rfl⟩
instance : TI Tryd.prog 72 1 8 false .nilFunc := ⟨by kernel_rfl, by kernel_rfl, rfl⟩
instance : TI Tryd.prog 73 1 8 false (.pointer none) := ⟨by kernel_rfl, by kernel_rfl, rfl⟩
instance : SF Tryd.prog 74 [(42, 0), (3, 1), (4, 2)] := ⟨by kernel_rfl⟩
instance : FLD Tryd.prog 74 0 0 := ⟨fun w b o => by simp [Instr.fieldAt, Instr.sureAddr, fieldPlace, Addr.add]⟩
instance : FLD Tryd.prog 74 1 1 := ⟨fun w b o => by simp [Instr.fieldAt, Instr.sureAddr, fieldPlace, Addr.add]⟩
instance : FLD Tryd.prog 74 2 2 := ⟨fun w b o => by simp [Instr.fieldAt, Instr.sureAddr, fieldPlace, Addr.add]⟩
instance : TI Tryd.prog 74 3 40 true (.agg #[(.slice none 0 0), (.int .i64 0), (.bool false)]) := ⟨by kernel_rfl, by kernel_rfl, rfl⟩
instance : SF Tryd.prog 75 [(42, 0), (3, 1), (4, 2)] := ⟨by kernel_rfl⟩
instance : FLD Tryd.prog 75 0 0 := ⟨fun w b o => by simp [Instr.fieldAt, Instr.sureAddr, fieldPlace, Addr.add]⟩
instance : FLD Tryd.prog 75 1 1 := ⟨fun w b o => by simp [Instr.fieldAt, Instr.sureAddr, fieldPlace, Addr.add]⟩
instance : FLD Tryd.prog 75 2 2 := ⟨fun w b o => by simp [Instr.fieldAt, Instr.sureAddr, fieldPlace, Addr.add]⟩
instance : TI Tryd.prog 75 3 40 true (.agg #[(.slice none 0 0), (.int .i64 0), (.bool false)]) := ⟨by kernel_rfl, by kernel_rfl, rfl⟩
instance : TI Tryd.prog 76 1 8 false .nilFunc := ⟨by kernel_rfl, by kernel_rfl, rfl⟩
instance : TI Tryd.prog 77 1 8 false .nilFunc := ⟨by kernel_rfl, by kernel_rfl, rfl⟩
instance : TI Tryd.prog 78 1 8 false .nilFunc := ⟨by kernel_rfl, by kernel_rfl, rfl⟩
instance : TI Tryd.prog 79 1 8 false .nilFunc := ⟨by kernel_rfl, by kernel_rfl, rfl⟩
instance : SL Tryd.prog 80 21 := ⟨by kernel_rfl⟩
instance : TI Tryd.prog 80 1 24 false (.slice none 0 0) := ⟨by kernel_rfl, by kernel_rfl, rfl⟩
instance : TI Tryd.prog 81 1 8 false .nilFunc := ⟨by kernel_rfl, by kernel_rfl, rfl⟩
instance : TI Tryd.prog 82 1 0 false (.tuple #[(.string { data := #[] }), (.bool false)]) := ⟨by kernel_rfl, by kernel_rfl, rfl⟩
instance : TI Tryd.prog 83 1 8 false .nilFunc := ⟨by kernel_rfl, by kernel_rfl, rfl⟩
instance : TI Tryd.prog 84 1 0 false (.tuple #[(.slice none 0 0), (.bool false)]) := ⟨by kernel_rfl, by kernel_rfl, rfl⟩
instance : TI Tryd.prog 85 1 8 false .nilFunc := ⟨by kernel_rfl, by kernel_rfl, rfl⟩
instance : TI Tryd.prog 86 1 8 false .nilFunc := ⟨by kernel_rfl, by kernel_rfl, rfl⟩
instance : SF Tryd.prog 87 [] := ⟨by kernel_rfl⟩
instance : TI Tryd.prog 87 0 0 true (.agg #[]) := ⟨by kernel_rfl, by kernel_rfl, rfl⟩
instance : SF Tryd.prog 88 [] := ⟨by kernel_rfl⟩
instance : TI Tryd.prog 88 0 0 true (.agg #[]) := ⟨by kernel_rfl, by kernel_rfl, rfl⟩
instance : TI Tryd.prog 89 1 0 false (.tuple #[(.agg #[]), (.bool false)]) := ⟨by kernel_rfl, by kernel_rfl, rfl⟩
instance : TI Tryd.prog 90 1 0 false (.tuple #[(.bool false), (.bool false)]) := ⟨by kernel_rfl, by kernel_rfl, rfl⟩
instance : TI Tryd.prog 91 1 0 false (.tuple #[(.int .i64 0), (.bool false)]) := ⟨by kernel_rfl, by kernel_rfl, rfl⟩
instance : TI Tryd.prog 92 1 8 false .nilFunc := ⟨by kernel_rfl, by kernel_rfl, rfl⟩
instance : INT Tryd.prog 93 .u64 := ⟨by kernel_rfl⟩
instance : TI Tryd.prog 93 1 8 false (.int .u64 0) := ⟨by kernel_rfl, by kernel_rfl, rfl⟩
instance : TI Tryd.prog 94 1 8 false .nilFunc := ⟨by kernel_rfl, by kernel_rfl, rfl⟩
instance : TI Tryd.prog 95 1 0 false (.tuple #[(.slice none 0 0), (.int .i64 0), (.int .i64 0)]) := ⟨by kernel_rfl, by kernel_rfl, rfl⟩
instance : TI Tryd.prog 96 1 8 false .nilFunc := ⟨by kernel_rfl, by kernel_rfl, rfl⟩
instance : TI Tryd.prog 97 1 0 false (.tuple #[(.agg #[(.int .i64 0), (.int .i64 0), (.string { data := #[] })]), (.int .i64 0)]) := ⟨by kernel_rfl, by kernel_rfl, rfl⟩
instance : TI Tryd.prog 98 1 8 false .nilFunc := ⟨by kernel_rfl, by kernel_rfl, rfl⟩
instance : TI Tryd.prog 99 1 8 false .nilFunc := ⟨by kernel_rfl, by kernel_rfl, rfl⟩
instance : ARR Tryd.prog 100 256 5 := ⟨by kernel_rfl⟩
instance : TI Tryd.prog 100 256 256 true (.agg (List.replicate 256 (.int .u8 0)).toArray) := ⟨by kernel_rfl, by kernel_rfl, by kernel_rfl⟩
instance : SF Tryd.prog 101 [(5, 0), (5, 1)] := ⟨by kernel_rfl⟩
instance : FLD Tryd.prog 101 0 0 := ⟨fun w b o => by simp [Instr.fieldAt, Instr.sureAddr, fieldPlace, Addr.add]⟩
instance : FLD Tryd.prog 101 1 1 := ⟨fun w b o => by simp [Instr.fieldAt, Instr.sureAddr, fieldPlace, Addr.add]⟩
instance : TI Tryd.prog 101 2 2 true (.agg #[(.int .u8 0), (.int .u8 0)]) := ⟨by kernel_rfl, by kernel_rfl, rfl⟩
instance : SF Tryd.prog 102 [(5, 0), (5, 1)] := ⟨by kernel_rfl⟩
instance : FLD Tryd.prog 102 0 0 := ⟨fun w b o => by simp [Instr.fieldAt, Instr.sureAddr, fieldPlace, Addr.add]⟩
instance : FLD Tryd.prog 102 1 1 := ⟨fun w b o => by simp [Instr.fieldAt, Instr.sureAddr, fieldPlace, Addr.add]⟩
instance : TI Tryd.prog 102 2 2 true (.agg #[(.int .u8 0), (.int .u8 0)]) := ⟨by kernel_rfl, by kernel_rfl, rfl⟩
instance : ARR Tryd.prog 103 16 102 := ⟨by kernel_rfl⟩
instance : TI Tryd.prog 103 32 32 true (.agg (List.replicate 32 (.int .u8 0)).toArray) := ⟨by kernel_rfl, by kernel_rfl, by kernel_rfl⟩
instance : INT Tryd.prog 104 .u64 := ⟨by kernel_rfl⟩
instance : TI Tryd.prog 104 1 8 false (.int .u64 0) := ⟨by kernel_rfl, by kernel_rfl, rfl⟩
instance : TI Tryd.prog 105 1 8 false .nilFunc := ⟨by kernel_rfl, by kernel_rfl, rfl⟩
instance : TI Tryd.prog 106 1 0 false (.tuple #[(.int .i64 0), (.int .i64 0), (.int .i64 0)]) := ⟨by kernel_rfl, by kernel_rfl, rfl⟩
instance : TI Tryd.prog 107 1 8 false .nilFunc := ⟨by kernel_rfl, by kernel_rfl, rfl⟩
instance : TI Tryd.prog 108 1 8 false .nilFunc := ⟨by kernel_rfl, by kernel_rfl, rfl⟩
instance : SF Tryd.prog 109 [(17, 0), (17, 1), (17, 2), (9, 3)] := ⟨by kernel_rfl⟩
instance : FLD Tryd.prog 109 0 0 := ⟨fun w b o => by simp [Instr.fieldAt, Instr.sureAddr, fieldPlace, Addr.add]⟩
instance : FLD Tryd.prog 109 1 1 := ⟨fun w b o => by simp [Instr.fieldAt, Instr.sureAddr, fieldPlace, Addr.add]⟩
instance : FLD Tryd.prog 109 2 2 := ⟨fun w b o => by simp [Instr.fieldAt, Instr.sureAddr, fieldPlace, Addr.add]⟩
instance : FLD Tryd.prog 109 3 3 := ⟨fun w b o => by simp [Instr.fieldAt, Instr.sureAddr, fieldPlace, Addr.add]⟩
instance : TI Tryd.prog 109 4 40 true (.agg #[(.pointer none), (.pointer none), (.pointer none), (.string { data := #[] })]) := ⟨by kernel_rfl, by kernel_rfl, rfl⟩
instance : SF Tryd.prog 110 [(17, 0), (17, 1), (17, 2), (9, 3)] := ⟨by kernel_rfl⟩
instance : FLD Tryd.prog 110 0 0 := ⟨fun w b o => by simp [Instr.fieldAt, Instr.sureAddr, fieldPlace, Addr.add]⟩
instance : FLD Tryd.prog 110 1 1 := ⟨fun w b o => by simp [Instr.fieldAt, Instr.sureAddr, fieldPlace, Addr.add]⟩
instance : FLD Tryd.prog 110 2 2 := ⟨fun w b o => by simp [Instr.fieldAt, Instr.sureAddr, fieldPlace, Addr.add]⟩
instance : FLD Tryd.prog 110 3 3 := ⟨fun w b o => by simp [Instr.fieldAt, Instr.sureAddr, fieldPlace, Addr.add]⟩
instance : TI Tryd.prog 110 4 40 true (.agg #[(.pointer none), (.pointer none), (.pointer none), (.string { data := #[] })]) := ⟨by kernel_rfl, by kernel_rfl, rfl⟩
instance : ARR Tryd.prog 111 0 16 := ⟨by kernel_rfl⟩
instance : TI Tryd.prog 111 0 0 true (.agg #[]) := ⟨by kernel_rfl, by kernel_rfl, rfl⟩
instance : SF Tryd.prog 112 [(111, 0)] := ⟨by kernel_rfl⟩
instance : TI Tryd.prog 112 0 0 true (.agg #[]) := ⟨by kernel_rfl, by kernel_rfl, rfl⟩
instance : SF Tryd.prog 113 [(111, 0)] := ⟨by kernel_rfl⟩
instance : TI Tryd.prog 113 0 0 true (.agg #[]) := ⟨by kernel_rfl, by kernel_rfl, rfl⟩
instance : TI Tryd.prog 114 1 8 false .nilFunc := ⟨by kernel_rfl, by kernel_rfl, rfl⟩
instance : INT Tryd.prog 115 .u32 := ⟨by kernel_rfl⟩
instance : TI Tryd.prog 115 1 4 false (.int .u32 0) := ⟨by kernel_rfl, by kernel_rfl, rfl⟩
instance : INT Tryd.prog 116 .u8 := ⟨by kernel_rfl⟩
instance : TI Tryd.prog 116 1 1 false (.int .u8 0) := ⟨by kernel_rfl, by kernel_rfl, rfl⟩
instance : INT Tryd.prog 117 .u8 := ⟨by kernel_rfl⟩
instance : TI Tryd.prog 117 1 1 false (.int .u8 0) := ⟨by kernel_rfl, by kernel_rfl, rfl⟩
instance : TI Tryd.prog 118 1 8 false .nilFunc := ⟨by kernel_rfl, by kernel_rfl, rfl⟩
instance : TI Tryd.prog 119 1 8 false (.pointer none) := ⟨by kernel_rfl, by kernel_rfl, rfl⟩
instance : INT Tryd.prog 120 .i32 := ⟨by kernel_rfl⟩
instance : TI Tryd.prog 120 1 4 false (.int .i32 0) := ⟨by kernel_rfl, by kernel_rfl, rfl⟩
instance : INT Tryd.prog 121 .i32 := ⟨by kernel_rfl⟩
instance : TI Tryd.prog 121 1 4 false (.int .i32 0) := ⟨by kernel_rfl, by kernel_rfl, rfl⟩
instance : SF Tryd.prog 122 [(12, 0), (12, 1), (115, 2), (116, 3), (5, 4), (5, 5), (117, 6), (118, 7), (119, 8), (120, 9), (121, 10)] := ⟨by kernel_rfl⟩
instance : FLD Tryd.prog 122 0 0 := ⟨fun w b o => by simp [Instr.fieldAt, Instr.sureAddr, fieldPlace, Addr.add]⟩
instance : FLD Tryd.prog 122 1 1 := ⟨fun w b o => by simp [Instr.fieldAt, Instr.sureAddr, fieldPlace, Addr.add]⟩
instance : FLD Tryd.prog 122 2 2 := ⟨fun w b o => by simp [Instr.fieldAt, Instr.sureAddr, fieldPlace, Addr.add]⟩
instance : FLD Tryd.prog 122 3 3 := ⟨fun w b o => by simp [Instr.fieldAt, Instr.sureAddr, fieldPlace, Addr.add]⟩
instance : FLD Tryd.prog 122 4 4 := ⟨fun w b o => by simp [Instr.fieldAt, Instr.sureAddr, fieldPlace, Addr.add]⟩
instance : FLD Tryd.prog 122 5 5 := ⟨fun w b o => by simp [Instr.fieldAt, Instr.sureAddr, fieldPlace, Addr.add]⟩
instance : FLD Tryd.prog 122 6 6 := ⟨fun w b o => by simp [Instr.fieldAt, Instr.sureAddr, fieldPlace, Addr.add]⟩
instance : FLD Tryd.prog 122 7 7 := ⟨fun w b o => by simp [Instr.fieldAt, Instr.sureAddr, fieldPlace, Addr.add]⟩
instance : FLD Tryd.prog 122 8 8 := ⟨fun w b o => by simp [Instr.fieldAt, Instr.sureAddr, fieldPlace, Addr.add]⟩
instance : FLD Tryd.prog 122 9 9 := ⟨fun w b o => by simp [Instr.fieldAt, Instr.sureAddr, fieldPlace, Addr.add]⟩
instance : FLD Tryd.prog 122 10 10 := ⟨fun w b o => by simp [Instr.fieldAt, Instr.sureAddr, fieldPlace, Addr.add]⟩
instance : TI Tryd.prog 122 11 48 true (.agg #[(.int .u64 0), (.int .u64 0), (.int .u32 0), (.int .u8 0), (.int .u8 0), (.int .u8 0), (.int .u8 0), .nilFunc, (.pointer none), (.int .i32 0), (.int .i32 0)]) := ⟨by kernel_rfl, by kernel_rfl, rfl⟩
instance : SF Tryd.prog 123 [(12, 0), (12, 1), (115, 2), (116, 3), (5, 4), (5, 5), (117, 6), (118, 7), (119, 8), (120, 9), (121, 10)] := ⟨by kernel_rfl⟩
instance : FLD Tryd.prog 123 0 0 := ⟨fun w b o => by simp [Instr.fieldAt, Instr.sureAddr, fieldPlace, Addr.add]⟩
instance : FLD Tryd.prog 123 1 1 := ⟨fun w b o => by simp [Instr.fieldAt, Instr.sureAddr, fieldPlace, Addr.add]⟩
instance : FLD Tryd.prog 123 2 2 := ⟨fun w b o => by simp [Instr.fieldAt, Instr.sureAddr, fieldPlace, Addr.add]⟩
instance : FLD Tryd.prog 123 3 3 := ⟨fun w b o => by simp [Instr.fieldAt, Instr.sureAddr, fieldPlace, Addr.add]⟩
instance : FLD Tryd.prog 123 4 4 := ⟨fun w b o => by simp [Instr.fieldAt, Instr.sureAddr, fieldPlace, Addr.add]⟩
instance : FLD Tryd.prog 123 5 5 := ⟨fun w b o => by simp [Instr.fieldAt, Instr.sureAddr, fieldPlace, Addr.add]⟩
instance : FLD Tryd.prog 123 6 6 := ⟨fun w b o => by simp [Instr.fieldAt, Instr.sureAddr, fieldPlace, Addr.add]⟩
instance : FLD Tryd.prog 123 7 7 := ⟨fun w b o => by simp [Instr.fieldAt, Instr.sureAddr, fieldPlace, Addr.add]⟩
instance : FLD Tryd.prog 123 8 8 := ⟨fun w b o => by simp [Instr.fieldAt, Instr.sureAddr, fieldPlace, Addr.add]⟩
instance : FLD Tryd.prog 123 9 9 := ⟨fun w b o => by simp [Instr.fieldAt, Instr.sureAddr, fieldPlace, Addr.add]⟩
instance : FLD Tryd.prog 123 10 10 := ⟨fun w b o => by simp [Instr.fieldAt, Instr.sureAddr, fieldPlace, Addr.add]⟩
instance : TI Tryd.prog 123 11 48 true (.agg #[(.int .u64 0), (.int .u64 0), (.int .u32 0), (.int .u8 0), (.int .u8 0), (.int .u8 0), (.int .u8 0), .nilFunc, (.pointer none), (.int .i32 0), (.int .i32 0)]) := ⟨by kernel_rfl, by kernel_rfl, rfl⟩
instance : TI Tryd.prog 124 1 8 false (.pointer none) := ⟨by kernel_rfl, by kernel_rfl, rfl⟩
end Go.Proofs.YtdfbknkgmhddcaaDoor
