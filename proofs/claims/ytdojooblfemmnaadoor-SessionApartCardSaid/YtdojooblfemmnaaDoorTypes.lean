/- What the program's own table says of its types. -/
import Derived.Test.YtdojooblfemmnaaDoorProg
import Derived.Test.YtdojooblfemmnaaDoorMem2
namespace Go.Proofs.YtdojooblfemmnaaDoor
instance : TI Tryd.prog 0 1 0 false (.tuple #[]) := ⟨by kernel_rfl, by kernel_rfl, rfl⟩
instance : TI Tryd.prog 1 1 8 false .nilFunc := ⟨by kernel_rfl, by kernel_rfl, rfl⟩
instance : INT Tryd.prog 2 .i64 := ⟨by kernel_rfl⟩
instance : TI Tryd.prog 2 1 8 false (.int .i64 0) := ⟨by kernel_rfl, by kernel_rfl, rfl⟩
instance : INT Tryd.prog 3 .i64 := ⟨by kernel_rfl⟩
instance : TI Tryd.prog 3 1 8 false (.int .i64 0) := ⟨by kernel_rfl, by kernel_rfl, rfl⟩
instance : TI Tryd.prog 4 1 1 false (.bool false) := ⟨by kernel_rfl, by kernel_rfl, rfl⟩
instance : INT Tryd.prog 5 .u8 := ⟨by kernel_rfl⟩
instance : TI Tryd.prog 5 1 1 false (.int .u8 0) := ⟨by kernel_rfl, by kernel_rfl, rfl⟩
instance : INT Tryd.prog 6 .u8 := ⟨by kernel_rfl⟩
instance : TI Tryd.prog 6 1 1 false (.int .u8 0) := ⟨by kernel_rfl, by kernel_rfl, rfl⟩
instance : SF Tryd.prog 7 [(2, 0), (3, 1), (4, 2), (6, 3)] := ⟨by kernel_rfl⟩
instance : FLD Tryd.prog 7 0 0 := ⟨fun w b o => by simp [Instr.fieldAt, Instr.sureAddr, fieldPlace, Addr.add]⟩
instance : FLD Tryd.prog 7 1 1 := ⟨fun w b o => by simp [Instr.fieldAt, Instr.sureAddr, fieldPlace, Addr.add]⟩
instance : FLD Tryd.prog 7 2 2 := ⟨fun w b o => by simp [Instr.fieldAt, Instr.sureAddr, fieldPlace, Addr.add]⟩
instance : FLD Tryd.prog 7 3 3 := ⟨fun w b o => by simp [Instr.fieldAt, Instr.sureAddr, fieldPlace, Addr.add]⟩
instance : TI Tryd.prog 7 4 24 true (.agg #[(.int .i64 0), (.int .i64 0), (.bool false), (.int .u8 0)]) := ⟨by kernel_rfl, by kernel_rfl, rfl⟩
instance : SF Tryd.prog 8 [(2, 0), (3, 1), (4, 2), (6, 3)] := ⟨by kernel_rfl⟩
instance : FLD Tryd.prog 8 0 0 := ⟨fun w b o => by simp [Instr.fieldAt, Instr.sureAddr, fieldPlace, Addr.add]⟩
instance : FLD Tryd.prog 8 1 1 := ⟨fun w b o => by simp [Instr.fieldAt, Instr.sureAddr, fieldPlace, Addr.add]⟩
instance : FLD Tryd.prog 8 2 2 := ⟨fun w b o => by simp [Instr.fieldAt, Instr.sureAddr, fieldPlace, Addr.add]⟩
instance : FLD Tryd.prog 8 3 3 := ⟨fun w b o => by simp [Instr.fieldAt, Instr.sureAddr, fieldPlace, Addr.add]⟩
instance : TI Tryd.prog 8 4 24 true (.agg #[(.int .i64 0), (.int .i64 0), (.bool false), (.int .u8 0)]) := ⟨by kernel_rfl, by kernel_rfl, rfl⟩
instance : STR Tryd.prog 9 := ⟨by kernel_rfl⟩
instance : TI Tryd.prog 9 1 16 false (.string { data := #[] }) := ⟨by kernel_rfl, by kernel_rfl, rfl⟩
instance : STR Tryd.prog 10 := ⟨by kernel_rfl⟩
instance : TI Tryd.prog 10 1 16 false (.string { data := #[] }) := ⟨by kernel_rfl, by kernel_rfl, rfl⟩
instance : STR Tryd.prog 11 := ⟨by kernel_rfl⟩
instance : TI Tryd.prog 11 1 16 false (.string { data := #[] }) := ⟨by kernel_rfl, by kernel_rfl, rfl⟩
instance : INT Tryd.prog 12 .u64 := ⟨by kernel_rfl⟩
instance : TI Tryd.prog 12 1 8 false (.int .u64 0) := ⟨by kernel_rfl, by kernel_rfl, rfl⟩
instance : SF Tryd.prog 13 [(9, 0), (12, 1)] := ⟨by kernel_rfl⟩
instance : FLD Tryd.prog 13 0 0 := ⟨fun w b o => by simp [Instr.fieldAt, Instr.sureAddr, fieldPlace, Addr.add]⟩
instance : FLD Tryd.prog 13 1 1 := ⟨fun w b o => by simp [Instr.fieldAt, Instr.sureAddr, fieldPlace, Addr.add]⟩
instance : TI Tryd.prog 13 2 24 true (.agg #[(.string { data := #[] }), (.int .u64 0)]) := ⟨by kernel_rfl, by kernel_rfl, rfl⟩
instance : SF Tryd.prog 14 [(9, 0), (12, 1)] := ⟨by kernel_rfl⟩
instance : FLD Tryd.prog 14 0 0 := ⟨fun w b o => by simp [Instr.fieldAt, Instr.sureAddr, fieldPlace, Addr.add]⟩
instance : FLD Tryd.prog 14 1 1 := ⟨fun w b o => by simp [Instr.fieldAt, Instr.sureAddr, fieldPlace, Addr.add]⟩
instance : TI Tryd.prog 14 2 24 true (.agg #[(.string { data := #[] }), (.int .u64 0)]) := ⟨by kernel_rfl, by kernel_rfl, rfl⟩
instance : TI Tryd.prog 15 1 8 false (.pointer none) := ⟨by kernel_rfl, by kernel_rfl, rfl⟩
instance : TI Tryd.prog 16 1 8 false (.pointer none) := ⟨by kernel_rfl, by kernel_rfl, rfl⟩
instance : TI Tryd.prog 17 1 8 false (.pointer none) := ⟨by kernel_rfl, by kernel_rfl, rfl⟩
instance : SF Tryd.prog 18 [(17, 0)] := ⟨by kernel_rfl⟩
instance : FLD Tryd.prog 18 0 0 := ⟨fun w b o => by simp [Instr.fieldAt, Instr.sureAddr, fieldPlace, Addr.add]⟩
instance : TI Tryd.prog 18 1 8 true (.agg #[(.pointer none)]) := ⟨by kernel_rfl, by kernel_rfl, rfl⟩
instance : SF Tryd.prog 19 [(17, 0)] := ⟨by kernel_rfl⟩
instance : FLD Tryd.prog 19 0 0 := ⟨fun w b o => by simp [Instr.fieldAt, Instr.sureAddr, fieldPlace, Addr.add]⟩
instance : TI Tryd.prog 19 1 8 true (.agg #[(.pointer none)]) := ⟨by kernel_rfl, by kernel_rfl, rfl⟩
instance : TI Tryd.prog 20 1 16 false .nilIface := ⟨by kernel_rfl, by kernel_rfl, rfl⟩
instance : INT Tryd.prog 21 .i32 := ⟨by kernel_rfl⟩
instance : TI Tryd.prog 21 1 4 false (.int .i32 0) := ⟨by kernel_rfl, by kernel_rfl, rfl⟩
instance : SL Tryd.prog 22 34 := ⟨by kernel_rfl⟩
instance : TI Tryd.prog 22 1 24 false (.slice none 0 0) := ⟨by kernel_rfl, by kernel_rfl, rfl⟩
instance : TI Tryd.prog 23 1 8 false (.pointer none) := ⟨by kernel_rfl, by kernel_rfl, rfl⟩
instance : TI Tryd.prog 24 1 8 false (.pointer none) := ⟨by kernel_rfl, by kernel_rfl, rfl⟩
instance : TI Tryd.prog 25 1 0 false (.tuple #[(.pointer none), (.pointer none)]) := ⟨by kernel_rfl, by kernel_rfl, rfl⟩
instance : TI Tryd.prog 26 1 8 false .nilFunc := ⟨by kernel_rfl, by kernel_rfl, rfl⟩
instance : ARR Tryd.prog 27 8 3 := ⟨by kernel_rfl⟩
instance : TI Tryd.prog 27 8 64 true (.agg (List.replicate 8 (.int .i64 0)).toArray) := ⟨by kernel_rfl, by kernel_rfl, by kernel_rfl⟩
instance : INT Tryd.prog 28 .i64 := ⟨by kernel_rfl⟩
instance : TI Tryd.prog 28 1 8 false (.int .i64 0) := ⟨by kernel_rfl, by kernel_rfl, rfl⟩
instance : SL Tryd.prog 29 58 := ⟨by kernel_rfl⟩
instance : TI Tryd.prog 29 1 24 false (.slice none 0 0) := ⟨by kernel_rfl, by kernel_rfl, rfl⟩
instance : SF Tryd.prog 30 [(28, 0), (3, 1), (29, 2)] := ⟨by kernel_rfl⟩
instance : FLD Tryd.prog 30 0 0 := ⟨fun w b o => by simp [Instr.fieldAt, Instr.sureAddr, fieldPlace, Addr.add]⟩
instance : FLD Tryd.prog 30 1 1 := ⟨fun w b o => by simp [Instr.fieldAt, Instr.sureAddr, fieldPlace, Addr.add]⟩
instance : FLD Tryd.prog 30 2 2 := ⟨fun w b o => by simp [Instr.fieldAt, Instr.sureAddr, fieldPlace, Addr.add]⟩
instance : TI Tryd.prog 30 3 40 true (.agg #[(.int .i64 0), (.int .i64 0), (.slice none 0 0)]) := ⟨by kernel_rfl, by kernel_rfl, rfl⟩
instance : SF Tryd.prog 31 [(28, 0), (3, 1), (29, 2)] := ⟨by kernel_rfl⟩
instance : FLD Tryd.prog 31 0 0 := ⟨fun w b o => by simp [Instr.fieldAt, Instr.sureAddr, fieldPlace, Addr.add]⟩
instance : FLD Tryd.prog 31 1 1 := ⟨fun w b o => by simp [Instr.fieldAt, Instr.sureAddr, fieldPlace, Addr.add]⟩
instance : FLD Tryd.prog 31 2 2 := ⟨fun w b o => by simp [Instr.fieldAt, Instr.sureAddr, fieldPlace, Addr.add]⟩
instance : TI Tryd.prog 31 3 40 true (.agg #[(.int .i64 0), (.int .i64 0), (.slice none 0 0)]) := ⟨by kernel_rfl, by kernel_rfl, rfl⟩
instance : ARR Tryd.prog 32 8 31 := ⟨by kernel_rfl⟩
instance : TI Tryd.prog 32 24 320 true (.agg #[(.int .i64 0), (.int .i64 0), (.slice none 0 0), (.int .i64 0), (.int .i64 0), (.slice none 0 0), (.int .i64 0), (.int .i64 0), (.slice none 0 0), (.int .i64 0), (.int .i64 0), (.slice none 0 0), (.int .i64 0), (.int .i64 0), (.slice none 0 0), (.int .i64 0), (.int .i64 0), (.slice none 0 0), (.int .i64 0), (.int .i64 0), (.slice none 0 0), (.int .i64 0), (.int .i64 0), (.slice none 0 0)]) := ⟨by kernel_rfl, by kernel_rfl, rfl⟩
instance : SF Tryd.prog 33 [(3, 0), (3, 1), (3, 2), (31, 3)] := ⟨by kernel_rfl⟩
instance : FLD Tryd.prog 33 0 0 := ⟨fun w b o => by simp [Instr.fieldAt, Instr.sureAddr, fieldPlace, Addr.add]⟩
instance : FLD Tryd.prog 33 1 1 := ⟨fun w b o => by simp [Instr.fieldAt, Instr.sureAddr, fieldPlace, Addr.add]⟩
instance : FLD Tryd.prog 33 2 2 := ⟨fun w b o => by simp [Instr.fieldAt, Instr.sureAddr, fieldPlace, Addr.add]⟩
instance : FLD Tryd.prog 33 3 3 := ⟨fun w b o => by simp [Instr.fieldAt, Instr.sureAddr, fieldPlace, Addr.add]⟩
instance : TI Tryd.prog 33 6 64 true (.agg #[(.int .i64 0), (.int .i64 0), (.int .i64 0), (.int .i64 0), (.int .i64 0), (.slice none 0 0)]) := ⟨by kernel_rfl, by kernel_rfl, rfl⟩
instance : SF Tryd.prog 34 [(3, 0), (3, 1), (3, 2), (31, 3)] := ⟨by kernel_rfl⟩
instance : FLD Tryd.prog 34 0 0 := ⟨fun w b o => by simp [Instr.fieldAt, Instr.sureAddr, fieldPlace, Addr.add]⟩
instance : FLD Tryd.prog 34 1 1 := ⟨fun w b o => by simp [Instr.fieldAt, Instr.sureAddr, fieldPlace, Addr.add]⟩
instance : FLD Tryd.prog 34 2 2 := ⟨fun w b o => by simp [Instr.fieldAt, Instr.sureAddr, fieldPlace, Addr.add]⟩
instance : FLD Tryd.prog 34 3 3 := ⟨fun w b o => by simp [Instr.fieldAt, Instr.sureAddr, fieldPlace, Addr.add]⟩
instance : TI Tryd.prog 34 6 64 true (.agg #[(.int .i64 0), (.int .i64 0), (.int .i64 0), (.int .i64 0), (.int .i64 0), (.slice none 0 0)]) := ⟨by kernel_rfl, by kernel_rfl, rfl⟩
instance : TI Tryd.prog 35 1 8 false .nilFunc := ⟨by kernel_rfl, by kernel_rfl, rfl⟩
instance : TI Tryd.prog 36 1 8 false .nilFunc := ⟨by kernel_rfl, by kernel_rfl, rfl⟩
instance : TI Tryd.prog 37 1 0 false (.tuple #[(.int .i64 0), (.agg #[(.int .i64 0), (.int .i64 0), (.slice none 0 0)]), (.int .i64 0)]) := ⟨by kernel_rfl, by kernel_rfl, rfl⟩
instance : TI Tryd.prog 38 1 8 false .nilFunc := ⟨by kernel_rfl, by kernel_rfl, rfl⟩
instance : TI Tryd.prog 39 1 8 false .nilFunc := ⟨by kernel_rfl, by kernel_rfl, rfl⟩
instance : TI Tryd.prog 40 1 0 false (.tuple #[(.int .i64 0), (.int .i64 0)]) := ⟨by kernel_rfl, by kernel_rfl, rfl⟩
instance : TI Tryd.prog 41 1 8 false .nilFunc := ⟨by kernel_rfl, by kernel_rfl, rfl⟩
instance : TI Tryd.prog 42 1 8 false .nilFunc := ⟨by kernel_rfl, by kernel_rfl, rfl⟩
instance : TI Tryd.prog 43 1 8 false .nilFunc := ⟨by kernel_rfl, by kernel_rfl, rfl⟩
instance : TI Tryd.prog 44 1 8 false .nilFunc := ⟨by kernel_rfl, by kernel_rfl, rfl⟩
instance : TI Tryd.prog 45 1 8 false (.pointer none) := ⟨by kernel_rfl, by kernel_rfl, rfl⟩
instance : TI Tryd.prog 46 1 0 false (.tuple #[(.pointer none), (.int .i64 0)]) := ⟨by kernel_rfl, by kernel_rfl, rfl⟩
instance : TI Tryd.prog 47 1 8 false .nilFunc := ⟨by kernel_rfl, by kernel_rfl, rfl⟩
instance : TI Tryd.prog 48 1 0 false (.tuple #[(.pointer none), (.int .i64 0)]) := ⟨by kernel_rfl, by kernel_rfl, rfl⟩
instance : TI Tryd.prog 49 1 8 false .nilFunc := ⟨by kernel_rfl, by kernel_rfl, rfl⟩
instance : TI Tryd.prog 50 1 0 false (.tuple #[(.pointer none), (.int .i64 0)]) := ⟨by kernel_rfl, by kernel_rfl, rfl⟩
instance : TI Tryd.prog 51 1 8 false .nilFunc := ⟨by kernel_rfl, by kernel_rfl, rfl⟩
instance : SL Tryd.prog 52 5 := ⟨by kernel_rfl⟩
instance : TI Tryd.prog 52 1 24 false (.slice none 0 0) := ⟨by kernel_rfl, by kernel_rfl, rfl⟩
instance : TI Tryd.prog 53 1 0 false (.tuple #[(.slice none 0 0), (.int .i64 0)]) := ⟨by kernel_rfl, by kernel_rfl, rfl⟩
instance : TI Tryd.prog 54 1 8 false .nilFunc := ⟨by kernel_rfl, by kernel_rfl, rfl⟩
instance : TI Tryd.prog 55 1 8 false .nilFunc := ⟨by kernel_rfl, by kernel_rfl, rfl⟩
instance : TI Tryd.prog 56 1 8 false .nilFunc := ⟨by kernel_rfl, by kernel_rfl, rfl⟩
instance : TI Tryd.prog 57 1 8 false .nilFunc := ⟨by kernel_rfl, by kernel_rfl, rfl⟩
instance : SL Tryd.prog 58 92 := ⟨by kernel_rfl⟩
instance : TI Tryd.prog 58 1 24 false (.slice none 0 0) := ⟨by kernel_rfl, by kernel_rfl, rfl⟩
instance : TI Tryd.prog 59 1 8 false .nilFunc := ⟨by kernel_rfl, by kernel_rfl, rfl⟩
instance : TI Tryd.prog 60 1 8 false .nilFunc := ⟨by kernel_rfl, by kernel_rfl, rfl⟩
instance : TI Tryd.prog 61 1 8 false .nilFunc := ⟨by kernel_rfl, by kernel_rfl, rfl⟩
instance : MPT Tryd.prog 62 3 52 := ⟨by kernel_rfl⟩
instance : TI Tryd.prog 62 1 8 false (.map none) := ⟨by kernel_rfl, by kernel_rfl, rfl⟩
instance : SL Tryd.prog 63 174 := ⟨by kernel_rfl⟩
instance : TI Tryd.prog 63 1 24 false (.slice none 0 0) := ⟨by kernel_rfl, by kernel_rfl, rfl⟩
instance : INT Tryd.prog 64 .u64 := ⟨by kernel_rfl⟩
instance : TI Tryd.prog 64 1 8 false (.int .u64 0) := ⟨by kernel_rfl, by kernel_rfl, rfl⟩
instance : SF Tryd.prog 65 [(3, 0), (64, 1), (3, 2), (3, 3)] := ⟨by kernel_rfl⟩
instance : FLD Tryd.prog 65 0 0 := ⟨fun w b o => by simp [Instr.fieldAt, Instr.sureAddr, fieldPlace, Addr.add]⟩
instance : FLD Tryd.prog 65 1 1 := ⟨fun w b o => by simp [Instr.fieldAt, Instr.sureAddr, fieldPlace, Addr.add]⟩
instance : FLD Tryd.prog 65 2 2 := ⟨fun w b o => by simp [Instr.fieldAt, Instr.sureAddr, fieldPlace, Addr.add]⟩
instance : FLD Tryd.prog 65 3 3 := ⟨fun w b o => by simp [Instr.fieldAt, Instr.sureAddr, fieldPlace, Addr.add]⟩
instance : TI Tryd.prog 65 4 32 true (.agg #[(.int .i64 0), (.int .u64 0), (.int .i64 0), (.int .i64 0)]) := ⟨by kernel_rfl, by kernel_rfl, rfl⟩
instance : SF Tryd.prog 66 [(3, 0), (64, 1), (3, 2), (3, 3)] := ⟨by kernel_rfl⟩
instance : FLD Tryd.prog 66 0 0 := ⟨fun w b o => by simp [Instr.fieldAt, Instr.sureAddr, fieldPlace, Addr.add]⟩
instance : FLD Tryd.prog 66 1 1 := ⟨fun w b o => by simp [Instr.fieldAt, Instr.sureAddr, fieldPlace, Addr.add]⟩
instance : FLD Tryd.prog 66 2 2 := ⟨fun w b o => by simp [Instr.fieldAt, Instr.sureAddr, fieldPlace, Addr.add]⟩
instance : FLD Tryd.prog 66 3 3 := ⟨fun w b o => by simp [Instr.fieldAt, Instr.sureAddr, fieldPlace, Addr.add]⟩
instance : TI Tryd.prog 66 4 32 true (.agg #[(.int .i64 0), (.int .u64 0), (.int .i64 0), (.int .i64 0)]) := ⟨by kernel_rfl, by kernel_rfl, rfl⟩
instance : SF Tryd.prog 67 [(3, 0), (62, 1), (63, 2), (4, 3), (3, 4), (66, 5)] := ⟨by kernel_rfl⟩
instance : FLD Tryd.prog 67 0 0 := ⟨fun w b o => by simp [Instr.fieldAt, Instr.sureAddr, fieldPlace, Addr.add]⟩
instance : FLD Tryd.prog 67 1 1 := ⟨fun w b o => by simp [Instr.fieldAt, Instr.sureAddr, fieldPlace, Addr.add]⟩
instance : FLD Tryd.prog 67 2 2 := ⟨fun w b o => by simp [Instr.fieldAt, Instr.sureAddr, fieldPlace, Addr.add]⟩
instance : FLD Tryd.prog 67 3 3 := ⟨fun w b o => by simp [Instr.fieldAt, Instr.sureAddr, fieldPlace, Addr.add]⟩
instance : FLD Tryd.prog 67 4 4 := ⟨fun w b o => by simp [Instr.fieldAt, Instr.sureAddr, fieldPlace, Addr.add]⟩
instance : FLD Tryd.prog 67 5 5 := ⟨fun w b o => by simp [Instr.fieldAt, Instr.sureAddr, fieldPlace, Addr.add]⟩
instance : TI Tryd.prog 67 9 88 true (.agg #[(.int .i64 0), (.map none), (.slice none 0 0), (.bool false), (.int .i64 0), (.int .i64 0), (.int .u64 0), (.int .i64 0), (.int .i64 0)]) := ⟨by kernel_rfl, by kernel_rfl, rfl⟩
instance : SF Tryd.prog 68 [(3, 0), (62, 1), (63, 2), (4, 3), (3, 4), (66, 5)] := ⟨by kernel_rfl⟩
instance : FLD Tryd.prog 68 0 0 := ⟨fun w b o => by simp [Instr.fieldAt, Instr.sureAddr, fieldPlace, Addr.add]⟩
instance : FLD Tryd.prog 68 1 1 := ⟨fun w b o => by simp [Instr.fieldAt, Instr.sureAddr, fieldPlace, Addr.add]⟩
instance : FLD Tryd.prog 68 2 2 := ⟨fun w b o => by simp [Instr.fieldAt, Instr.sureAddr, fieldPlace, Addr.add]⟩
instance : FLD Tryd.prog 68 3 3 := ⟨fun w b o => by simp [Instr.fieldAt, Instr.sureAddr, fieldPlace, Addr.add]⟩
instance : FLD Tryd.prog 68 4 4 := ⟨fun w b o => by simp [Instr.fieldAt, Instr.sureAddr, fieldPlace, Addr.add]⟩
instance : FLD Tryd.prog 68 5 5 := ⟨fun w b o => by simp [Instr.fieldAt, Instr.sureAddr, fieldPlace, Addr.add]⟩
instance : TI Tryd.prog 68 9 88 true (.agg #[(.int .i64 0), (.map none), (.slice none 0 0), (.bool false), (.int .i64 0), (.int .i64 0), (.int .u64 0), (.int .i64 0), (.int .i64 0)]) := ⟨by kernel_rfl, by kernel_rfl, rfl⟩
instance : TI Tryd.prog 69 1 8 false (.pointer none) := ⟨by kernel_rfl, by kernel_rfl, rfl⟩
instance : TI Tryd.prog 70 1 0 false (.tuple #[(.pointer none), (.int .i64 0)]) := ⟨by kernel_rfl, by kernel_rfl, rfl⟩
instance : TI Tryd.prog 71 1 8 false .nilFunc := ⟨by kernel_rfl, by kernel_rfl, rfl⟩
instance : ARR Tryd.prog 72 16 3 := ⟨by kernel_rfl⟩
instance : TI Tryd.prog 72 16 128 true (.agg (List.replicate 16 (.int .i64 0)).toArray) := ⟨by kernel_rfl, by kernel_rfl, by kernel_rfl⟩
instance : SF Tryd.prog 73 [(69, 0), (3, 1), (72, 2)] := ⟨by kernel_rfl⟩
instance : FLD Tryd.prog 73 0 0 := ⟨fun w b o => by simp [Instr.fieldAt, Instr.sureAddr, fieldPlace, Addr.add]⟩
instance : FLD Tryd.prog 73 1 1 := ⟨fun w b o => by simp [Instr.fieldAt, Instr.sureAddr, fieldPlace, Addr.add]⟩
instance : FLD Tryd.prog 73 2 2 := ⟨fun w b o => by simp [Instr.fieldAt, Instr.sureAddr, fieldPlace, Addr.add]⟩
instance : TI Tryd.prog 73 18 144 true (.agg #[(.pointer none), (.int .i64 0), (.int .i64 0), (.int .i64 0), (.int .i64 0), (.int .i64 0), (.int .i64 0), (.int .i64 0), (.int .i64 0), (.int .i64 0), (.int .i64 0), (.int .i64 0), (.int .i64 0), (.int .i64 0), (.int .i64 0), (.int .i64 0), (.int .i64 0), (.int .i64 0)]) := ⟨by kernel_rfl, by kernel_rfl, rfl⟩
instance : SF Tryd.prog 74 [(69, 0), (3, 1), (72, 2)] := ⟨by kernel_rfl⟩
instance : FLD Tryd.prog 74 0 0 := ⟨fun w b o => by simp [Instr.fieldAt, Instr.sureAddr, fieldPlace, Addr.add]⟩
instance : FLD Tryd.prog 74 1 1 := ⟨fun w b o => by simp [Instr.fieldAt, Instr.sureAddr, fieldPlace, Addr.add]⟩
instance : FLD Tryd.prog 74 2 2 := ⟨fun w b o => by simp [Instr.fieldAt, Instr.sureAddr, fieldPlace, Addr.add]⟩
instance : TI Tryd.prog 74 18 144 true (.agg #[(.pointer none), (.int .i64 0), (.int .i64 0), (.int .i64 0), (.int .i64 0), (.int .i64 0), (.int .i64 0), (.int .i64 0), (.int .i64 0), (.int .i64 0), (.int .i64 0), (.int .i64 0), (.int .i64 0), (.int .i64 0), (.int .i64 0), (.int .i64 0), (.int .i64 0), (.int .i64 0)]) := ⟨by kernel_rfl, by kernel_rfl, rfl⟩
instance : SL Tryd.prog 75 79 := ⟨by kernel_rfl⟩
instance : TI Tryd.prog 75 1 24 false (.slice none 0 0) := ⟨by kernel_rfl, by kernel_rfl, rfl⟩
instance : TI Tryd.prog 76 1 0 false (.tuple #[(.slice none 0 0), (.int .i64 0)]) := ⟨by kernel_rfl, by kernel_rfl, rfl⟩
instance : TI Tryd.prog 77 1 8 false .nilFunc := ⟨by kernel_rfl, by kernel_rfl, rfl⟩
instance : SF Tryd.prog 78 [(3, 0), (52, 1), (52, 2)] := ⟨by kernel_rfl⟩
instance : FLD Tryd.prog 78 0 0 := ⟨fun w b o => by simp [Instr.fieldAt, Instr.sureAddr, fieldPlace, Addr.add]⟩
instance : FLD Tryd.prog 78 1 1 := ⟨fun w b o => by simp [Instr.fieldAt, Instr.sureAddr, fieldPlace, Addr.add]⟩
instance : FLD Tryd.prog 78 2 2 := ⟨fun w b o => by simp [Instr.fieldAt, Instr.sureAddr, fieldPlace, Addr.add]⟩
instance : TI Tryd.prog 78 3 56 true (.agg #[(.int .i64 0), (.slice none 0 0), (.slice none 0 0)]) := ⟨by kernel_rfl, by kernel_rfl, rfl⟩
instance : SF Tryd.prog 79 [(3, 0), (52, 1), (52, 2)] := ⟨by kernel_rfl⟩
instance : FLD Tryd.prog 79 0 0 := ⟨fun w b o => by simp [Instr.fieldAt, Instr.sureAddr, fieldPlace, Addr.add]⟩
instance : FLD Tryd.prog 79 1 1 := ⟨fun w b o => by simp [Instr.fieldAt, Instr.sureAddr, fieldPlace, Addr.add]⟩
instance : FLD Tryd.prog 79 2 2 := ⟨fun w b o => by simp [Instr.fieldAt, Instr.sureAddr, fieldPlace, Addr.add]⟩
instance : TI Tryd.prog 79 3 56 true (.agg #[(.int .i64 0), (.slice none 0 0), (.slice none 0 0)]) := ⟨by kernel_rfl, by kernel_rfl, rfl⟩
instance : TI Tryd.prog 80 1 0 false (.tuple #[(.int .i64 0), (.int .i64 0), (.int .i64 0)]) := ⟨by kernel_rfl, by kernel_rfl, rfl⟩
instance : TI Tryd.prog 81 1 8 false .nilFunc := ⟨by kernel_rfl, by kernel_rfl, rfl⟩
instance : SL Tryd.prog 82 88 := ⟨by kernel_rfl⟩
instance : TI Tryd.prog 82 1 24 false (.slice none 0 0) := ⟨by kernel_rfl, by kernel_rfl, rfl⟩
instance : SF Tryd.prog 83 [(24, 0), (82, 1)] := ⟨by kernel_rfl⟩
instance : FLD Tryd.prog 83 0 0 := ⟨fun w b o => by simp [Instr.fieldAt, Instr.sureAddr, fieldPlace, Addr.add]⟩
instance : FLD Tryd.prog 83 1 1 := ⟨fun w b o => by simp [Instr.fieldAt, Instr.sureAddr, fieldPlace, Addr.add]⟩
instance : TI Tryd.prog 83 2 32 true (.agg #[(.pointer none), (.slice none 0 0)]) := ⟨by kernel_rfl, by kernel_rfl, rfl⟩
instance : SF Tryd.prog 84 [(24, 0), (82, 1)] := ⟨by kernel_rfl⟩
instance : FLD Tryd.prog 84 0 0 := ⟨fun w b o => by simp [Instr.fieldAt, Instr.sureAddr, fieldPlace, Addr.add]⟩
instance : FLD Tryd.prog 84 1 1 := ⟨fun w b o => by simp [Instr.fieldAt, Instr.sureAddr, fieldPlace, Addr.add]⟩
instance : TI Tryd.prog 84 2 32 true (.agg #[(.pointer none), (.slice none 0 0)]) := ⟨by kernel_rfl, by kernel_rfl, rfl⟩
instance : TI Tryd.prog 85 1 8 false .nilFunc := ⟨by kernel_rfl, by kernel_rfl, rfl⟩
instance : TI Tryd.prog 86 1 8 false .nilFunc := ⟨by kernel_rfl, by kernel_rfl, rfl⟩
instance : SF Tryd.prog 87 [(79, 0), (4, 3)] := ⟨by kernel_rfl⟩
instance : FLD Tryd.prog 87 0 0 := ⟨fun w b o => by simp [Instr.fieldAt, Instr.sureAddr, fieldPlace, Addr.add]⟩
instance : FLD Tryd.prog 87 1 3 := ⟨fun w b o => by simp [Instr.fieldAt, Instr.sureAddr, fieldPlace, Addr.add]⟩
instance : TI Tryd.prog 87 4 64 true (.agg #[(.int .i64 0), (.slice none 0 0), (.slice none 0 0), (.bool false)]) := ⟨by kernel_rfl, by kernel_rfl, rfl⟩
instance : SF Tryd.prog 88 [(79, 0), (4, 3)] := ⟨by kernel_rfl⟩
instance : FLD Tryd.prog 88 0 0 := ⟨fun w b o => by simp [Instr.fieldAt, Instr.sureAddr, fieldPlace, Addr.add]⟩
instance : FLD Tryd.prog 88 1 3 := ⟨fun w b o => by simp [Instr.fieldAt, Instr.sureAddr, fieldPlace, Addr.add]⟩
instance : TI Tryd.prog 88 4 64 true (.agg #[(.int .i64 0), (.slice none 0 0), (.slice none 0 0), (.bool false)]) := ⟨by kernel_rfl, by kernel_rfl, rfl⟩
instance : INT Tryd.prog 89 .u64 := ⟨by kernel_rfl⟩
instance : TI Tryd.prog 89 1 8 false (.int .u64 0) := ⟨by kernel_rfl, by kernel_rfl, rfl⟩
instance : TI Tryd.prog 90 1 8 false .nilFunc := ⟨by kernel_rfl, by kernel_rfl, rfl⟩
instance : SF Tryd.prog 91 [(3, 0), (3, 1), (9, 2)] := ⟨by kernel_rfl⟩
instance : FLD Tryd.prog 91 0 0 := ⟨fun w b o => by simp [Instr.fieldAt, Instr.sureAddr, fieldPlace, Addr.add]⟩
instance : FLD Tryd.prog 91 1 1 := ⟨fun w b o => by simp [Instr.fieldAt, Instr.sureAddr, fieldPlace, Addr.add]⟩
instance : FLD Tryd.prog 91 2 2 := ⟨fun w b o => by simp [Instr.fieldAt, Instr.sureAddr, fieldPlace, Addr.add]⟩
instance : TI Tryd.prog 91 3 32 true (.agg #[(.int .i64 0), (.int .i64 0), (.string { data := #[] })]) := ⟨by kernel_rfl, by kernel_rfl, rfl⟩
instance : SF Tryd.prog 92 [(3, 0), (3, 1), (9, 2)] := ⟨by kernel_rfl⟩
instance : FLD Tryd.prog 92 0 0 := ⟨fun w b o => by simp [Instr.fieldAt, Instr.sureAddr, fieldPlace, Addr.add]⟩
instance : FLD Tryd.prog 92 1 1 := ⟨fun w b o => by simp [Instr.fieldAt, Instr.sureAddr, fieldPlace, Addr.add]⟩
instance : FLD Tryd.prog 92 2 2 := ⟨fun w b o => by simp [Instr.fieldAt, Instr.sureAddr, fieldPlace, Addr.add]⟩
instance : TI Tryd.prog 92 3 32 true (.agg #[(.int .i64 0), (.int .i64 0), (.string { data := #[] })]) := ⟨by kernel_rfl, by kernel_rfl, rfl⟩
instance : TI Tryd.prog 93 1 0 false (.tuple #[(.slice none 0 0), (.bool false), (.int .i64 0)]) := ⟨by kernel_rfl, by kernel_rfl, rfl⟩
instance : TI Tryd.prog 94 1 8 false .nilFunc := ⟨by kernel_rfl, by kernel_rfl, rfl⟩
instance : TI Tryd.prog 95 1 0 false (.tuple #[(.agg #[(.int .i64 0), (.int .i64 0), (.slice none 0 0)]), (.int .i64 0)]) := ⟨by kernel_rfl, by kernel_rfl, rfl⟩
instance : TI Tryd.prog 96 1 8 false .nilFunc := ⟨by kernel_rfl, by kernel_rfl, rfl⟩
instance : TI Tryd.prog 97 1 8 false .nilFunc := ⟨by kernel_rfl, by kernel_rfl, rfl⟩
instance : TI Tryd.prog 98 1 8 false (.pointer none) := ⟨by kernel_rfl, by kernel_rfl, rfl⟩
instance : TI Tryd.prog 99 1 0 false (.tuple #[(.pointer none), (.int .i64 0)]) := ⟨by kernel_rfl, by kernel_rfl, rfl⟩
instance : TI Tryd.prog 100 1 8 false .nilFunc := ⟨by kernel_rfl, by kernel_rfl, rfl⟩
instance : MPT Tryd.prog 101 3 3 := ⟨by kernel_rfl⟩
instance : TI Tryd.prog 101 1 8 false (.map none) := ⟨by kernel_rfl, by kernel_rfl, rfl⟩
instance : SF Tryd.prog 102 [(20, 0), (3, 1), (3, 2)] := ⟨by kernel_rfl⟩
instance : FLD Tryd.prog 102 0 0 := ⟨fun w b o => by simp [Instr.fieldAt, Instr.sureAddr, fieldPlace, Addr.add]⟩
instance : FLD Tryd.prog 102 1 1 := ⟨fun w b o => by simp [Instr.fieldAt, Instr.sureAddr, fieldPlace, Addr.add]⟩
instance : FLD Tryd.prog 102 2 2 := ⟨fun w b o => by simp [Instr.fieldAt, Instr.sureAddr, fieldPlace, Addr.add]⟩
instance : TI Tryd.prog 102 3 32 true (.agg #[.nilIface, (.int .i64 0), (.int .i64 0)]) := ⟨by kernel_rfl, by kernel_rfl, rfl⟩
instance : SF Tryd.prog 103 [(20, 0), (3, 1), (3, 2)] := ⟨by kernel_rfl⟩
instance : FLD Tryd.prog 103 0 0 := ⟨fun w b o => by simp [Instr.fieldAt, Instr.sureAddr, fieldPlace, Addr.add]⟩
instance : FLD Tryd.prog 103 1 1 := ⟨fun w b o => by simp [Instr.fieldAt, Instr.sureAddr, fieldPlace, Addr.add]⟩
instance : FLD Tryd.prog 103 2 2 := ⟨fun w b o => by simp [Instr.fieldAt, Instr.sureAddr, fieldPlace, Addr.add]⟩
instance : TI Tryd.prog 103 3 32 true (.agg #[.nilIface, (.int .i64 0), (.int .i64 0)]) := ⟨by kernel_rfl, by kernel_rfl, rfl⟩
instance : SL Tryd.prog 104 3 := ⟨by kernel_rfl⟩
instance : TI Tryd.prog 104 1 24 false (.slice none 0 0) := ⟨by kernel_rfl, by kernel_rfl, rfl⟩
instance : SL Tryd.prog 105 223 := ⟨by kernel_rfl⟩
instance : TI Tryd.prog 105 1 24 false (.slice none 0 0) := ⟨by kernel_rfl, by kernel_rfl, rfl⟩
instance : SF Tryd.prog 106 [(98, 0), (103, 1), (103, 4), (101, 7), (104, 8), (105, 9), (101, 10)] := ⟨by kernel_rfl⟩
instance : FLD Tryd.prog 106 0 0 := ⟨fun w b o => by simp [Instr.fieldAt, Instr.sureAddr, fieldPlace, Addr.add]⟩
instance : FLD Tryd.prog 106 1 1 := ⟨fun w b o => by simp [Instr.fieldAt, Instr.sureAddr, fieldPlace, Addr.add]⟩
instance : FLD Tryd.prog 106 2 4 := ⟨fun w b o => by simp [Instr.fieldAt, Instr.sureAddr, fieldPlace, Addr.add]⟩
instance : FLD Tryd.prog 106 3 7 := ⟨fun w b o => by simp [Instr.fieldAt, Instr.sureAddr, fieldPlace, Addr.add]⟩
instance : FLD Tryd.prog 106 4 8 := ⟨fun w b o => by simp [Instr.fieldAt, Instr.sureAddr, fieldPlace, Addr.add]⟩
instance : FLD Tryd.prog 106 5 9 := ⟨fun w b o => by simp [Instr.fieldAt, Instr.sureAddr, fieldPlace, Addr.add]⟩
instance : FLD Tryd.prog 106 6 10 := ⟨fun w b o => by simp [Instr.fieldAt, Instr.sureAddr, fieldPlace, Addr.add]⟩
instance : TI Tryd.prog 106 11 136 true (.agg #[(.pointer none), .nilIface, (.int .i64 0), (.int .i64 0), .nilIface, (.int .i64 0), (.int .i64 0), (.map none), (.slice none 0 0), (.slice none 0 0), (.map none)]) := ⟨by kernel_rfl, by kernel_rfl, rfl⟩
instance : SF Tryd.prog 107 [(98, 0), (103, 1), (103, 4), (101, 7), (104, 8), (105, 9), (101, 10)] := ⟨by kernel_rfl⟩
instance : FLD Tryd.prog 107 0 0 := ⟨fun w b o => by simp [Instr.fieldAt, Instr.sureAddr, fieldPlace, Addr.add]⟩
instance : FLD Tryd.prog 107 1 1 := ⟨fun w b o => by simp [Instr.fieldAt, Instr.sureAddr, fieldPlace, Addr.add]⟩
instance : FLD Tryd.prog 107 2 4 := ⟨fun w b o => by simp [Instr.fieldAt, Instr.sureAddr, fieldPlace, Addr.add]⟩
instance : FLD Tryd.prog 107 3 7 := ⟨fun w b o => by simp [Instr.fieldAt, Instr.sureAddr, fieldPlace, Addr.add]⟩
instance : FLD Tryd.prog 107 4 8 := ⟨fun w b o => by simp [Instr.fieldAt, Instr.sureAddr, fieldPlace, Addr.add]⟩
instance : FLD Tryd.prog 107 5 9 := ⟨fun w b o => by simp [Instr.fieldAt, Instr.sureAddr, fieldPlace, Addr.add]⟩
instance : FLD Tryd.prog 107 6 10 := ⟨fun w b o => by simp [Instr.fieldAt, Instr.sureAddr, fieldPlace, Addr.add]⟩
instance : TI Tryd.prog 107 11 136 true (.agg #[(.pointer none), .nilIface, (.int .i64 0), (.int .i64 0), .nilIface, (.int .i64 0), (.int .i64 0), (.map none), (.slice none 0 0), (.slice none 0 0), (.map none)]) := ⟨by kernel_rfl, by kernel_rfl, rfl⟩
instance : TI Tryd.prog 108 1 8 false .nilFunc := ⟨by kernel_rfl, by kernel_rfl, rfl⟩
instance : TI Tryd.prog 109 1 8 false .nilFunc := ⟨by kernel_rfl, by kernel_rfl, rfl⟩
instance : TI Tryd.prog 110 1 8 false (.pointer none) := ⟨by kernel_rfl, by kernel_rfl, rfl⟩
instance : TI Tryd.prog 111 1 0 false (.tuple #[(.int .i64 0), (.int .i64 0)]) := ⟨by kernel_rfl, by kernel_rfl, rfl⟩
instance : TI Tryd.prog 112 1 8 false (.pointer none) := ⟨by kernel_rfl, by kernel_rfl, rfl⟩
instance : SF Tryd.prog 113 [(69, 0), (101, 1)] := ⟨by kernel_rfl⟩
instance : FLD Tryd.prog 113 0 0 := ⟨fun w b o => by simp [Instr.fieldAt, Instr.sureAddr, fieldPlace, Addr.add]⟩
instance : FLD Tryd.prog 113 1 1 := ⟨fun w b o => by simp [Instr.fieldAt, Instr.sureAddr, fieldPlace, Addr.add]⟩
instance : TI Tryd.prog 113 2 16 true (.agg #[(.pointer none), (.map none)]) := ⟨by kernel_rfl, by kernel_rfl, rfl⟩
instance : SF Tryd.prog 114 [(69, 0), (101, 1)] := ⟨by kernel_rfl⟩
instance : FLD Tryd.prog 114 0 0 := ⟨fun w b o => by simp [Instr.fieldAt, Instr.sureAddr, fieldPlace, Addr.add]⟩
instance : FLD Tryd.prog 114 1 1 := ⟨fun w b o => by simp [Instr.fieldAt, Instr.sureAddr, fieldPlace, Addr.add]⟩
instance : TI Tryd.prog 114 2 16 true (.agg #[(.pointer none), (.map none)]) := ⟨by kernel_rfl, by kernel_rfl, rfl⟩
instance : TI Tryd.prog 115 1 8 false .nilFunc := ⟨by kernel_rfl, by kernel_rfl, rfl⟩
instance : TI Tryd.prog 116 1 8 false .nilFunc := ⟨by kernel_rfl, by kernel_rfl, rfl⟩
instance : TI Tryd.prog 117 1 8 false .nilFunc := ⟨by kernel_rfl, by kernel_rfl, rfl⟩
instance : TI Tryd.prog 118 1 8 false .nilFunc := ⟨by kernel_rfl, by kernel_rfl, rfl⟩
instance : TI Tryd.prog 119 1 8 false .nilFunc := ⟨by kernel_rfl, by kernel_rfl, rfl⟩
instance : TI Tryd.prog 120 1 8 false .nilFunc := ⟨by kernel_rfl, by kernel_rfl, rfl⟩
instance : TI Tryd.prog 121 1 8 false .nilFunc := ⟨by kernel_rfl, by kernel_rfl, rfl⟩
instance : TI Tryd.prog 122 1 0 false (.tuple #[(.agg #[(.int .i64 0), (.slice none 0 0), (.slice none 0 0), (.bool false)]), (.bool false)]) := ⟨by kernel_rfl, by kernel_rfl, rfl⟩
instance : TI Tryd.prog 123 1 8 false .nilFunc := ⟨by kernel_rfl, by kernel_rfl, rfl⟩
instance : TI Tryd.prog 124 1 8 false (.pointer none) := ⟨by kernel_rfl, by kernel_rfl, rfl⟩
instance : SF Tryd.prog 125 [(52, 0), (3, 1), (4, 2)] := ⟨by kernel_rfl⟩
instance : FLD Tryd.prog 125 0 0 := ⟨fun w b o => by simp [Instr.fieldAt, Instr.sureAddr, fieldPlace, Addr.add]⟩
instance : FLD Tryd.prog 125 1 1 := ⟨fun w b o => by simp [Instr.fieldAt, Instr.sureAddr, fieldPlace, Addr.add]⟩
instance : FLD Tryd.prog 125 2 2 := ⟨fun w b o => by simp [Instr.fieldAt, Instr.sureAddr, fieldPlace, Addr.add]⟩
instance : TI Tryd.prog 125 3 40 true (.agg #[(.slice none 0 0), (.int .i64 0), (.bool false)]) := ⟨by kernel_rfl, by kernel_rfl, rfl⟩
instance : SF Tryd.prog 126 [(52, 0), (3, 1), (4, 2)] := ⟨by kernel_rfl⟩
instance : FLD Tryd.prog 126 0 0 := ⟨fun w b o => by simp [Instr.fieldAt, Instr.sureAddr, fieldPlace, Addr.add]⟩
instance : FLD Tryd.prog 126 1 1 := ⟨fun w b o => by simp [Instr.fieldAt, Instr.sureAddr, fieldPlace, Addr.add]⟩
instance : FLD Tryd.prog 126 2 2 := ⟨fun w b o => by simp [Instr.fieldAt, Instr.sureAddr, fieldPlace, Addr.add]⟩
instance : TI Tryd.prog 126 3 40 true (.agg #[(.slice none 0 0), (.int .i64 0), (.bool false)]) := ⟨by kernel_rfl, by kernel_rfl, rfl⟩
instance : TI Tryd.prog 127 1 8 false .nilFunc := ⟨by kernel_rfl, by kernel_rfl, rfl⟩
instance : TI Tryd.prog 128 1 8 false .nilFunc := ⟨by kernel_rfl, by kernel_rfl, rfl⟩
instance : SF Tryd.prog 129 [(3, 0), (101, 1)] := ⟨by kernel_rfl⟩
instance : FLD Tryd.prog 129 0 0 := ⟨fun w b o => by simp [Instr.fieldAt, Instr.sureAddr, fieldPlace, Addr.add]⟩
instance : FLD Tryd.prog 129 1 1 := ⟨fun w b o => by simp [Instr.fieldAt, Instr.sureAddr, fieldPlace, Addr.add]⟩
instance : TI Tryd.prog 129 2 16 true (.agg #[(.int .i64 0), (.map none)]) := ⟨by kernel_rfl, by kernel_rfl, rfl⟩
instance : SF Tryd.prog 130 [(3, 0), (101, 1)] := ⟨by kernel_rfl⟩
instance : FLD Tryd.prog 130 0 0 := ⟨fun w b o => by simp [Instr.fieldAt, Instr.sureAddr, fieldPlace, Addr.add]⟩
instance : FLD Tryd.prog 130 1 1 := ⟨fun w b o => by simp [Instr.fieldAt, Instr.sureAddr, fieldPlace, Addr.add]⟩
instance : TI Tryd.prog 130 2 16 true (.agg #[(.int .i64 0), (.map none)]) := ⟨by kernel_rfl, by kernel_rfl, rfl⟩
instance : SF Tryd.prog 131 [(64, 0), (3, 1)] := ⟨by kernel_rfl⟩
instance : FLD Tryd.prog 131 0 0 := ⟨fun w b o => by simp [Instr.fieldAt, Instr.sureAddr, fieldPlace, Addr.add]⟩
instance : FLD Tryd.prog 131 1 1 := ⟨fun w b o => by simp [Instr.fieldAt, Instr.sureAddr, fieldPlace, Addr.add]⟩
instance : TI Tryd.prog 131 2 16 true (.agg #[(.int .u64 0), (.int .i64 0)]) := ⟨by kernel_rfl, by kernel_rfl, rfl⟩
instance : SF Tryd.prog 132 [(64, 0), (3, 1)] := ⟨by kernel_rfl⟩
instance : FLD Tryd.prog 132 0 0 := ⟨fun w b o => by simp [Instr.fieldAt, Instr.sureAddr, fieldPlace, Addr.add]⟩
instance : FLD Tryd.prog 132 1 1 := ⟨fun w b o => by simp [Instr.fieldAt, Instr.sureAddr, fieldPlace, Addr.add]⟩
instance : TI Tryd.prog 132 2 16 true (.agg #[(.int .u64 0), (.int .i64 0)]) := ⟨by kernel_rfl, by kernel_rfl, rfl⟩
instance : SF Tryd.prog 133 [(130, 0), (45, 2), (3, 3), (132, 4)] := ⟨by kernel_rfl⟩
instance : FLD Tryd.prog 133 0 0 := ⟨fun w b o => by simp [Instr.fieldAt, Instr.sureAddr, fieldPlace, Addr.add]⟩
instance : FLD Tryd.prog 133 1 2 := ⟨fun w b o => by simp [Instr.fieldAt, Instr.sureAddr, fieldPlace, Addr.add]⟩
instance : FLD Tryd.prog 133 2 3 := ⟨fun w b o => by simp [Instr.fieldAt, Instr.sureAddr, fieldPlace, Addr.add]⟩
instance : FLD Tryd.prog 133 3 4 := ⟨fun w b o => by simp [Instr.fieldAt, Instr.sureAddr, fieldPlace, Addr.add]⟩
instance : TI Tryd.prog 133 6 48 true (.agg #[(.int .i64 0), (.map none), (.pointer none), (.int .i64 0), (.int .u64 0), (.int .i64 0)]) := ⟨by kernel_rfl, by kernel_rfl, rfl⟩
instance : SF Tryd.prog 134 [(130, 0), (45, 2), (3, 3), (132, 4)] := ⟨by kernel_rfl⟩
instance : FLD Tryd.prog 134 0 0 := ⟨fun w b o => by simp [Instr.fieldAt, Instr.sureAddr, fieldPlace, Addr.add]⟩
instance : FLD Tryd.prog 134 1 2 := ⟨fun w b o => by simp [Instr.fieldAt, Instr.sureAddr, fieldPlace, Addr.add]⟩
instance : FLD Tryd.prog 134 2 3 := ⟨fun w b o => by simp [Instr.fieldAt, Instr.sureAddr, fieldPlace, Addr.add]⟩
instance : FLD Tryd.prog 134 3 4 := ⟨fun w b o => by simp [Instr.fieldAt, Instr.sureAddr, fieldPlace, Addr.add]⟩
instance : TI Tryd.prog 134 6 48 true (.agg #[(.int .i64 0), (.map none), (.pointer none), (.int .i64 0), (.int .u64 0), (.int .i64 0)]) := ⟨by kernel_rfl, by kernel_rfl, rfl⟩
instance : TI Tryd.prog 135 1 8 false .nilFunc := ⟨by kernel_rfl, by kernel_rfl, rfl⟩
instance : TI Tryd.prog 136 1 0 false (.tuple #[(.agg #[(.int .u64 0), (.int .i64 0)]), (.bool false)]) := ⟨by kernel_rfl, by kernel_rfl, rfl⟩
instance : TI Tryd.prog 137 1 8 false .nilFunc := ⟨by kernel_rfl, by kernel_rfl, rfl⟩
instance : TI Tryd.prog 138 1 16 false .nilIface := ⟨by kernel_rfl, by kernel_rfl, rfl⟩
instance : TI Tryd.prog 139 1 8 false .nilFunc := ⟨by kernel_rfl, by kernel_rfl, rfl⟩
instance : TI Tryd.prog 140 1 8 false .nilFunc := ⟨by kernel_rfl, by kernel_rfl, rfl⟩
instance : SL Tryd.prog 141 150 := ⟨by kernel_rfl⟩
instance : TI Tryd.prog 141 1 24 false (.slice none 0 0) := ⟨by kernel_rfl, by kernel_rfl, rfl⟩
instance : TI Tryd.prog 142 1 8 false .nilFunc := ⟨by kernel_rfl, by kernel_rfl, rfl⟩
instance : TI Tryd.prog 143 1 8 false .nilFunc := ⟨by kernel_rfl, by kernel_rfl, rfl⟩
instance : TI Tryd.prog 144 1 8 false (.pointer none) := ⟨by kernel_rfl, by kernel_rfl, rfl⟩
instance : TI Tryd.prog 145 1 0 false (.tuple #[(.pointer none), (.bool false)]) := ⟨by kernel_rfl, by kernel_rfl, rfl⟩
instance : SL Tryd.prog 146 20 := ⟨by kernel_rfl⟩
instance : TI Tryd.prog 146 1 24 false (.slice none 0 0) := ⟨by kernel_rfl, by kernel_rfl, rfl⟩
instance : SF Tryd.prog 147 [(3, 0), (141, 1), (146, 2)] := ⟨by kernel_rfl⟩
instance : FLD Tryd.prog 147 0 0 := ⟨fun w b o => by simp [Instr.fieldAt, Instr.sureAddr, fieldPlace, Addr.add]⟩
instance : FLD Tryd.prog 147 1 1 := ⟨fun w b o => by simp [Instr.fieldAt, Instr.sureAddr, fieldPlace, Addr.add]⟩
instance : FLD Tryd.prog 147 2 2 := ⟨fun w b o => by simp [Instr.fieldAt, Instr.sureAddr, fieldPlace, Addr.add]⟩
instance : TI Tryd.prog 147 3 56 true (.agg #[(.int .i64 0), (.slice none 0 0), (.slice none 0 0)]) := ⟨by kernel_rfl, by kernel_rfl, rfl⟩
instance : SF Tryd.prog 148 [(3, 0), (141, 1), (146, 2)] := ⟨by kernel_rfl⟩
instance : FLD Tryd.prog 148 0 0 := ⟨fun w b o => by simp [Instr.fieldAt, Instr.sureAddr, fieldPlace, Addr.add]⟩
instance : FLD Tryd.prog 148 1 1 := ⟨fun w b o => by simp [Instr.fieldAt, Instr.sureAddr, fieldPlace, Addr.add]⟩
instance : FLD Tryd.prog 148 2 2 := ⟨fun w b o => by simp [Instr.fieldAt, Instr.sureAddr, fieldPlace, Addr.add]⟩
instance : TI Tryd.prog 148 3 56 true (.agg #[(.int .i64 0), (.slice none 0 0), (.slice none 0 0)]) := ⟨by kernel_rfl, by kernel_rfl, rfl⟩
instance : SF Tryd.prog 149 [(52, 0), (52, 1)] := ⟨by kernel_rfl⟩
instance : FLD Tryd.prog 149 0 0 := ⟨fun w b o => by simp [Instr.fieldAt, Instr.sureAddr, fieldPlace, Addr.add]⟩
instance : FLD Tryd.prog 149 1 1 := ⟨fun w b o => by simp [Instr.fieldAt, Instr.sureAddr, fieldPlace, Addr.add]⟩
instance : TI Tryd.prog 149 2 48 true (.agg #[(.slice none 0 0), (.slice none 0 0)]) := ⟨by kernel_rfl, by kernel_rfl, rfl⟩
instance : SF Tryd.prog 150 [(52, 0), (52, 1)] := ⟨by kernel_rfl⟩
instance : FLD Tryd.prog 150 0 0 := ⟨fun w b o => by simp [Instr.fieldAt, Instr.sureAddr, fieldPlace, Addr.add]⟩
instance : FLD Tryd.prog 150 1 1 := ⟨fun w b o => by simp [Instr.fieldAt, Instr.sureAddr, fieldPlace, Addr.add]⟩
instance : TI Tryd.prog 150 2 48 true (.agg #[(.slice none 0 0), (.slice none 0 0)]) := ⟨by kernel_rfl, by kernel_rfl, rfl⟩
instance : TI Tryd.prog 151 1 8 false .nilFunc := ⟨by kernel_rfl, by kernel_rfl, rfl⟩
instance : TI Tryd.prog 152 1 8 false .nilFunc := ⟨by kernel_rfl, by kernel_rfl, rfl⟩
instance : TI Tryd.prog 153 1 8 false .nilFunc := ⟨by kernel_rfl, by kernel_rfl, rfl⟩
instance : TI Tryd.prog 154 1 8 false .nilFunc := ⟨by kernel_rfl, by kernel_rfl, rfl⟩
instance : TI Tryd.prog 155 1 8 false .nilFunc := ⟨by kernel_rfl, by kernel_rfl, rfl⟩
instance : SF Tryd.prog 156 [] := ⟨by kernel_rfl⟩
instance : TI Tryd.prog 156 0 0 true (.agg #[]) := ⟨by kernel_rfl, by kernel_rfl, rfl⟩
instance : SF Tryd.prog 157 [] := ⟨by kernel_rfl⟩
instance : TI Tryd.prog 157 0 0 true (.agg #[]) := ⟨by kernel_rfl, by kernel_rfl, rfl⟩
instance : TI Tryd.prog 158 1 0 false (.tuple #[(.agg #[]), (.bool false)]) := ⟨by kernel_rfl, by kernel_rfl, rfl⟩
instance : TI Tryd.prog 159 1 0 false (.tuple #[(.bool false), (.bool false)]) := ⟨by kernel_rfl, by kernel_rfl, rfl⟩
instance : TI Tryd.prog 160 1 0 false (.tuple #[(.int .i64 0), (.bool false)]) := ⟨by kernel_rfl, by kernel_rfl, rfl⟩
instance : TI Tryd.prog 161 1 8 false .nilFunc := ⟨by kernel_rfl, by kernel_rfl, rfl⟩
instance : TI Tryd.prog 162 1 0 false (.tuple #[(.string { data := #[] }), (.bool false)]) := ⟨by kernel_rfl, by kernel_rfl, rfl⟩
instance : TI Tryd.prog 163 1 8 false .nilFunc := ⟨by kernel_rfl, by kernel_rfl, rfl⟩
instance : SL Tryd.prog 164 21 := ⟨by kernel_rfl⟩
instance : TI Tryd.prog 164 1 24 false (.slice none 0 0) := ⟨by kernel_rfl, by kernel_rfl, rfl⟩
instance : TI Tryd.prog 165 1 0 false (.tuple #[(.slice none 0 0), (.bool false)]) := ⟨by kernel_rfl, by kernel_rfl, rfl⟩
instance : TI Tryd.prog 166 1 8 false .nilFunc := ⟨by kernel_rfl, by kernel_rfl, rfl⟩
instance : TI Tryd.prog 167 1 8 false .nilFunc := ⟨by kernel_rfl, by kernel_rfl, rfl⟩
instance : TI Tryd.prog 168 1 8 false .nilFunc := ⟨by kernel_rfl, by kernel_rfl, rfl⟩
instance : TI Tryd.prog 169 1 8 false .nilFunc := ⟨by kernel_rfl, by kernel_rfl, rfl⟩
instance : TI Tryd.prog 170 1 0 false (.tuple #[(.slice none 0 0), (.int .i64 0)]) := ⟨by kernel_rfl, by kernel_rfl, rfl⟩
instance : TI Tryd.prog 171 1 8 false .nilFunc := ⟨by kernel_rfl, by kernel_rfl, rfl⟩
instance : TI Tryd.prog 172 1 8 false .nilFunc := ⟨by kernel_rfl, by kernel_rfl, rfl⟩
instance : SF Tryd.prog 173 [(3, 0), (52, 1)] := ⟨by kernel_rfl⟩
instance : FLD Tryd.prog 173 0 0 := ⟨fun w b o => by simp [Instr.fieldAt, Instr.sureAddr, fieldPlace, Addr.add]⟩
instance : FLD Tryd.prog 173 1 1 := ⟨fun w b o => by simp [Instr.fieldAt, Instr.sureAddr, fieldPlace, Addr.add]⟩
instance : TI Tryd.prog 173 2 32 true (.agg #[(.int .i64 0), (.slice none 0 0)]) := ⟨by kernel_rfl, by kernel_rfl, rfl⟩
instance : SF Tryd.prog 174 [(3, 0), (52, 1)] := ⟨by kernel_rfl⟩
instance : FLD Tryd.prog 174 0 0 := ⟨fun w b o => by simp [Instr.fieldAt, Instr.sureAddr, fieldPlace, Addr.add]⟩
instance : FLD Tryd.prog 174 1 1 := ⟨fun w b o => by simp [Instr.fieldAt, Instr.sureAddr, fieldPlace, Addr.add]⟩
instance : TI Tryd.prog 174 2 32 true (.agg #[(.int .i64 0), (.slice none 0 0)]) := ⟨by kernel_rfl, by kernel_rfl, rfl⟩
instance : TI Tryd.prog 175 1 8 false .nilFunc := ⟨by kernel_rfl, by kernel_rfl, rfl⟩
instance : TI Tryd.prog 176 1 8 false .nilFunc := ⟨by kernel_rfl, by kernel_rfl, rfl⟩
instance : TI Tryd.prog 177 1 8 false (.pointer none) := ⟨by kernel_rfl, by kernel_rfl, rfl⟩
instance : TI Tryd.prog 178 1 0 false (.tuple #[(.pointer none), (.bool false)]) := ⟨by kernel_rfl, by kernel_rfl, rfl⟩
instance : SF Tryd.prog 179 [(3, 0), (141, 1)] := ⟨by kernel_rfl⟩
instance : FLD Tryd.prog 179 0 0 := ⟨fun w b o => by simp [Instr.fieldAt, Instr.sureAddr, fieldPlace, Addr.add]⟩
instance : FLD Tryd.prog 179 1 1 := ⟨fun w b o => by simp [Instr.fieldAt, Instr.sureAddr, fieldPlace, Addr.add]⟩
instance : TI Tryd.prog 179 2 32 true (.agg #[(.int .i64 0), (.slice none 0 0)]) := ⟨by kernel_rfl, by kernel_rfl, rfl⟩
instance : SF Tryd.prog 180 [(3, 0), (141, 1)] := ⟨by kernel_rfl⟩
instance : FLD Tryd.prog 180 0 0 := ⟨fun w b o => by simp [Instr.fieldAt, Instr.sureAddr, fieldPlace, Addr.add]⟩
instance : FLD Tryd.prog 180 1 1 := ⟨fun w b o => by simp [Instr.fieldAt, Instr.sureAddr, fieldPlace, Addr.add]⟩
instance : TI Tryd.prog 180 2 32 true (.agg #[(.int .i64 0), (.slice none 0 0)]) := ⟨by kernel_rfl, by kernel_rfl, rfl⟩
instance : TI Tryd.prog 181 1 0 false (.tuple #[.nilIface, (.bool false)]) := ⟨by kernel_rfl, by kernel_rfl, rfl⟩
instance : TI Tryd.prog 182 1 8 false .nilFunc := ⟨by kernel_rfl, by kernel_rfl, rfl⟩
instance : TI Tryd.prog 183 1 8 false .nilFunc := ⟨by kernel_rfl, by kernel_rfl, rfl⟩
instance : TI Tryd.prog 184 1 8 false (.pointer none) := ⟨by kernel_rfl, by kernel_rfl, rfl⟩
instance : TI Tryd.prog 185 1 8 false .nilFunc := ⟨by kernel_rfl, by kernel_rfl, rfl⟩
instance : ARR Tryd.prog 186 256 5 := ⟨by kernel_rfl⟩
instance : TI Tryd.prog 186 256 256 true (.agg (List.replicate 256 (.int .u8 0)).toArray) := ⟨by kernel_rfl, by kernel_rfl, by kernel_rfl⟩
instance : SF Tryd.prog 187 [(5, 0), (5, 1)] := ⟨by kernel_rfl⟩
instance : FLD Tryd.prog 187 0 0 := ⟨fun w b o => by simp [Instr.fieldAt, Instr.sureAddr, fieldPlace, Addr.add]⟩
instance : FLD Tryd.prog 187 1 1 := ⟨fun w b o => by simp [Instr.fieldAt, Instr.sureAddr, fieldPlace, Addr.add]⟩
instance : TI Tryd.prog 187 2 2 true (.agg #[(.int .u8 0), (.int .u8 0)]) := ⟨by kernel_rfl, by kernel_rfl, rfl⟩
instance : SF Tryd.prog 188 [(5, 0), (5, 1)] := ⟨by kernel_rfl⟩
instance : FLD Tryd.prog 188 0 0 := ⟨fun w b o => by simp [Instr.fieldAt, Instr.sureAddr, fieldPlace, Addr.add]⟩
instance : FLD Tryd.prog 188 1 1 := ⟨fun w b o => by simp [Instr.fieldAt, Instr.sureAddr, fieldPlace, Addr.add]⟩
instance : TI Tryd.prog 188 2 2 true (.agg #[(.int .u8 0), (.int .u8 0)]) := ⟨by kernel_rfl, by kernel_rfl, rfl⟩
instance : ARR Tryd.prog 189 16 188 := ⟨by kernel_rfl⟩
instance : TI Tryd.prog 189 32 32 true (.agg (List.replicate 32 (.int .u8 0)).toArray) := ⟨by kernel_rfl, by kernel_rfl, by kernel_rfl⟩
instance : TI Tryd.prog 190 1 8 false .nilFunc := ⟨by kernel_rfl, by kernel_rfl, rfl⟩
instance : TI Tryd.prog 191 1 0 false (.tuple #[(.slice none 0 0), (.bool false)]) := ⟨by kernel_rfl, by kernel_rfl, rfl⟩
instance : TI Tryd.prog 192 1 8 false .nilFunc := ⟨by kernel_rfl, by kernel_rfl, rfl⟩
instance : TI Tryd.prog 193 1 0 false (.tuple #[(.slice none 0 0), (.int .i64 0), (.int .i64 0)]) := ⟨by kernel_rfl, by kernel_rfl, rfl⟩
instance : TI Tryd.prog 194 1 8 false .nilFunc := ⟨by kernel_rfl, by kernel_rfl, rfl⟩
instance : TI Tryd.prog 195 1 8 false .nilFunc := ⟨by kernel_rfl, by kernel_rfl, rfl⟩
instance : INT Tryd.prog 196 .u32 := ⟨by kernel_rfl⟩
instance : TI Tryd.prog 196 1 4 false (.int .u32 0) := ⟨by kernel_rfl, by kernel_rfl, rfl⟩
instance : TI Tryd.prog 197 1 8 false .nilFunc := ⟨by kernel_rfl, by kernel_rfl, rfl⟩
instance : TI Tryd.prog 198 1 8 false (.pointer none) := ⟨by kernel_rfl, by kernel_rfl, rfl⟩
instance : SF Tryd.prog 199 [(52, 0), (3, 1), (4, 2)] := ⟨by kernel_rfl⟩
instance : FLD Tryd.prog 199 0 0 := ⟨fun w b o => by simp [Instr.fieldAt, Instr.sureAddr, fieldPlace, Addr.add]⟩
instance : FLD Tryd.prog 199 1 1 := ⟨fun w b o => by simp [Instr.fieldAt, Instr.sureAddr, fieldPlace, Addr.add]⟩
instance : FLD Tryd.prog 199 2 2 := ⟨fun w b o => by simp [Instr.fieldAt, Instr.sureAddr, fieldPlace, Addr.add]⟩
instance : TI Tryd.prog 199 3 40 true (.agg #[(.slice none 0 0), (.int .i64 0), (.bool false)]) := ⟨by kernel_rfl, by kernel_rfl, rfl⟩
instance : SF Tryd.prog 200 [(52, 0), (3, 1), (4, 2)] := ⟨by kernel_rfl⟩
instance : FLD Tryd.prog 200 0 0 := ⟨fun w b o => by simp [Instr.fieldAt, Instr.sureAddr, fieldPlace, Addr.add]⟩
instance : FLD Tryd.prog 200 1 1 := ⟨fun w b o => by simp [Instr.fieldAt, Instr.sureAddr, fieldPlace, Addr.add]⟩
instance : FLD Tryd.prog 200 2 2 := ⟨fun w b o => by simp [Instr.fieldAt, Instr.sureAddr, fieldPlace, Addr.add]⟩
instance : TI Tryd.prog 200 3 40 true (.agg #[(.slice none 0 0), (.int .i64 0), (.bool false)]) := ⟨by kernel_rfl, by kernel_rfl, rfl⟩
instance : TI Tryd.prog 201 1 8 false .nilFunc := ⟨by kernel_rfl, by kernel_rfl, rfl⟩
instance : TI Tryd.prog 202 1 0 false (.tuple #[(.agg #[(.int .i64 0), (.int .i64 0), (.string { data := #[] })]), (.int .i64 0)]) := ⟨by kernel_rfl, by kernel_rfl, rfl⟩
instance : TI Tryd.prog 203 1 8 false .nilFunc := ⟨by kernel_rfl, by kernel_rfl, rfl⟩
instance : ARR Tryd.prog 204 256 196 := ⟨by kernel_rfl⟩
instance : TI Tryd.prog 204 256 1024 true (.agg (List.replicate 256 (.int .u32 0)).toArray) := ⟨by kernel_rfl, by kernel_rfl, by kernel_rfl⟩
instance : ARR Tryd.prog 205 4 204 := ⟨by kernel_rfl⟩
instance : TI Tryd.prog 205 1024 4096 true (.agg (List.replicate 1024 (.int .u32 0)).toArray) := ⟨by kernel_rfl, by kernel_rfl, by kernel_rfl⟩
instance : ARR Tryd.prog 206 4 204 := ⟨by kernel_rfl⟩
instance : TI Tryd.prog 206 1024 4096 true (.agg (List.replicate 1024 (.int .u32 0)).toArray) := ⟨by kernel_rfl, by kernel_rfl, by kernel_rfl⟩
instance : TI Tryd.prog 207 1 8 false (.pointer none) := ⟨by kernel_rfl, by kernel_rfl, rfl⟩
instance : TI Tryd.prog 208 1 8 false .nilFunc := ⟨by kernel_rfl, by kernel_rfl, rfl⟩
instance : TI Tryd.prog 209 1 8 false .nilFunc := ⟨by kernel_rfl, by kernel_rfl, rfl⟩
instance : SF Tryd.prog 210 [(17, 0), (17, 1), (17, 2), (9, 3)] := ⟨by kernel_rfl⟩
instance : FLD Tryd.prog 210 0 0 := ⟨fun w b o => by simp [Instr.fieldAt, Instr.sureAddr, fieldPlace, Addr.add]⟩
instance : FLD Tryd.prog 210 1 1 := ⟨fun w b o => by simp [Instr.fieldAt, Instr.sureAddr, fieldPlace, Addr.add]⟩
instance : FLD Tryd.prog 210 2 2 := ⟨fun w b o => by simp [Instr.fieldAt, Instr.sureAddr, fieldPlace, Addr.add]⟩
instance : FLD Tryd.prog 210 3 3 := ⟨fun w b o => by simp [Instr.fieldAt, Instr.sureAddr, fieldPlace, Addr.add]⟩
instance : TI Tryd.prog 210 4 40 true (.agg #[(.pointer none), (.pointer none), (.pointer none), (.string { data := #[] })]) := ⟨by kernel_rfl, by kernel_rfl, rfl⟩
instance : SF Tryd.prog 211 [(17, 0), (17, 1), (17, 2), (9, 3)] := ⟨by kernel_rfl⟩
instance : FLD Tryd.prog 211 0 0 := ⟨fun w b o => by simp [Instr.fieldAt, Instr.sureAddr, fieldPlace, Addr.add]⟩
instance : FLD Tryd.prog 211 1 1 := ⟨fun w b o => by simp [Instr.fieldAt, Instr.sureAddr, fieldPlace, Addr.add]⟩
instance : FLD Tryd.prog 211 2 2 := ⟨fun w b o => by simp [Instr.fieldAt, Instr.sureAddr, fieldPlace, Addr.add]⟩
instance : FLD Tryd.prog 211 3 3 := ⟨fun w b o => by simp [Instr.fieldAt, Instr.sureAddr, fieldPlace, Addr.add]⟩
instance : TI Tryd.prog 211 4 40 true (.agg #[(.pointer none), (.pointer none), (.pointer none), (.string { data := #[] })]) := ⟨by kernel_rfl, by kernel_rfl, rfl⟩
instance : ARR Tryd.prog 212 0 16 := ⟨by kernel_rfl⟩
instance : TI Tryd.prog 212 0 0 true (.agg #[]) := ⟨by kernel_rfl, by kernel_rfl, rfl⟩
instance : SF Tryd.prog 213 [(212, 0)] := ⟨by kernel_rfl⟩
instance : TI Tryd.prog 213 0 0 true (.agg #[]) := ⟨by kernel_rfl, by kernel_rfl, rfl⟩
instance : SF Tryd.prog 214 [(212, 0)] := ⟨by kernel_rfl⟩
instance : TI Tryd.prog 214 0 0 true (.agg #[]) := ⟨by kernel_rfl, by kernel_rfl, rfl⟩
instance : INT Tryd.prog 215 .u8 := ⟨by kernel_rfl⟩
instance : TI Tryd.prog 215 1 1 false (.int .u8 0) := ⟨by kernel_rfl, by kernel_rfl, rfl⟩
instance : INT Tryd.prog 216 .u8 := ⟨by kernel_rfl⟩
instance : TI Tryd.prog 216 1 1 false (.int .u8 0) := ⟨by kernel_rfl, by kernel_rfl, rfl⟩
instance : TI Tryd.prog 217 1 8 false .nilFunc := ⟨by kernel_rfl, by kernel_rfl, rfl⟩
instance : TI Tryd.prog 218 1 8 false (.pointer none) := ⟨by kernel_rfl, by kernel_rfl, rfl⟩
instance : INT Tryd.prog 219 .i32 := ⟨by kernel_rfl⟩
instance : TI Tryd.prog 219 1 4 false (.int .i32 0) := ⟨by kernel_rfl, by kernel_rfl, rfl⟩
instance : INT Tryd.prog 220 .i32 := ⟨by kernel_rfl⟩
instance : TI Tryd.prog 220 1 4 false (.int .i32 0) := ⟨by kernel_rfl, by kernel_rfl, rfl⟩
instance : SF Tryd.prog 221 [(12, 0), (12, 1), (196, 2), (215, 3), (5, 4), (5, 5), (216, 6), (217, 7), (218, 8), (219, 9), (220, 10)] := ⟨by kernel_rfl⟩
instance : FLD Tryd.prog 221 0 0 := ⟨fun w b o => by simp [Instr.fieldAt, Instr.sureAddr, fieldPlace, Addr.add]⟩
instance : FLD Tryd.prog 221 1 1 := ⟨fun w b o => by simp [Instr.fieldAt, Instr.sureAddr, fieldPlace, Addr.add]⟩
instance : FLD Tryd.prog 221 2 2 := ⟨fun w b o => by simp [Instr.fieldAt, Instr.sureAddr, fieldPlace, Addr.add]⟩
instance : FLD Tryd.prog 221 3 3 := ⟨fun w b o => by simp [Instr.fieldAt, Instr.sureAddr, fieldPlace, Addr.add]⟩
instance : FLD Tryd.prog 221 4 4 := ⟨fun w b o => by simp [Instr.fieldAt, Instr.sureAddr, fieldPlace, Addr.add]⟩
instance : FLD Tryd.prog 221 5 5 := ⟨fun w b o => by simp [Instr.fieldAt, Instr.sureAddr, fieldPlace, Addr.add]⟩
instance : FLD Tryd.prog 221 6 6 := ⟨fun w b o => by simp [Instr.fieldAt, Instr.sureAddr, fieldPlace, Addr.add]⟩
instance : FLD Tryd.prog 221 7 7 := ⟨fun w b o => by simp [Instr.fieldAt, Instr.sureAddr, fieldPlace, Addr.add]⟩
instance : FLD Tryd.prog 221 8 8 := ⟨fun w b o => by simp [Instr.fieldAt, Instr.sureAddr, fieldPlace, Addr.add]⟩
instance : FLD Tryd.prog 221 9 9 := ⟨fun w b o => by simp [Instr.fieldAt, Instr.sureAddr, fieldPlace, Addr.add]⟩
instance : FLD Tryd.prog 221 10 10 := ⟨fun w b o => by simp [Instr.fieldAt, Instr.sureAddr, fieldPlace, Addr.add]⟩
instance : TI Tryd.prog 221 11 48 true (.agg #[(.int .u64 0), (.int .u64 0), (.int .u32 0), (.int .u8 0), (.int .u8 0), (.int .u8 0), (.int .u8 0), .nilFunc, (.pointer none), (.int .i32 0), (.int .i32 0)]) := ⟨by kernel_rfl, by kernel_rfl, rfl⟩
instance : SF Tryd.prog 222 [(12, 0), (12, 1), (196, 2), (215, 3), (5, 4), (5, 5), (216, 6), (217, 7), (218, 8), (219, 9), (220, 10)] := ⟨by kernel_rfl⟩
instance : FLD Tryd.prog 222 0 0 := ⟨fun w b o => by simp [Instr.fieldAt, Instr.sureAddr, fieldPlace, Addr.add]⟩
instance : FLD Tryd.prog 222 1 1 := ⟨fun w b o => by simp [Instr.fieldAt, Instr.sureAddr, fieldPlace, Addr.add]⟩
instance : FLD Tryd.prog 222 2 2 := ⟨fun w b o => by simp [Instr.fieldAt, Instr.sureAddr, fieldPlace, Addr.add]⟩
instance : FLD Tryd.prog 222 3 3 := ⟨fun w b o => by simp [Instr.fieldAt, Instr.sureAddr, fieldPlace, Addr.add]⟩
instance : FLD Tryd.prog 222 4 4 := ⟨fun w b o => by simp [Instr.fieldAt, Instr.sureAddr, fieldPlace, Addr.add]⟩
instance : FLD Tryd.prog 222 5 5 := ⟨fun w b o => by simp [Instr.fieldAt, Instr.sureAddr, fieldPlace, Addr.add]⟩
instance : FLD Tryd.prog 222 6 6 := ⟨fun w b o => by simp [Instr.fieldAt, Instr.sureAddr, fieldPlace, Addr.add]⟩
instance : FLD Tryd.prog 222 7 7 := ⟨fun w b o => by simp [Instr.fieldAt, Instr.sureAddr, fieldPlace, Addr.add]⟩
instance : FLD Tryd.prog 222 8 8 := ⟨fun w b o => by simp [Instr.fieldAt, Instr.sureAddr, fieldPlace, Addr.add]⟩
instance : FLD Tryd.prog 222 9 9 := ⟨fun w b o => by simp [Instr.fieldAt, Instr.sureAddr, fieldPlace, Addr.add]⟩
instance : FLD Tryd.prog 222 10 10 := ⟨fun w b o => by simp [Instr.fieldAt, Instr.sureAddr, fieldPlace, Addr.add]⟩
instance : TI Tryd.prog 222 11 48 true (.agg #[(.int .u64 0), (.int .u64 0), (.int .u32 0), (.int .u8 0), (.int .u8 0), (.int .u8 0), (.int .u8 0), .nilFunc, (.pointer none), (.int .i32 0), (.int .i32 0)]) := ⟨by kernel_rfl, by kernel_rfl, rfl⟩
instance : TI Tryd.prog 223 1 8 false (.pointer none) := ⟨by kernel_rfl, by kernel_rfl, rfl⟩
instance : TI Tryd.prog 224 1 8 false (.pointer none) := ⟨by kernel_rfl, by kernel_rfl, rfl⟩
instance : SF Tryd.prog 225 [(69, 0), (20, 1), (101, 2), (4, 3)] := ⟨by kernel_rfl⟩
instance : FLD Tryd.prog 225 0 0 := ⟨fun w b o => by simp [Instr.fieldAt, Instr.sureAddr, fieldPlace, Addr.add]⟩
instance : FLD Tryd.prog 225 1 1 := ⟨fun w b o => by simp [Instr.fieldAt, Instr.sureAddr, fieldPlace, Addr.add]⟩
instance : FLD Tryd.prog 225 2 2 := ⟨fun w b o => by simp [Instr.fieldAt, Instr.sureAddr, fieldPlace, Addr.add]⟩
instance : FLD Tryd.prog 225 3 3 := ⟨fun w b o => by simp [Instr.fieldAt, Instr.sureAddr, fieldPlace, Addr.add]⟩
instance : TI Tryd.prog 225 4 40 true (.agg #[(.pointer none), .nilIface, (.map none), (.bool false)]) := ⟨by kernel_rfl, by kernel_rfl, rfl⟩
instance : SF Tryd.prog 226 [(69, 0), (20, 1), (101, 2), (4, 3)] := ⟨by kernel_rfl⟩
instance : FLD Tryd.prog 226 0 0 := ⟨fun w b o => by simp [Instr.fieldAt, Instr.sureAddr, fieldPlace, Addr.add]⟩
instance : FLD Tryd.prog 226 1 1 := ⟨fun w b o => by simp [Instr.fieldAt, Instr.sureAddr, fieldPlace, Addr.add]⟩
instance : FLD Tryd.prog 226 2 2 := ⟨fun w b o => by simp [Instr.fieldAt, Instr.sureAddr, fieldPlace, Addr.add]⟩
instance : FLD Tryd.prog 226 3 3 := ⟨fun w b o => by simp [Instr.fieldAt, Instr.sureAddr, fieldPlace, Addr.add]⟩
instance : TI Tryd.prog 226 4 40 true (.agg #[(.pointer none), .nilIface, (.map none), (.bool false)]) := ⟨by kernel_rfl, by kernel_rfl, rfl⟩
end Go.Proofs.YtdojooblfemmnaaDoor
