/- What the program's own table says of its types. -/
import Derived.Test.YthhgagkacogigaaProg
import Derived.Test.YthhgagkacogigaaMem2
namespace Go.Proofs.Ythhgagkacogigaa
instance : TI Try.prog 0 1 0 false (.tuple #[]) := ⟨by kernel_rfl, by kernel_rfl, rfl⟩
instance : TI Try.prog 1 1 8 false .nilFunc := ⟨by kernel_rfl, by kernel_rfl, rfl⟩
instance : INT Try.prog 2 .i64 := ⟨by kernel_rfl⟩
instance : TI Try.prog 2 1 8 false (.int .i64 0) := ⟨by kernel_rfl, by kernel_rfl, rfl⟩
instance : INT Try.prog 3 .i64 := ⟨by kernel_rfl⟩
instance : TI Try.prog 3 1 8 false (.int .i64 0) := ⟨by kernel_rfl, by kernel_rfl, rfl⟩
instance : TI Try.prog 4 1 1 false (.bool false) := ⟨by kernel_rfl, by kernel_rfl, rfl⟩
instance : INT Try.prog 5 .u8 := ⟨by kernel_rfl⟩
instance : TI Try.prog 5 1 1 false (.int .u8 0) := ⟨by kernel_rfl, by kernel_rfl, rfl⟩
instance : INT Try.prog 6 .u8 := ⟨by kernel_rfl⟩
instance : TI Try.prog 6 1 1 false (.int .u8 0) := ⟨by kernel_rfl, by kernel_rfl, rfl⟩
instance : SF Try.prog 7 [(2, 0), (3, 1), (4, 2), (6, 3)] := ⟨by kernel_rfl⟩
instance : FLD Try.prog 7 0 0 := ⟨fun w b o => by simp [Instr.fieldAt, Instr.sureAddr, fieldPlace, Addr.add]⟩
instance : FLD Try.prog 7 1 1 := ⟨fun w b o => by simp [Instr.fieldAt, Instr.sureAddr, fieldPlace, Addr.add]⟩
instance : FLD Try.prog 7 2 2 := ⟨fun w b o => by simp [Instr.fieldAt, Instr.sureAddr, fieldPlace, Addr.add]⟩
instance : FLD Try.prog 7 3 3 := ⟨fun w b o => by simp [Instr.fieldAt, Instr.sureAddr, fieldPlace, Addr.add]⟩
instance : TI Try.prog 7 4 24 true (.agg #[(.int .i64 0), (.int .i64 0), (.bool false), (.int .u8 0)]) := ⟨by kernel_rfl, by kernel_rfl, rfl⟩
instance : SF Try.prog 8 [(2, 0), (3, 1), (4, 2), (6, 3)] := ⟨by kernel_rfl⟩
instance : FLD Try.prog 8 0 0 := ⟨fun w b o => by simp [Instr.fieldAt, Instr.sureAddr, fieldPlace, Addr.add]⟩
instance : FLD Try.prog 8 1 1 := ⟨fun w b o => by simp [Instr.fieldAt, Instr.sureAddr, fieldPlace, Addr.add]⟩
instance : FLD Try.prog 8 2 2 := ⟨fun w b o => by simp [Instr.fieldAt, Instr.sureAddr, fieldPlace, Addr.add]⟩
instance : FLD Try.prog 8 3 3 := ⟨fun w b o => by simp [Instr.fieldAt, Instr.sureAddr, fieldPlace, Addr.add]⟩
instance : TI Try.prog 8 4 24 true (.agg #[(.int .i64 0), (.int .i64 0), (.bool false), (.int .u8 0)]) := ⟨by kernel_rfl, by kernel_rfl, rfl⟩
instance : STR Try.prog 9 := ⟨by kernel_rfl⟩
instance : TI Try.prog 9 1 16 false (.string { data := #[] }) := ⟨by kernel_rfl, by kernel_rfl, rfl⟩
instance : STR Try.prog 10 := ⟨by kernel_rfl⟩
instance : TI Try.prog 10 1 16 false (.string { data := #[] }) := ⟨by kernel_rfl, by kernel_rfl, rfl⟩
instance : STR Try.prog 11 := ⟨by kernel_rfl⟩
instance : TI Try.prog 11 1 16 false (.string { data := #[] }) := ⟨by kernel_rfl, by kernel_rfl, rfl⟩
instance : INT Try.prog 12 .u64 := ⟨by kernel_rfl⟩
instance : TI Try.prog 12 1 8 false (.int .u64 0) := ⟨by kernel_rfl, by kernel_rfl, rfl⟩
instance : SF Try.prog 13 [(9, 0), (12, 1)] := ⟨by kernel_rfl⟩
instance : FLD Try.prog 13 0 0 := ⟨fun w b o => by simp [Instr.fieldAt, Instr.sureAddr, fieldPlace, Addr.add]⟩
instance : FLD Try.prog 13 1 1 := ⟨fun w b o => by simp [Instr.fieldAt, Instr.sureAddr, fieldPlace, Addr.add]⟩
instance : TI Try.prog 13 2 24 true (.agg #[(.string { data := #[] }), (.int .u64 0)]) := ⟨by kernel_rfl, by kernel_rfl, rfl⟩
instance : SF Try.prog 14 [(9, 0), (12, 1)] := ⟨by kernel_rfl⟩
instance : FLD Try.prog 14 0 0 := ⟨fun w b o => by simp [Instr.fieldAt, Instr.sureAddr, fieldPlace, Addr.add]⟩
instance : FLD Try.prog 14 1 1 := ⟨fun w b o => by simp [Instr.fieldAt, Instr.sureAddr, fieldPlace, Addr.add]⟩
instance : TI Try.prog 14 2 24 true (.agg #[(.string { data := #[] }), (.int .u64 0)]) := ⟨by kernel_rfl, by kernel_rfl, rfl⟩
instance : TI Try.prog 15 1 8 false (.pointer none) := ⟨by kernel_rfl, by kernel_rfl, rfl⟩
instance : TI Try.prog 16 1 8 false (.pointer none) := ⟨by kernel_rfl, by kernel_rfl, rfl⟩
instance : TI Try.prog 17 1 8 false (.pointer none) := ⟨by kernel_rfl, by kernel_rfl, rfl⟩
instance : SF Try.prog 18 [(17, 0)] := ⟨by kernel_rfl⟩
instance : FLD Try.prog 18 0 0 := ⟨fun w b o => by simp [Instr.fieldAt, Instr.sureAddr, fieldPlace, Addr.add]⟩
instance : TI Try.prog 18 1 8 true (.agg #[(.pointer none)]) := ⟨by kernel_rfl, by kernel_rfl, rfl⟩
instance : SF Try.prog 19 [(17, 0)] := ⟨by kernel_rfl⟩
instance : FLD Try.prog 19 0 0 := ⟨fun w b o => by simp [Instr.fieldAt, Instr.sureAddr, fieldPlace, Addr.add]⟩
instance : TI Try.prog 19 1 8 true (.agg #[(.pointer none)]) := ⟨by kernel_rfl, by kernel_rfl, rfl⟩
instance : TI Try.prog 20 1 16 false .nilIface := ⟨by kernel_rfl, by kernel_rfl, rfl⟩
instance : INT Try.prog 21 .i32 := ⟨by kernel_rfl⟩
instance : TI Try.prog 21 1 4 false (.int .i32 0) := ⟨by kernel_rfl, by kernel_rfl, rfl⟩
instance : SL Try.prog 22 5 := ⟨by kernel_rfl⟩
instance : TI Try.prog 22 1 24 false (.slice none 0 0) := ⟨by kernel_rfl, by kernel_rfl, rfl⟩
instance : TI Try.prog 23 1 8 false .nilFunc := ⟨by kernel_rfl, by kernel_rfl, rfl⟩
instance : TI Try.prog 24 1 8 false .nilFunc := ⟨by kernel_rfl, by kernel_rfl, rfl⟩
instance : INT Try.prog 25 .u32 := ⟨by kernel_rfl⟩
instance : TI Try.prog 25 1 4 false (.int .u32 0) := ⟨by kernel_rfl, by kernel_rfl, rfl⟩
instance : TI Try.prog 26 1 8 false .nilFunc := ⟨by kernel_rfl, by kernel_rfl, rfl⟩
instance : TI Try.prog 27 1 8 false .nilFunc := ⟨by kernel_rfl, by kernel_rfl, rfl⟩
instance : ARR Try.prog 28 3 3 := ⟨by kernel_rfl⟩
instance : TI Try.prog 28 3 24 true (.agg (List.replicate 3 (.int .i64 0)).toArray) := ⟨by kernel_rfl, by kernel_rfl, by kernel_rfl⟩
instance : INT Try.prog 29 .u64 := ⟨by kernel_rfl⟩
instance : TI Try.prog 29 1 8 false (.int .u64 0) := ⟨by kernel_rfl, by kernel_rfl, rfl⟩
instance : TI Try.prog 30 1 8 false .nilFunc := ⟨by kernel_rfl, by kernel_rfl, rfl⟩
instance : INT Try.prog 31 .i64 := ⟨by kernel_rfl⟩
instance : TI Try.prog 31 1 8 false (.int .i64 0) := ⟨by kernel_rfl, by kernel_rfl, rfl⟩
instance : TI Try.prog 32 1 0 false (.tuple #[(.int .i64 0), (.int .i64 0), (.int .i64 0)]) := ⟨by kernel_rfl, by kernel_rfl, rfl⟩
instance : TI Try.prog 33 1 8 false .nilFunc := ⟨by kernel_rfl, by kernel_rfl, rfl⟩
instance : TI Try.prog 34 1 8 false .nilFunc := ⟨by kernel_rfl, by kernel_rfl, rfl⟩
instance : TI Try.prog 35 1 8 false .nilFunc := ⟨by kernel_rfl, by kernel_rfl, rfl⟩
instance : TI Try.prog 36 1 0 false (.tuple #[(.slice none 0 0), (.int .i64 0), (.int .i64 0)]) := ⟨by kernel_rfl, by kernel_rfl, rfl⟩
instance : TI Try.prog 37 1 8 false .nilFunc := ⟨by kernel_rfl, by kernel_rfl, rfl⟩
instance : TI Try.prog 38 1 8 false .nilFunc := ⟨by kernel_rfl, by kernel_rfl, rfl⟩
instance : SL Try.prog 39 3 := ⟨by kernel_rfl⟩
instance : TI Try.prog 39 1 24 false (.slice none 0 0) := ⟨by kernel_rfl, by kernel_rfl, rfl⟩
instance : SL Try.prog 40 22 := ⟨by kernel_rfl⟩
instance : TI Try.prog 40 1 24 false (.slice none 0 0) := ⟨by kernel_rfl, by kernel_rfl, rfl⟩
instance : TI Try.prog 41 1 8 false .nilFunc := ⟨by kernel_rfl, by kernel_rfl, rfl⟩
instance : ARR Try.prog 42 256 25 := ⟨by kernel_rfl⟩
instance : TI Try.prog 42 256 1024 true (.agg (List.replicate 256 (.int .u32 0)).toArray) := ⟨by kernel_rfl, by kernel_rfl, by kernel_rfl⟩
instance : ARR Try.prog 43 4 42 := ⟨by kernel_rfl⟩
instance : TI Try.prog 43 1024 4096 true (.agg (List.replicate 1024 (.int .u32 0)).toArray) := ⟨by kernel_rfl, by kernel_rfl, by kernel_rfl⟩
instance : ARR Try.prog 44 4 42 := ⟨by kernel_rfl⟩
instance : TI Try.prog 44 1024 4096 true (.agg (List.replicate 1024 (.int .u32 0)).toArray) := ⟨by kernel_rfl, by kernel_rfl, by kernel_rfl⟩
instance : TI Try.prog 45 1 8 false (.pointer none) := ⟨by kernel_rfl, by kernel_rfl, rfl⟩
instance : TI Try.prog 46 1 8 false .nilFunc := ⟨by kernel_rfl, by kernel_rfl, rfl⟩
instance : SF Try.prog 47 [(17, 0), (17, 1), (17, 2), (9, 3)] := ⟨by kernel_rfl⟩
instance : FLD Try.prog 47 0 0 := ⟨fun w b o => by simp [Instr.fieldAt, Instr.sureAddr, fieldPlace, Addr.add]⟩
instance : FLD Try.prog 47 1 1 := ⟨fun w b o => by simp [Instr.fieldAt, Instr.sureAddr, fieldPlace, Addr.add]⟩
instance : FLD Try.prog 47 2 2 := ⟨fun w b o => by simp [Instr.fieldAt, Instr.sureAddr, fieldPlace, Addr.add]⟩
instance : FLD Try.prog 47 3 3 := ⟨fun w b o => by simp [Instr.fieldAt, Instr.sureAddr, fieldPlace, Addr.add]⟩
instance : TI Try.prog 47 4 40 true (.agg #[(.pointer none), (.pointer none), (.pointer none), (.string { data := #[] })]) := ⟨by kernel_rfl, by kernel_rfl, rfl⟩
instance : SF Try.prog 48 [(17, 0), (17, 1), (17, 2), (9, 3)] := ⟨by kernel_rfl⟩
instance : FLD Try.prog 48 0 0 := ⟨fun w b o => by simp [Instr.fieldAt, Instr.sureAddr, fieldPlace, Addr.add]⟩
instance : FLD Try.prog 48 1 1 := ⟨fun w b o => by simp [Instr.fieldAt, Instr.sureAddr, fieldPlace, Addr.add]⟩
instance : FLD Try.prog 48 2 2 := ⟨fun w b o => by simp [Instr.fieldAt, Instr.sureAddr, fieldPlace, Addr.add]⟩
instance : FLD Try.prog 48 3 3 := ⟨fun w b o => by simp [Instr.fieldAt, Instr.sureAddr, fieldPlace, Addr.add]⟩
instance : TI Try.prog 48 4 40 true (.agg #[(.pointer none), (.pointer none), (.pointer none), (.string { data := #[] })]) := ⟨by kernel_rfl, by kernel_rfl, rfl⟩
instance : ARR Try.prog 49 0 16 := ⟨by kernel_rfl⟩
instance : TI Try.prog 49 0 0 true (.agg #[]) := ⟨by kernel_rfl, by kernel_rfl, rfl⟩
instance : SF Try.prog 50 [(49, 0)] := ⟨by kernel_rfl⟩
instance : TI Try.prog 50 0 0 true (.agg #[]) := ⟨by kernel_rfl, by kernel_rfl, rfl⟩
instance : SF Try.prog 51 [(49, 0)] := ⟨by kernel_rfl⟩
instance : TI Try.prog 51 0 0 true (.agg #[]) := ⟨by kernel_rfl, by kernel_rfl, rfl⟩
instance : TI Try.prog 52 1 8 false .nilFunc := ⟨by kernel_rfl, by kernel_rfl, rfl⟩
instance : INT Try.prog 53 .u8 := ⟨by kernel_rfl⟩
instance : TI Try.prog 53 1 1 false (.int .u8 0) := ⟨by kernel_rfl, by kernel_rfl, rfl⟩
instance : INT Try.prog 54 .u8 := ⟨by kernel_rfl⟩
instance : TI Try.prog 54 1 1 false (.int .u8 0) := ⟨by kernel_rfl, by kernel_rfl, rfl⟩
instance : TI Try.prog 55 1 8 false .nilFunc := ⟨by kernel_rfl, by kernel_rfl, rfl⟩
instance : TI Try.prog 56 1 8 false (.pointer none) := ⟨by kernel_rfl, by kernel_rfl, rfl⟩
instance : INT Try.prog 57 .i32 := ⟨by kernel_rfl⟩
instance : TI Try.prog 57 1 4 false (.int .i32 0) := ⟨by kernel_rfl, by kernel_rfl, rfl⟩
instance : INT Try.prog 58 .i32 := ⟨by kernel_rfl⟩
instance : TI Try.prog 58 1 4 false (.int .i32 0) := ⟨by kernel_rfl, by kernel_rfl, rfl⟩
instance : SF Try.prog 59 [(12, 0), (12, 1), (25, 2), (53, 3), (5, 4), (5, 5), (54, 6), (55, 7), (56, 8), (57, 9), (58, 10)] := ⟨by kernel_rfl⟩
instance : FLD Try.prog 59 0 0 := ⟨fun w b o => by simp [Instr.fieldAt, Instr.sureAddr, fieldPlace, Addr.add]⟩
instance : FLD Try.prog 59 1 1 := ⟨fun w b o => by simp [Instr.fieldAt, Instr.sureAddr, fieldPlace, Addr.add]⟩
instance : FLD Try.prog 59 2 2 := ⟨fun w b o => by simp [Instr.fieldAt, Instr.sureAddr, fieldPlace, Addr.add]⟩
instance : FLD Try.prog 59 3 3 := ⟨fun w b o => by simp [Instr.fieldAt, Instr.sureAddr, fieldPlace, Addr.add]⟩
instance : FLD Try.prog 59 4 4 := ⟨fun w b o => by simp [Instr.fieldAt, Instr.sureAddr, fieldPlace, Addr.add]⟩
instance : FLD Try.prog 59 5 5 := ⟨fun w b o => by simp [Instr.fieldAt, Instr.sureAddr, fieldPlace, Addr.add]⟩
instance : FLD Try.prog 59 6 6 := ⟨fun w b o => by simp [Instr.fieldAt, Instr.sureAddr, fieldPlace, Addr.add]⟩
instance : FLD Try.prog 59 7 7 := ⟨fun w b o => by simp [Instr.fieldAt, Instr.sureAddr, fieldPlace, Addr.add]⟩
instance : FLD Try.prog 59 8 8 := ⟨fun w b o => by simp [Instr.fieldAt, Instr.sureAddr, fieldPlace, Addr.add]⟩
instance : FLD Try.prog 59 9 9 := ⟨fun w b o => by simp [Instr.fieldAt, Instr.sureAddr, fieldPlace, Addr.add]⟩
instance : FLD Try.prog 59 10 10 := ⟨fun w b o => by simp [Instr.fieldAt, Instr.sureAddr, fieldPlace, Addr.add]⟩
instance : TI Try.prog 59 11 48 true (.agg #[(.int .u64 0), (.int .u64 0), (.int .u32 0), (.int .u8 0), (.int .u8 0), (.int .u8 0), (.int .u8 0), .nilFunc, (.pointer none), (.int .i32 0), (.int .i32 0)]) := ⟨by kernel_rfl, by kernel_rfl, rfl⟩
instance : SF Try.prog 60 [(12, 0), (12, 1), (25, 2), (53, 3), (5, 4), (5, 5), (54, 6), (55, 7), (56, 8), (57, 9), (58, 10)] := ⟨by kernel_rfl⟩
instance : FLD Try.prog 60 0 0 := ⟨fun w b o => by simp [Instr.fieldAt, Instr.sureAddr, fieldPlace, Addr.add]⟩
instance : FLD Try.prog 60 1 1 := ⟨fun w b o => by simp [Instr.fieldAt, Instr.sureAddr, fieldPlace, Addr.add]⟩
instance : FLD Try.prog 60 2 2 := ⟨fun w b o => by simp [Instr.fieldAt, Instr.sureAddr, fieldPlace, Addr.add]⟩
instance : FLD Try.prog 60 3 3 := ⟨fun w b o => by simp [Instr.fieldAt, Instr.sureAddr, fieldPlace, Addr.add]⟩
instance : FLD Try.prog 60 4 4 := ⟨fun w b o => by simp [Instr.fieldAt, Instr.sureAddr, fieldPlace, Addr.add]⟩
instance : FLD Try.prog 60 5 5 := ⟨fun w b o => by simp [Instr.fieldAt, Instr.sureAddr, fieldPlace, Addr.add]⟩
instance : FLD Try.prog 60 6 6 := ⟨fun w b o => by simp [Instr.fieldAt, Instr.sureAddr, fieldPlace, Addr.add]⟩
instance : FLD Try.prog 60 7 7 := ⟨fun w b o => by simp [Instr.fieldAt, Instr.sureAddr, fieldPlace, Addr.add]⟩
instance : FLD Try.prog 60 8 8 := ⟨fun w b o => by simp [Instr.fieldAt, Instr.sureAddr, fieldPlace, Addr.add]⟩
instance : FLD Try.prog 60 9 9 := ⟨fun w b o => by simp [Instr.fieldAt, Instr.sureAddr, fieldPlace, Addr.add]⟩
instance : FLD Try.prog 60 10 10 := ⟨fun w b o => by simp [Instr.fieldAt, Instr.sureAddr, fieldPlace, Addr.add]⟩
instance : TI Try.prog 60 11 48 true (.agg #[(.int .u64 0), (.int .u64 0), (.int .u32 0), (.int .u8 0), (.int .u8 0), (.int .u8 0), (.int .u8 0), .nilFunc, (.pointer none), (.int .i32 0), (.int .i32 0)]) := ⟨by kernel_rfl, by kernel_rfl, rfl⟩
instance : TI Try.prog 61 1 8 false (.pointer none) := ⟨by kernel_rfl, by kernel_rfl, rfl⟩
end Go.Proofs.Ythhgagkacogigaa
