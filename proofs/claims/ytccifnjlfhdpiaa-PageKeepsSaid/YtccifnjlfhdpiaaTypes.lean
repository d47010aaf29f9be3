/- What the program's own table says of its types. -/
import Derived.Test.YtccifnjlfhdpiaaProg
import Derived.Test.YtccifnjlfhdpiaaMem2
namespace Go.Proofs.Ytccifnjlfhdpiaa
instance : TI Try.prog 0 1 0 false (.tuple #[]) := ⟨by kernel_rfl, by kernel_rfl, rfl⟩
instance : TI Try.prog 1 1 8 false .nilFunc := ⟨by kernel_rfl, by kernel_rfl, rfl⟩
instance : INT Try.prog 2 .i64 := ⟨by kernel_rfl⟩
instance : TI Try.prog 2 1 8 false (.int .i64 0) := ⟨by kernel_rfl, by kernel_rfl, rfl⟩
instance : INT Try.prog 3 .i64 := ⟨by kernel_rfl⟩
instance : TI Try.prog 3 1 8 false (.int .i64 0) := ⟨by kernel_rfl, by kernel_rfl, rfl⟩
instance : TI Try.prog 4 1 1 false (.bool false) := ⟨by kernel_rfl, by kernel_rfl, rfl⟩
instance : INT Try.prog 5 .u8 := ⟨by kernel_rfl⟩
instance : TI Try.prog 5 1 1 false (.int .u8 0) := ⟨by kernel_rfl, by kernel_rfl, rfl⟩
instance : INT Try.prog 6 .u8 := ⟨by kernel_rfl⟩
instance : TI Try.prog 6 1 1 false (.int .u8 0) := ⟨by kernel_rfl, by kernel_rfl, rfl⟩
instance : SF Try.prog 7 [(2, 0), (3, 1), (4, 2), (6, 3)] := ⟨by kernel_rfl⟩
instance : FLD Try.prog 7 0 0 := ⟨fun w b o => by simp [Instr.fieldAt, Instr.sureAddr, fieldPlace, Addr.add]⟩
instance : FLD Try.prog 7 1 1 := ⟨fun w b o => by simp [Instr.fieldAt, Instr.sureAddr, fieldPlace, Addr.add]⟩
instance : FLD Try.prog 7 2 2 := ⟨fun w b o => by simp [Instr.fieldAt, Instr.sureAddr, fieldPlace, Addr.add]⟩
instance : FLD Try.prog 7 3 3 := ⟨fun w b o => by simp [Instr.fieldAt, Instr.sureAddr, fieldPlace, Addr.add]⟩
instance : TI Try.prog 7 4 24 true (.agg #[(.int .i64 0), (.int .i64 0), (.bool false), (.int .u8 0)]) := ⟨by kernel_rfl, by kernel_rfl, rfl⟩
instance : SF Try.prog 8 [(2, 0), (3, 1), (4, 2), (6, 3)] := ⟨by kernel_rfl⟩
instance : FLD Try.prog 8 0 0 := ⟨fun w b o => by simp [Instr.fieldAt, Instr.sureAddr, fieldPlace, Addr.add]⟩
instance : FLD Try.prog 8 1 1 := ⟨fun w b o => by simp [Instr.fieldAt, Instr.sureAddr, fieldPlace, Addr.add]⟩
instance : FLD Try.prog 8 2 2 := ⟨fun w b o => by simp [Instr.fieldAt, Instr.sureAddr, fieldPlace, Addr.add]⟩
instance : FLD Try.prog 8 3 3 := ⟨fun w b o => by simp [Instr.fieldAt, Instr.sureAddr, fieldPlace, Addr.add]⟩
instance : TI Try.prog 8 4 24 true (.agg #[(.int .i64 0), (.int .i64 0), (.bool false), (.int .u8 0)]) := ⟨by kernel_rfl, by kernel_rfl, rfl⟩
instance : STR Try.prog 9 := ⟨by kernel_rfl⟩
instance : TI Try.prog 9 1 16 false (.string { data := #[] }) := ⟨by kernel_rfl, by kernel_rfl, rfl⟩
instance : STR Try.prog 10 := ⟨by kernel_rfl⟩
instance : TI Try.prog 10 1 16 false (.string { data := #[] }) := ⟨by kernel_rfl, by kernel_rfl, rfl⟩
instance : STR Try.prog 11 := ⟨by kernel_rfl⟩
instance : TI Try.prog 11 1 16 false (.string { data := #[] }) := ⟨by kernel_rfl, by kernel_rfl, rfl⟩
instance : INT Try.prog 12 .u64 := ⟨by kernel_rfl⟩
instance : TI Try.prog 12 1 8 false (.int .u64 0) := ⟨by kernel_rfl, by kernel_rfl, rfl⟩
instance : SF Try.prog 13 [(9, 0), (12, 1)] := ⟨by kernel_rfl⟩
instance : FLD Try.prog 13 0 0 := ⟨fun w b o => by simp [Instr.fieldAt, Instr.sureAddr, fieldPlace, Addr.add]⟩
instance : FLD Try.prog 13 1 1 := ⟨fun w b o => by simp [Instr.fieldAt, Instr.sureAddr, fieldPlace, Addr.add]⟩
instance : TI Try.prog 13 2 24 true (.agg #[(.string { data := #[] }), (.int .u64 0)]) := ⟨by kernel_rfl, by kernel_rfl, rfl⟩
instance : SF Try.prog 14 [(9, 0), (12, 1)] := ⟨by kernel_rfl⟩
instance : FLD Try.prog 14 0 0 := ⟨fun w b o => by simp [Instr.fieldAt, Instr.sureAddr, fieldPlace, Addr.add]⟩
instance : FLD Try.prog 14 1 1 := ⟨fun w b o => by simp [Instr.fieldAt, Instr.sureAddr, fieldPlace, Addr.add]⟩
instance : TI Try.prog 14 2 24 true (.agg #[(.string { data := #[] }), (.int .u64 0)]) := ⟨by kernel_rfl, by kernel_rfl, rfl⟩
instance : TI Try.prog 15 1 8 false (.pointer none) := ⟨by kernel_rfl, by kernel_rfl, rfl⟩
instance : TI Try.prog 16 1 8 false (.pointer none) := ⟨by kernel_rfl, by kernel_rfl, rfl⟩
instance : TI Try.prog 17 1 8 false (.pointer none) := ⟨by kernel_rfl, by kernel_rfl, rfl⟩
instance : SF Try.prog 18 [(17, 0)] := ⟨by kernel_rfl⟩
instance : FLD Try.prog 18 0 0 := ⟨fun w b o => by simp [Instr.fieldAt, Instr.sureAddr, fieldPlace, Addr.add]⟩
instance : TI Try.prog 18 1 8 true (.agg #[(.pointer none)]) := ⟨by kernel_rfl, by kernel_rfl, rfl⟩
instance : SF Try.prog 19 [(17, 0)] := ⟨by kernel_rfl⟩
instance : FLD Try.prog 19 0 0 := ⟨fun w b o => by simp [Instr.fieldAt, Instr.sureAddr, fieldPlace, Addr.add]⟩
instance : TI Try.prog 19 1 8 true (.agg #[(.pointer none)]) := ⟨by kernel_rfl, by kernel_rfl, rfl⟩
instance : TI Try.prog 20 1 16 false .nilIface := ⟨by kernel_rfl, by kernel_rfl, rfl⟩
instance : INT Try.prog 21 .i32 := ⟨by kernel_rfl⟩
instance : TI Try.prog 21 1 4 false (.int .i32 0) := ⟨by kernel_rfl, by kernel_rfl, rfl⟩
instance : SL Try.prog 22 33 := ⟨by kernel_rfl⟩
instance : TI Try.prog 22 1 24 false (.slice none 0 0) := ⟨by kernel_rfl, by kernel_rfl, rfl⟩
instance : SL Try.prog 23 4 := ⟨by kernel_rfl⟩
instance : TI Try.prog 23 1 24 false (.slice none 0 0) := ⟨by kernel_rfl, by kernel_rfl, rfl⟩
instance : TI Try.prog 24 1 8 false (.pointer none) := ⟨by kernel_rfl, by kernel_rfl, rfl⟩
instance : INT Try.prog 25 .i64 := ⟨by kernel_rfl⟩
instance : TI Try.prog 25 1 8 false (.int .i64 0) := ⟨by kernel_rfl, by kernel_rfl, rfl⟩
instance : TI Try.prog 26 1 0 false (.tuple #[(.pointer none), (.int .i64 0)]) := ⟨by kernel_rfl, by kernel_rfl, rfl⟩
instance : TI Try.prog 27 1 8 false .nilFunc := ⟨by kernel_rfl, by kernel_rfl, rfl⟩
instance : TI Try.prog 28 1 8 false (.pointer none) := ⟨by kernel_rfl, by kernel_rfl, rfl⟩
instance : TI Try.prog 29 1 0 false (.tuple #[(.pointer none), (.int .i64 0)]) := ⟨by kernel_rfl, by kernel_rfl, rfl⟩
instance : TI Try.prog 30 1 8 false .nilFunc := ⟨by kernel_rfl, by kernel_rfl, rfl⟩
instance : SL Try.prog 31 3 := ⟨by kernel_rfl⟩
instance : TI Try.prog 31 1 24 false (.slice none 0 0) := ⟨by kernel_rfl, by kernel_rfl, rfl⟩
instance : SL Try.prog 32 9 := ⟨by kernel_rfl⟩
instance : TI Try.prog 32 1 24 false (.slice none 0 0) := ⟨by kernel_rfl, by kernel_rfl, rfl⟩
instance : SL Try.prog 33 5 := ⟨by kernel_rfl⟩
instance : TI Try.prog 33 1 24 false (.slice none 0 0) := ⟨by kernel_rfl, by kernel_rfl, rfl⟩
instance : TI Try.prog 34 1 0 false (.tuple #[(.int .i64 0), (.int .i64 0)]) := ⟨by kernel_rfl, by kernel_rfl, rfl⟩
instance : TI Try.prog 35 1 8 false .nilFunc := ⟨by kernel_rfl, by kernel_rfl, rfl⟩
instance : TI Try.prog 36 1 8 false .nilFunc := ⟨by kernel_rfl, by kernel_rfl, rfl⟩
instance : TI Try.prog 37 1 8 false .nilFunc := ⟨by kernel_rfl, by kernel_rfl, rfl⟩
instance : MPT Try.prog 38 3 3 := ⟨by kernel_rfl⟩
instance : TI Try.prog 38 1 8 false (.map none) := ⟨by kernel_rfl, by kernel_rfl, rfl⟩
instance : SF Try.prog 39 [(3, 0), (38, 1)] := ⟨by kernel_rfl⟩
instance : FLD Try.prog 39 0 0 := ⟨fun w b o => by simp [Instr.fieldAt, Instr.sureAddr, fieldPlace, Addr.add]⟩
instance : FLD Try.prog 39 1 1 := ⟨fun w b o => by simp [Instr.fieldAt, Instr.sureAddr, fieldPlace, Addr.add]⟩
instance : TI Try.prog 39 2 16 true (.agg #[(.int .i64 0), (.map none)]) := ⟨by kernel_rfl, by kernel_rfl, rfl⟩
instance : SF Try.prog 40 [(3, 0), (38, 1)] := ⟨by kernel_rfl⟩
instance : FLD Try.prog 40 0 0 := ⟨fun w b o => by simp [Instr.fieldAt, Instr.sureAddr, fieldPlace, Addr.add]⟩
instance : FLD Try.prog 40 1 1 := ⟨fun w b o => by simp [Instr.fieldAt, Instr.sureAddr, fieldPlace, Addr.add]⟩
instance : TI Try.prog 40 2 16 true (.agg #[(.int .i64 0), (.map none)]) := ⟨by kernel_rfl, by kernel_rfl, rfl⟩
instance : INT Try.prog 41 .u64 := ⟨by kernel_rfl⟩
instance : TI Try.prog 41 1 8 false (.int .u64 0) := ⟨by kernel_rfl, by kernel_rfl, rfl⟩
instance : SF Try.prog 42 [(41, 0), (3, 1)] := ⟨by kernel_rfl⟩
instance : FLD Try.prog 42 0 0 := ⟨fun w b o => by simp [Instr.fieldAt, Instr.sureAddr, fieldPlace, Addr.add]⟩
instance : FLD Try.prog 42 1 1 := ⟨fun w b o => by simp [Instr.fieldAt, Instr.sureAddr, fieldPlace, Addr.add]⟩
instance : TI Try.prog 42 2 16 true (.agg #[(.int .u64 0), (.int .i64 0)]) := ⟨by kernel_rfl, by kernel_rfl, rfl⟩
instance : SF Try.prog 43 [(41, 0), (3, 1)] := ⟨by kernel_rfl⟩
instance : FLD Try.prog 43 0 0 := ⟨fun w b o => by simp [Instr.fieldAt, Instr.sureAddr, fieldPlace, Addr.add]⟩
instance : FLD Try.prog 43 1 1 := ⟨fun w b o => by simp [Instr.fieldAt, Instr.sureAddr, fieldPlace, Addr.add]⟩
instance : TI Try.prog 43 2 16 true (.agg #[(.int .u64 0), (.int .i64 0)]) := ⟨by kernel_rfl, by kernel_rfl, rfl⟩
instance : SF Try.prog 44 [(40, 0), (24, 2), (3, 3), (43, 4)] := ⟨by kernel_rfl⟩
instance : FLD Try.prog 44 0 0 := ⟨fun w b o => by simp [Instr.fieldAt, Instr.sureAddr, fieldPlace, Addr.add]⟩
instance : FLD Try.prog 44 1 2 := ⟨fun w b o => by simp [Instr.fieldAt, Instr.sureAddr, fieldPlace, Addr.add]⟩
instance : FLD Try.prog 44 2 3 := ⟨fun w b o => by simp [Instr.fieldAt, Instr.sureAddr, fieldPlace, Addr.add]⟩
instance : FLD Try.prog 44 3 4 := ⟨fun w b o => by simp [Instr.fieldAt, Instr.sureAddr, fieldPlace, Addr.add]⟩
instance : TI Try.prog 44 6 48 true (.agg #[(.int .i64 0), (.map none), (.pointer none), (.int .i64 0), (.int .u64 0), (.int .i64 0)]) := ⟨by kernel_rfl, by kernel_rfl, rfl⟩
instance : SF Try.prog 45 [(40, 0), (24, 2), (3, 3), (43, 4)] := ⟨by kernel_rfl⟩
instance : FLD Try.prog 45 0 0 := ⟨fun w b o => by simp [Instr.fieldAt, Instr.sureAddr, fieldPlace, Addr.add]⟩
instance : FLD Try.prog 45 1 2 := ⟨fun w b o => by simp [Instr.fieldAt, Instr.sureAddr, fieldPlace, Addr.add]⟩
instance : FLD Try.prog 45 2 3 := ⟨fun w b o => by simp [Instr.fieldAt, Instr.sureAddr, fieldPlace, Addr.add]⟩
instance : FLD Try.prog 45 3 4 := ⟨fun w b o => by simp [Instr.fieldAt, Instr.sureAddr, fieldPlace, Addr.add]⟩
instance : TI Try.prog 45 6 48 true (.agg #[(.int .i64 0), (.map none), (.pointer none), (.int .i64 0), (.int .u64 0), (.int .i64 0)]) := ⟨by kernel_rfl, by kernel_rfl, rfl⟩
instance : TI Try.prog 46 1 0 false (.tuple #[(.slice none 0 0), (.int .i64 0)]) := ⟨by kernel_rfl, by kernel_rfl, rfl⟩
instance : TI Try.prog 47 1 8 false .nilFunc := ⟨by kernel_rfl, by kernel_rfl, rfl⟩
instance : TI Try.prog 48 1 8 false .nilFunc := ⟨by kernel_rfl, by kernel_rfl, rfl⟩
instance : TI Try.prog 49 1 8 false .nilFunc := ⟨by kernel_rfl, by kernel_rfl, rfl⟩
instance : INT Try.prog 50 .u32 := ⟨by kernel_rfl⟩
instance : TI Try.prog 50 1 4 false (.int .u32 0) := ⟨by kernel_rfl, by kernel_rfl, rfl⟩
instance : ARR Try.prog 51 3 3 := ⟨by kernel_rfl⟩
instance : TI Try.prog 51 3 24 true (.agg (List.replicate 3 (.int .i64 0)).toArray) := ⟨by kernel_rfl, by kernel_rfl, by kernel_rfl⟩
instance : TI Try.prog 52 1 8 false .nilFunc := ⟨by kernel_rfl, by kernel_rfl, rfl⟩
instance : INT Try.prog 53 .u64 := ⟨by kernel_rfl⟩
instance : TI Try.prog 53 1 8 false (.int .u64 0) := ⟨by kernel_rfl, by kernel_rfl, rfl⟩
instance : TI Try.prog 54 1 8 false .nilFunc := ⟨by kernel_rfl, by kernel_rfl, rfl⟩
instance : SL Try.prog 55 59 := ⟨by kernel_rfl⟩
instance : TI Try.prog 55 1 24 false (.slice none 0 0) := ⟨by kernel_rfl, by kernel_rfl, rfl⟩
instance : SF Try.prog 56 [(3, 0), (41, 1), (3, 2), (3, 3)] := ⟨by kernel_rfl⟩
instance : FLD Try.prog 56 0 0 := ⟨fun w b o => by simp [Instr.fieldAt, Instr.sureAddr, fieldPlace, Addr.add]⟩
instance : FLD Try.prog 56 1 1 := ⟨fun w b o => by simp [Instr.fieldAt, Instr.sureAddr, fieldPlace, Addr.add]⟩
instance : FLD Try.prog 56 2 2 := ⟨fun w b o => by simp [Instr.fieldAt, Instr.sureAddr, fieldPlace, Addr.add]⟩
instance : FLD Try.prog 56 3 3 := ⟨fun w b o => by simp [Instr.fieldAt, Instr.sureAddr, fieldPlace, Addr.add]⟩
instance : TI Try.prog 56 4 32 true (.agg #[(.int .i64 0), (.int .u64 0), (.int .i64 0), (.int .i64 0)]) := ⟨by kernel_rfl, by kernel_rfl, rfl⟩
instance : SF Try.prog 57 [(3, 0), (41, 1), (3, 2), (3, 3)] := ⟨by kernel_rfl⟩
instance : FLD Try.prog 57 0 0 := ⟨fun w b o => by simp [Instr.fieldAt, Instr.sureAddr, fieldPlace, Addr.add]⟩
instance : FLD Try.prog 57 1 1 := ⟨fun w b o => by simp [Instr.fieldAt, Instr.sureAddr, fieldPlace, Addr.add]⟩
instance : FLD Try.prog 57 2 2 := ⟨fun w b o => by simp [Instr.fieldAt, Instr.sureAddr, fieldPlace, Addr.add]⟩
instance : FLD Try.prog 57 3 3 := ⟨fun w b o => by simp [Instr.fieldAt, Instr.sureAddr, fieldPlace, Addr.add]⟩
instance : TI Try.prog 57 4 32 true (.agg #[(.int .i64 0), (.int .u64 0), (.int .i64 0), (.int .i64 0)]) := ⟨by kernel_rfl, by kernel_rfl, rfl⟩
instance : SF Try.prog 58 [(3, 0), (3, 1), (33, 2), (57, 3)] := ⟨by kernel_rfl⟩
instance : FLD Try.prog 58 0 0 := ⟨fun w b o => by simp [Instr.fieldAt, Instr.sureAddr, fieldPlace, Addr.add]⟩
instance : FLD Try.prog 58 1 1 := ⟨fun w b o => by simp [Instr.fieldAt, Instr.sureAddr, fieldPlace, Addr.add]⟩
instance : FLD Try.prog 58 2 2 := ⟨fun w b o => by simp [Instr.fieldAt, Instr.sureAddr, fieldPlace, Addr.add]⟩
instance : FLD Try.prog 58 3 3 := ⟨fun w b o => by simp [Instr.fieldAt, Instr.sureAddr, fieldPlace, Addr.add]⟩
instance : TI Try.prog 58 7 72 true (.agg #[(.int .i64 0), (.int .i64 0), (.slice none 0 0), (.int .i64 0), (.int .u64 0), (.int .i64 0), (.int .i64 0)]) := ⟨by kernel_rfl, by kernel_rfl, rfl⟩
instance : SF Try.prog 59 [(3, 0), (3, 1), (33, 2), (57, 3)] := ⟨by kernel_rfl⟩
instance : FLD Try.prog 59 0 0 := ⟨fun w b o => by simp [Instr.fieldAt, Instr.sureAddr, fieldPlace, Addr.add]⟩
instance : FLD Try.prog 59 1 1 := ⟨fun w b o => by simp [Instr.fieldAt, Instr.sureAddr, fieldPlace, Addr.add]⟩
instance : FLD Try.prog 59 2 2 := ⟨fun w b o => by simp [Instr.fieldAt, Instr.sureAddr, fieldPlace, Addr.add]⟩
instance : FLD Try.prog 59 3 3 := ⟨fun w b o => by simp [Instr.fieldAt, Instr.sureAddr, fieldPlace, Addr.add]⟩
instance : TI Try.prog 59 7 72 true (.agg #[(.int .i64 0), (.int .i64 0), (.slice none 0 0), (.int .i64 0), (.int .u64 0), (.int .i64 0), (.int .i64 0)]) := ⟨by kernel_rfl, by kernel_rfl, rfl⟩
instance : TI Try.prog 60 1 8 false .nilFunc := ⟨by kernel_rfl, by kernel_rfl, rfl⟩
instance : TI Try.prog 61 1 8 false .nilFunc := ⟨by kernel_rfl, by kernel_rfl, rfl⟩
instance : TI Try.prog 62 1 8 false .nilFunc := ⟨by kernel_rfl, by kernel_rfl, rfl⟩
instance : SL Try.prog 63 57 := ⟨by kernel_rfl⟩
instance : TI Try.prog 63 1 24 false (.slice none 0 0) := ⟨by kernel_rfl, by kernel_rfl, rfl⟩
instance : TI Try.prog 64 1 8 false .nilFunc := ⟨by kernel_rfl, by kernel_rfl, rfl⟩
instance : MPT Try.prog 65 3 33 := ⟨by kernel_rfl⟩
instance : TI Try.prog 65 1 8 false (.map none) := ⟨by kernel_rfl, by kernel_rfl, rfl⟩
instance : SL Try.prog 66 82 := ⟨by kernel_rfl⟩
instance : TI Try.prog 66 1 24 false (.slice none 0 0) := ⟨by kernel_rfl, by kernel_rfl, rfl⟩
instance : SF Try.prog 67 [(3, 0), (65, 1), (66, 2), (4, 3), (3, 4), (57, 5)] := ⟨by kernel_rfl⟩
instance : FLD Try.prog 67 0 0 := ⟨fun w b o => by simp [Instr.fieldAt, Instr.sureAddr, fieldPlace, Addr.add]⟩
instance : FLD Try.prog 67 1 1 := ⟨fun w b o => by simp [Instr.fieldAt, Instr.sureAddr, fieldPlace, Addr.add]⟩
instance : FLD Try.prog 67 2 2 := ⟨fun w b o => by simp [Instr.fieldAt, Instr.sureAddr, fieldPlace, Addr.add]⟩
instance : FLD Try.prog 67 3 3 := ⟨fun w b o => by simp [Instr.fieldAt, Instr.sureAddr, fieldPlace, Addr.add]⟩
instance : FLD Try.prog 67 4 4 := ⟨fun w b o => by simp [Instr.fieldAt, Instr.sureAddr, fieldPlace, Addr.add]⟩
instance : FLD Try.prog 67 5 5 := ⟨fun w b o => by simp [Instr.fieldAt, Instr.sureAddr, fieldPlace, Addr.add]⟩
instance : TI Try.prog 67 9 88 true (.agg #[(.int .i64 0), (.map none), (.slice none 0 0), (.bool false), (.int .i64 0), (.int .i64 0), (.int .u64 0), (.int .i64 0), (.int .i64 0)]) := ⟨by kernel_rfl, by kernel_rfl, rfl⟩
instance : SF Try.prog 68 [(3, 0), (65, 1), (66, 2), (4, 3), (3, 4), (57, 5)] := ⟨by kernel_rfl⟩
instance : FLD Try.prog 68 0 0 := ⟨fun w b o => by simp [Instr.fieldAt, Instr.sureAddr, fieldPlace, Addr.add]⟩
instance : FLD Try.prog 68 1 1 := ⟨fun w b o => by simp [Instr.fieldAt, Instr.sureAddr, fieldPlace, Addr.add]⟩
instance : FLD Try.prog 68 2 2 := ⟨fun w b o => by simp [Instr.fieldAt, Instr.sureAddr, fieldPlace, Addr.add]⟩
instance : FLD Try.prog 68 3 3 := ⟨fun w b o => by simp [Instr.fieldAt, Instr.sureAddr, fieldPlace, Addr.add]⟩
instance : FLD Try.prog 68 4 4 := ⟨fun w b o => by simp [Instr.fieldAt, Instr.sureAddr, fieldPlace, Addr.add]⟩
instance : FLD Try.prog 68 5 5 := ⟨fun w b o => by simp [Instr.fieldAt, Instr.sureAddr, fieldPlace, Addr.add]⟩
instance : TI Try.prog 68 9 88 true (.agg #[(.int .i64 0), (.map none), (.slice none 0 0), (.bool false), (.int .i64 0), (.int .i64 0), (.int .u64 0), (.int .i64 0), (.int .i64 0)]) := ⟨by kernel_rfl, by kernel_rfl, rfl⟩
instance : TI Try.prog 69 1 0 false (.tuple #[(.agg #[(.int .u64 0), (.int .i64 0)]), (.bool false)]) := ⟨by kernel_rfl, by kernel_rfl, rfl⟩
instance : TI Try.prog 70 1 8 false .nilFunc := ⟨by kernel_rfl, by kernel_rfl, rfl⟩
instance : TI Try.prog 71 1 8 false .nilFunc := ⟨by kernel_rfl, by kernel_rfl, rfl⟩
instance : TI Try.prog 72 1 8 false .nilFunc := ⟨by kernel_rfl, by kernel_rfl, rfl⟩
instance : TI Try.prog 73 1 8 false .nilFunc := ⟨by kernel_rfl, by kernel_rfl, rfl⟩
instance : TI Try.prog 74 1 8 false .nilFunc := ⟨by kernel_rfl, by kernel_rfl, rfl⟩
instance : TI Try.prog 75 1 8 false (.pointer none) := ⟨by kernel_rfl, by kernel_rfl, rfl⟩
instance : TI Try.prog 76 1 8 false .nilFunc := ⟨by kernel_rfl, by kernel_rfl, rfl⟩
instance : TI Try.prog 77 1 8 false .nilFunc := ⟨by kernel_rfl, by kernel_rfl, rfl⟩
instance : TI Try.prog 78 1 8 false .nilFunc := ⟨by kernel_rfl, by kernel_rfl, rfl⟩
instance : TI Try.prog 79 1 8 false .nilFunc := ⟨by kernel_rfl, by kernel_rfl, rfl⟩
instance : TI Try.prog 80 1 8 false .nilFunc := ⟨by kernel_rfl, by kernel_rfl, rfl⟩
instance : SF Try.prog 81 [(3, 0), (33, 1)] := ⟨by kernel_rfl⟩
instance : FLD Try.prog 81 0 0 := ⟨fun w b o => by simp [Instr.fieldAt, Instr.sureAddr, fieldPlace, Addr.add]⟩
instance : FLD Try.prog 81 1 1 := ⟨fun w b o => by simp [Instr.fieldAt, Instr.sureAddr, fieldPlace, Addr.add]⟩
instance : TI Try.prog 81 2 32 true (.agg #[(.int .i64 0), (.slice none 0 0)]) := ⟨by kernel_rfl, by kernel_rfl, rfl⟩
instance : SF Try.prog 82 [(3, 0), (33, 1)] := ⟨by kernel_rfl⟩
instance : FLD Try.prog 82 0 0 := ⟨fun w b o => by simp [Instr.fieldAt, Instr.sureAddr, fieldPlace, Addr.add]⟩
instance : FLD Try.prog 82 1 1 := ⟨fun w b o => by simp [Instr.fieldAt, Instr.sureAddr, fieldPlace, Addr.add]⟩
instance : TI Try.prog 82 2 32 true (.agg #[(.int .i64 0), (.slice none 0 0)]) := ⟨by kernel_rfl, by kernel_rfl, rfl⟩
instance : TI Try.prog 83 1 8 false .nilFunc := ⟨by kernel_rfl, by kernel_rfl, rfl⟩
instance : TI Try.prog 84 1 8 false .nilFunc := ⟨by kernel_rfl, by kernel_rfl, rfl⟩
instance : TI Try.prog 85 1 8 false .nilFunc := ⟨by kernel_rfl, by kernel_rfl, rfl⟩
instance : TI Try.prog 86 1 8 false .nilFunc := ⟨by kernel_rfl, by kernel_rfl, rfl⟩
instance : ARR Try.prog 87 256 50 := ⟨by kernel_rfl⟩
instance : TI Try.prog 87 256 1024 true (.agg (List.replicate 256 (.int .u32 0)).toArray) := ⟨by kernel_rfl, by kernel_rfl, by kernel_rfl⟩
instance : ARR Try.prog 88 4 87 := ⟨by kernel_rfl⟩
instance : TI Try.prog 88 1024 4096 true (.agg (List.replicate 1024 (.int .u32 0)).toArray) := ⟨by kernel_rfl, by kernel_rfl, by kernel_rfl⟩
instance : ARR Try.prog 89 4 87 := ⟨by kernel_rfl⟩
instance : TI Try.prog 89 1024 4096 true (.agg (List.replicate 1024 (.int .u32 0)).toArray) := ⟨by kernel_rfl, by kernel_rfl, by kernel_rfl⟩
instance : TI Try.prog 90 1 8 false (.pointer none) := ⟨by kernel_rfl, by kernel_rfl, rfl⟩
instance : TI Try.prog 91 1 8 false .nilFunc := ⟨by kernel_rfl, by kernel_rfl, rfl⟩
instance : SF Try.prog 92 [(17, 0), (17, 1), (17, 2), (9, 3)] := ⟨by kernel_rfl⟩
instance : FLD Try.prog 92 0 0 := ⟨fun w b o => by simp [Instr.fieldAt, Instr.sureAddr, fieldPlace, Addr.add]⟩
instance : FLD Try.prog 92 1 1 := ⟨fun w b o => by simp [Instr.fieldAt, Instr.sureAddr, fieldPlace, Addr.add]⟩
instance : FLD Try.prog 92 2 2 := ⟨fun w b o => by simp [Instr.fieldAt, Instr.sureAddr, fieldPlace, Addr.add]⟩
instance : FLD Try.prog 92 3 3 := ⟨fun w b o => by simp [Instr.fieldAt, Instr.sureAddr, fieldPlace, Addr.add]⟩
instance : TI Try.prog 92 4 40 true (.agg #[(.pointer none), (.pointer none), (.pointer none), (.string { data := #[] })]) := ⟨by kernel_rfl, by kernel_rfl, rfl⟩
instance : SF Try.prog 93 [(17, 0), (17, 1), (17, 2), (9, 3)] := ⟨by kernel_rfl⟩
instance : FLD Try.prog 93 0 0 := ⟨fun w b o => by simp [Instr.fieldAt, Instr.sureAddr, fieldPlace, Addr.add]⟩
instance : FLD Try.prog 93 1 1 := ⟨fun w b o => by simp [Instr.fieldAt, Instr.sureAddr, fieldPlace, Addr.add]⟩
instance : FLD Try.prog 93 2 2 := ⟨fun w b o => by simp [Instr.fieldAt, Instr.sureAddr, fieldPlace, Addr.add]⟩
instance : FLD Try.prog 93 3 3 := ⟨fun w b o => by simp [Instr.fieldAt, Instr.sureAddr, fieldPlace, Addr.add]⟩
instance : TI Try.prog 93 4 40 true (.agg #[(.pointer none), (.pointer none), (.pointer none), (.string { data := #[] })]) := ⟨by kernel_rfl, by kernel_rfl, rfl⟩
instance : ARR Try.prog 94 0 16 := ⟨by kernel_rfl⟩
instance : TI Try.prog 94 0 0 true (.agg #[]) := ⟨by kernel_rfl, by kernel_rfl, rfl⟩
instance : SF Try.prog 95 [(94, 0)] := ⟨by kernel_rfl⟩
instance : TI Try.prog 95 0 0 true (.agg #[]) := ⟨by kernel_rfl, by kernel_rfl, rfl⟩
instance : SF Try.prog 96 [(94, 0)] := ⟨by kernel_rfl⟩
instance : TI Try.prog 96 0 0 true (.agg #[]) := ⟨by kernel_rfl, by kernel_rfl, rfl⟩
instance : INT Try.prog 97 .u8 := ⟨by kernel_rfl⟩
instance : TI Try.prog 97 1 1 false (.int .u8 0) := ⟨by kernel_rfl, by kernel_rfl, rfl⟩
instance : INT Try.prog 98 .u8 := ⟨by kernel_rfl⟩
instance : TI Try.prog 98 1 1 false (.int .u8 0) := ⟨by kernel_rfl, by kernel_rfl, rfl⟩
instance : TI Try.prog 99 1 8 false .nilFunc := ⟨by kernel_rfl, by kernel_rfl, rfl⟩
instance : TI Try.prog 100 1 8 false (.pointer none) := ⟨by kernel_rfl, by kernel_rfl, rfl⟩
instance : INT Try.prog 101 .i32 := ⟨by kernel_rfl⟩
instance : TI Try.prog 101 1 4 false (.int .i32 0) := ⟨by kernel_rfl, by kernel_rfl, rfl⟩
instance : INT Try.prog 102 .i32 := ⟨by kernel_rfl⟩
instance : TI Try.prog 102 1 4 false (.int .i32 0) := ⟨by kernel_rfl, by kernel_rfl, rfl⟩
instance : SF Try.prog 103 [(12, 0), (12, 1), (50, 2), (97, 3), (5, 4), (5, 5), (98, 6), (99, 7), (100, 8), (101, 9), (102, 10)] := ⟨by kernel_rfl⟩
instance : FLD Try.prog 103 0 0 := ⟨fun w b o => by simp [Instr.fieldAt, Instr.sureAddr, fieldPlace, Addr.add]⟩
instance : FLD Try.prog 103 1 1 := ⟨fun w b o => by simp [Instr.fieldAt, Instr.sureAddr, fieldPlace, Addr.add]⟩
instance : FLD Try.prog 103 2 2 := ⟨fun w b o => by simp [Instr.fieldAt, Instr.sureAddr, fieldPlace, Addr.add]⟩
instance : FLD Try.prog 103 3 3 := ⟨fun w b o => by simp [Instr.fieldAt, Instr.sureAddr, fieldPlace, Addr.add]⟩
instance : FLD Try.prog 103 4 4 := ⟨fun w b o => by simp [Instr.fieldAt, Instr.sureAddr, fieldPlace, Addr.add]⟩
instance : FLD Try.prog 103 5 5 := ⟨fun w b o => by simp [Instr.fieldAt, Instr.sureAddr, fieldPlace, Addr.add]⟩
instance : FLD Try.prog 103 6 6 := ⟨fun w b o => by simp [Instr.fieldAt, Instr.sureAddr, fieldPlace, Addr.add]⟩
instance : FLD Try.prog 103 7 7 := ⟨fun w b o => by simp [Instr.fieldAt, Instr.sureAddr, fieldPlace, Addr.add]⟩
instance : FLD Try.prog 103 8 8 := ⟨fun w b o => by simp [Instr.fieldAt, Instr.sureAddr, fieldPlace, Addr.add]⟩
instance : FLD Try.prog 103 9 9 := ⟨fun w b o => by simp [Instr.fieldAt, Instr.sureAddr, fieldPlace, Addr.add]⟩
instance : FLD Try.prog 103 10 10 := ⟨fun w b o => by simp [Instr.fieldAt, Instr.sureAddr, fieldPlace, Addr.add]⟩
instance : TI Try.prog 103 11 48 true (.agg #[(.int .u64 0), (.int .u64 0), (.int .u32 0), (.int .u8 0), (.int .u8 0), (.int .u8 0), (.int .u8 0), .nilFunc, (.pointer none), (.int .i32 0), (.int .i32 0)]) := ⟨by kernel_rfl, by kernel_rfl, rfl⟩
instance : SF Try.prog 104 [(12, 0), (12, 1), (50, 2), (97, 3), (5, 4), (5, 5), (98, 6), (99, 7), (100, 8), (101, 9), (102, 10)] := ⟨by kernel_rfl⟩
instance : FLD Try.prog 104 0 0 := ⟨fun w b o => by simp [Instr.fieldAt, Instr.sureAddr, fieldPlace, Addr.add]⟩
instance : FLD Try.prog 104 1 1 := ⟨fun w b o => by simp [Instr.fieldAt, Instr.sureAddr, fieldPlace, Addr.add]⟩
instance : FLD Try.prog 104 2 2 := ⟨fun w b o => by simp [Instr.fieldAt, Instr.sureAddr, fieldPlace, Addr.add]⟩
instance : FLD Try.prog 104 3 3 := ⟨fun w b o => by simp [Instr.fieldAt, Instr.sureAddr, fieldPlace, Addr.add]⟩
instance : FLD Try.prog 104 4 4 := ⟨fun w b o => by simp [Instr.fieldAt, Instr.sureAddr, fieldPlace, Addr.add]⟩
instance : FLD Try.prog 104 5 5 := ⟨fun w b o => by simp [Instr.fieldAt, Instr.sureAddr, fieldPlace, Addr.add]⟩
instance : FLD Try.prog 104 6 6 := ⟨fun w b o => by simp [Instr.fieldAt, Instr.sureAddr, fieldPlace, Addr.add]⟩
instance : FLD Try.prog 104 7 7 := ⟨fun w b o => by simp [Instr.fieldAt, Instr.sureAddr, fieldPlace, Addr.add]⟩
instance : FLD Try.prog 104 8 8 := ⟨fun w b o => by simp [Instr.fieldAt, Instr.sureAddr, fieldPlace, Addr.add]⟩
instance : FLD Try.prog 104 9 9 := ⟨fun w b o => by simp [Instr.fieldAt, Instr.sureAddr, fieldPlace, Addr.add]⟩
instance : FLD Try.prog 104 10 10 := ⟨fun w b o => by simp [Instr.fieldAt, Instr.sureAddr, fieldPlace, Addr.add]⟩
instance : TI Try.prog 104 11 48 true (.agg #[(.int .u64 0), (.int .u64 0), (.int .u32 0), (.int .u8 0), (.int .u8 0), (.int .u8 0), (.int .u8 0), .nilFunc, (.pointer none), (.int .i32 0), (.int .i32 0)]) := ⟨by kernel_rfl, by kernel_rfl, rfl⟩
instance : TI Try.prog 105 1 8 false (.pointer none) := ⟨by kernel_rfl, by kernel_rfl, rfl⟩
end Go.Proofs.Ytccifnjlfhdpiaa
