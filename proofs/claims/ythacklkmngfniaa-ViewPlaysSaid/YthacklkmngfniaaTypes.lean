/- What the program's own table says of its types. -/
import Derived.Test.YthacklkmngfniaaProg
import Derived.Test.YthacklkmngfniaaMem2
namespace Go.Proofs.Ythacklkmngfniaa
instance : TI Try.prog 0 1 0 false (.tuple #[]) := ⟨by kernel_rfl, by kernel_rfl, rfl⟩
instance : TI Try.prog 1 1 8 false .nilFunc := ⟨by kernel_rfl, by kernel_rfl, rfl⟩
instance : INT Try.prog 2 .i64 := ⟨by kernel_rfl⟩
instance : TI Try.prog 2 1 8 false (.int .i64 0) := ⟨by kernel_rfl, by kernel_rfl, rfl⟩
instance : INT Try.prog 3 .i64 := ⟨by kernel_rfl⟩
instance : TI Try.prog 3 1 8 false (.int .i64 0) := ⟨by kernel_rfl, by kernel_rfl, rfl⟩
instance : TI Try.prog 4 1 1 false (.bool false) := ⟨by kernel_rfl, by kernel_rfl, rfl⟩
instance : INT Try.prog 5 .u8 := ⟨by kernel_rfl⟩
instance : TI Try.prog 5 1 1 false (.int .u8 0) := ⟨by kernel_rfl, by kernel_rfl, rfl⟩
instance : INT Try.prog 6 .u8 := ⟨by kernel_rfl⟩
instance : TI Try.prog 6 1 1 false (.int .u8 0) := ⟨by kernel_rfl, by kernel_rfl, rfl⟩
instance : SF Try.prog 7 [(2, 0), (3, 1), (4, 2), (6, 3)] := ⟨by kernel_rfl⟩
instance : FLD Try.prog 7 0 0 := ⟨fun w b o => by simp [Instr.fieldAt, Instr.sureAddr, fieldPlace, Addr.add]⟩
instance : FLD Try.prog 7 1 1 := ⟨fun w b o => by simp [Instr.fieldAt, Instr.sureAddr, fieldPlace, Addr.add]⟩
instance : FLD Try.prog 7 2 2 := ⟨fun w b o => by simp [Instr.fieldAt, Instr.sureAddr, fieldPlace, Addr.add]⟩
instance : FLD Try.prog 7 3 3 := ⟨fun w b o => by simp [Instr.fieldAt, Instr.sureAddr, fieldPlace, Addr.add]⟩
instance : TI Try.prog 7 4 24 true (.agg #[(.int .i64 0), (.int .i64 0), (.bool false), (.int .u8 0)]) := ⟨by kernel_rfl, by kernel_rfl, rfl⟩
instance : SF Try.prog 8 [(2, 0), (3, 1), (4, 2), (6, 3)] := ⟨by kernel_rfl⟩
instance : FLD Try.prog 8 0 0 := ⟨fun w b o => by simp [Instr.fieldAt, Instr.sureAddr, fieldPlace, Addr.add]⟩
instance : FLD Try.prog 8 1 1 := ⟨fun w b o => by simp [Instr.fieldAt, Instr.sureAddr, fieldPlace, Addr.add]⟩
instance : FLD Try.prog 8 2 2 := ⟨fun w b o => by simp [Instr.fieldAt, Instr.sureAddr, fieldPlace, Addr.add]⟩
instance : FLD Try.prog 8 3 3 := ⟨fun w b o => by simp [Instr.fieldAt, Instr.sureAddr, fieldPlace, Addr.add]⟩
instance : TI Try.prog 8 4 24 true (.agg #[(.int .i64 0), (.int .i64 0), (.bool false), (.int .u8 0)]) := ⟨by kernel_rfl, by kernel_rfl, rfl⟩
instance : STR Try.prog 9 := ⟨by kernel_rfl⟩
instance : TI Try.prog 9 1 16 false (.string { data := #[] }) := ⟨by kernel_rfl, by kernel_rfl, rfl⟩
instance : STR Try.prog 10 := ⟨by kernel_rfl⟩
instance : TI Try.prog 10 1 16 false (.string { data := #[] }) := ⟨by kernel_rfl, by kernel_rfl, rfl⟩
instance : STR Try.prog 11 := ⟨by kernel_rfl⟩
instance : TI Try.prog 11 1 16 false (.string { data := #[] }) := ⟨by kernel_rfl, by kernel_rfl, rfl⟩
instance : INT Try.prog 12 .u64 := ⟨by kernel_rfl⟩
instance : TI Try.prog 12 1 8 false (.int .u64 0) := ⟨by kernel_rfl, by kernel_rfl, rfl⟩
instance : SF Try.prog 13 [(9, 0), (12, 1)] := ⟨by kernel_rfl⟩
instance : FLD Try.prog 13 0 0 := ⟨fun w b o => by simp [Instr.fieldAt, Instr.sureAddr, fieldPlace, Addr.add]⟩
instance : FLD Try.prog 13 1 1 := ⟨fun w b o => by simp [Instr.fieldAt, Instr.sureAddr, fieldPlace, Addr.add]⟩
instance : TI Try.prog 13 2 24 true (.agg #[(.string { data := #[] }), (.int .u64 0)]) := ⟨by kernel_rfl, by kernel_rfl, rfl⟩
instance : SF Try.prog 14 [(9, 0), (12, 1)] := ⟨by kernel_rfl⟩
instance : FLD Try.prog 14 0 0 := ⟨fun w b o => by simp [Instr.fieldAt, Instr.sureAddr, fieldPlace, Addr.add]⟩
instance : FLD Try.prog 14 1 1 := ⟨fun w b o => by simp [Instr.fieldAt, Instr.sureAddr, fieldPlace, Addr.add]⟩
instance : TI Try.prog 14 2 24 true (.agg #[(.string { data := #[] }), (.int .u64 0)]) := ⟨by kernel_rfl, by kernel_rfl, rfl⟩
instance : TI Try.prog 15 1 8 false (.pointer none) := ⟨by kernel_rfl, by kernel_rfl, rfl⟩
instance : TI Try.prog 16 1 8 false (.pointer none) := ⟨by kernel_rfl, by kernel_rfl, rfl⟩
instance : TI Try.prog 17 1 8 false (.pointer none) := ⟨by kernel_rfl, by kernel_rfl, rfl⟩
instance : SF Try.prog 18 [(17, 0)] := ⟨by kernel_rfl⟩
instance : FLD Try.prog 18 0 0 := ⟨fun w b o => by simp [Instr.fieldAt, Instr.sureAddr, fieldPlace, Addr.add]⟩
instance : TI Try.prog 18 1 8 true (.agg #[(.pointer none)]) := ⟨by kernel_rfl, by kernel_rfl, rfl⟩
instance : SF Try.prog 19 [(17, 0)] := ⟨by kernel_rfl⟩
instance : FLD Try.prog 19 0 0 := ⟨fun w b o => by simp [Instr.fieldAt, Instr.sureAddr, fieldPlace, Addr.add]⟩
instance : TI Try.prog 19 1 8 true (.agg #[(.pointer none)]) := ⟨by kernel_rfl, by kernel_rfl, rfl⟩
instance : TI Try.prog 20 1 16 false .nilIface := ⟨by kernel_rfl, by kernel_rfl, rfl⟩
instance : INT Try.prog 21 .i32 := ⟨by kernel_rfl⟩
instance : TI Try.prog 21 1 4 false (.int .i32 0) := ⟨by kernel_rfl, by kernel_rfl, rfl⟩
instance : SL Try.prog 22 30 := ⟨by kernel_rfl⟩
instance : TI Try.prog 22 1 24 false (.slice none 0 0) := ⟨by kernel_rfl, by kernel_rfl, rfl⟩
instance : TI Try.prog 23 1 8 false (.pointer none) := ⟨by kernel_rfl, by kernel_rfl, rfl⟩
instance : TI Try.prog 24 1 8 false (.pointer none) := ⟨by kernel_rfl, by kernel_rfl, rfl⟩
instance : TI Try.prog 25 1 0 false (.tuple #[(.pointer none), (.pointer none)]) := ⟨by kernel_rfl, by kernel_rfl, rfl⟩
instance : TI Try.prog 26 1 8 false .nilFunc := ⟨by kernel_rfl, by kernel_rfl, rfl⟩
instance : TI Try.prog 27 1 8 false (.pointer none) := ⟨by kernel_rfl, by kernel_rfl, rfl⟩
instance : TI Try.prog 28 1 8 false .nilFunc := ⟨by kernel_rfl, by kernel_rfl, rfl⟩
instance : SF Try.prog 29 [(3, 0), (3, 1), (3, 2)] := ⟨by kernel_rfl⟩
instance : FLD Try.prog 29 0 0 := ⟨fun w b o => by simp [Instr.fieldAt, Instr.sureAddr, fieldPlace, Addr.add]⟩
instance : FLD Try.prog 29 1 1 := ⟨fun w b o => by simp [Instr.fieldAt, Instr.sureAddr, fieldPlace, Addr.add]⟩
instance : FLD Try.prog 29 2 2 := ⟨fun w b o => by simp [Instr.fieldAt, Instr.sureAddr, fieldPlace, Addr.add]⟩
instance : TI Try.prog 29 3 24 true (.agg #[(.int .i64 0), (.int .i64 0), (.int .i64 0)]) := ⟨by kernel_rfl, by kernel_rfl, rfl⟩
instance : SF Try.prog 30 [(3, 0), (3, 1), (3, 2)] := ⟨by kernel_rfl⟩
instance : FLD Try.prog 30 0 0 := ⟨fun w b o => by simp [Instr.fieldAt, Instr.sureAddr, fieldPlace, Addr.add]⟩
instance : FLD Try.prog 30 1 1 := ⟨fun w b o => by simp [Instr.fieldAt, Instr.sureAddr, fieldPlace, Addr.add]⟩
instance : FLD Try.prog 30 2 2 := ⟨fun w b o => by simp [Instr.fieldAt, Instr.sureAddr, fieldPlace, Addr.add]⟩
instance : TI Try.prog 30 3 24 true (.agg #[(.int .i64 0), (.int .i64 0), (.int .i64 0)]) := ⟨by kernel_rfl, by kernel_rfl, rfl⟩
instance : INT Try.prog 31 .i64 := ⟨by kernel_rfl⟩
instance : TI Try.prog 31 1 8 false (.int .i64 0) := ⟨by kernel_rfl, by kernel_rfl, rfl⟩
instance : TI Try.prog 32 1 8 false .nilFunc := ⟨by kernel_rfl, by kernel_rfl, rfl⟩
instance : TI Try.prog 33 1 8 false .nilFunc := ⟨by kernel_rfl, by kernel_rfl, rfl⟩
instance : TI Try.prog 34 1 0 false (.tuple #[(.int .i64 0), (.bool false), (.int .i64 0)]) := ⟨by kernel_rfl, by kernel_rfl, rfl⟩
instance : TI Try.prog 35 1 8 false .nilFunc := ⟨by kernel_rfl, by kernel_rfl, rfl⟩
instance : SL Try.prog 36 205 := ⟨by kernel_rfl⟩
instance : TI Try.prog 36 1 24 false (.slice none 0 0) := ⟨by kernel_rfl, by kernel_rfl, rfl⟩
instance : SF Try.prog 37 [(36, 0)] := ⟨by kernel_rfl⟩
instance : FLD Try.prog 37 0 0 := ⟨fun w b o => by simp [Instr.fieldAt, Instr.sureAddr, fieldPlace, Addr.add]⟩
instance : TI Try.prog 37 1 24 true (.agg #[(.slice none 0 0)]) := ⟨by kernel_rfl, by kernel_rfl, rfl⟩
instance : SF Try.prog 38 [(36, 0)] := ⟨by kernel_rfl⟩
instance : FLD Try.prog 38 0 0 := ⟨fun w b o => by simp [Instr.fieldAt, Instr.sureAddr, fieldPlace, Addr.add]⟩
instance : TI Try.prog 38 1 24 true (.agg #[(.slice none 0 0)]) := ⟨by kernel_rfl, by kernel_rfl, rfl⟩
instance : SL Try.prog 39 207 := ⟨by kernel_rfl⟩
instance : TI Try.prog 39 1 24 false (.slice none 0 0) := ⟨by kernel_rfl, by kernel_rfl, rfl⟩
instance : SF Try.prog 40 [(31, 0), (3, 1), (39, 2)] := ⟨by kernel_rfl⟩
instance : FLD Try.prog 40 0 0 := ⟨fun w b o => by simp [Instr.fieldAt, Instr.sureAddr, fieldPlace, Addr.add]⟩
instance : FLD Try.prog 40 1 1 := ⟨fun w b o => by simp [Instr.fieldAt, Instr.sureAddr, fieldPlace, Addr.add]⟩
instance : FLD Try.prog 40 2 2 := ⟨fun w b o => by simp [Instr.fieldAt, Instr.sureAddr, fieldPlace, Addr.add]⟩
instance : TI Try.prog 40 3 40 true (.agg #[(.int .i64 0), (.int .i64 0), (.slice none 0 0)]) := ⟨by kernel_rfl, by kernel_rfl, rfl⟩
instance : SF Try.prog 41 [(31, 0), (3, 1), (39, 2)] := ⟨by kernel_rfl⟩
instance : FLD Try.prog 41 0 0 := ⟨fun w b o => by simp [Instr.fieldAt, Instr.sureAddr, fieldPlace, Addr.add]⟩
instance : FLD Try.prog 41 1 1 := ⟨fun w b o => by simp [Instr.fieldAt, Instr.sureAddr, fieldPlace, Addr.add]⟩
instance : FLD Try.prog 41 2 2 := ⟨fun w b o => by simp [Instr.fieldAt, Instr.sureAddr, fieldPlace, Addr.add]⟩
instance : TI Try.prog 41 3 40 true (.agg #[(.int .i64 0), (.int .i64 0), (.slice none 0 0)]) := ⟨by kernel_rfl, by kernel_rfl, rfl⟩
instance : SF Try.prog 42 [(3, 0), (41, 1)] := ⟨by kernel_rfl⟩
instance : FLD Try.prog 42 0 0 := ⟨fun w b o => by simp [Instr.fieldAt, Instr.sureAddr, fieldPlace, Addr.add]⟩
instance : FLD Try.prog 42 1 1 := ⟨fun w b o => by simp [Instr.fieldAt, Instr.sureAddr, fieldPlace, Addr.add]⟩
instance : TI Try.prog 42 4 48 true (.agg #[(.int .i64 0), (.int .i64 0), (.int .i64 0), (.slice none 0 0)]) := ⟨by kernel_rfl, by kernel_rfl, rfl⟩
instance : SF Try.prog 43 [(3, 0), (41, 1)] := ⟨by kernel_rfl⟩
instance : FLD Try.prog 43 0 0 := ⟨fun w b o => by simp [Instr.fieldAt, Instr.sureAddr, fieldPlace, Addr.add]⟩
instance : FLD Try.prog 43 1 1 := ⟨fun w b o => by simp [Instr.fieldAt, Instr.sureAddr, fieldPlace, Addr.add]⟩
instance : TI Try.prog 43 4 48 true (.agg #[(.int .i64 0), (.int .i64 0), (.int .i64 0), (.slice none 0 0)]) := ⟨by kernel_rfl, by kernel_rfl, rfl⟩
instance : ARR Try.prog 44 8 43 := ⟨by kernel_rfl⟩
instance : TI Try.prog 44 32 384 true (.agg #[(.int .i64 0), (.int .i64 0), (.int .i64 0), (.slice none 0 0), (.int .i64 0), (.int .i64 0), (.int .i64 0), (.slice none 0 0), (.int .i64 0), (.int .i64 0), (.int .i64 0), (.slice none 0 0), (.int .i64 0), (.int .i64 0), (.int .i64 0), (.slice none 0 0), (.int .i64 0), (.int .i64 0), (.int .i64 0), (.slice none 0 0), (.int .i64 0), (.int .i64 0), (.int .i64 0), (.slice none 0 0), (.int .i64 0), (.int .i64 0), (.int .i64 0), (.slice none 0 0), (.int .i64 0), (.int .i64 0), (.int .i64 0), (.slice none 0 0)]) := ⟨by kernel_rfl, by kernel_rfl, rfl⟩
instance : SF Try.prog 45 [(3, 0), (3, 1), (3, 2)] := ⟨by kernel_rfl⟩
instance : FLD Try.prog 45 0 0 := ⟨fun w b o => by simp [Instr.fieldAt, Instr.sureAddr, fieldPlace, Addr.add]⟩
instance : FLD Try.prog 45 1 1 := ⟨fun w b o => by simp [Instr.fieldAt, Instr.sureAddr, fieldPlace, Addr.add]⟩
instance : FLD Try.prog 45 2 2 := ⟨fun w b o => by simp [Instr.fieldAt, Instr.sureAddr, fieldPlace, Addr.add]⟩
instance : TI Try.prog 45 3 24 true (.agg #[(.int .i64 0), (.int .i64 0), (.int .i64 0)]) := ⟨by kernel_rfl, by kernel_rfl, rfl⟩
instance : SF Try.prog 46 [(3, 0), (3, 1), (3, 2)] := ⟨by kernel_rfl⟩
instance : FLD Try.prog 46 0 0 := ⟨fun w b o => by simp [Instr.fieldAt, Instr.sureAddr, fieldPlace, Addr.add]⟩
instance : FLD Try.prog 46 1 1 := ⟨fun w b o => by simp [Instr.fieldAt, Instr.sureAddr, fieldPlace, Addr.add]⟩
instance : FLD Try.prog 46 2 2 := ⟨fun w b o => by simp [Instr.fieldAt, Instr.sureAddr, fieldPlace, Addr.add]⟩
instance : TI Try.prog 46 3 24 true (.agg #[(.int .i64 0), (.int .i64 0), (.int .i64 0)]) := ⟨by kernel_rfl, by kernel_rfl, rfl⟩
instance : ARR Try.prog 47 4 3 := ⟨by kernel_rfl⟩
instance : TI Try.prog 47 4 32 true (.agg (List.replicate 4 (.int .i64 0)).toArray) := ⟨by kernel_rfl, by kernel_rfl, by kernel_rfl⟩
instance : ARR Try.prog 48 4 4 := ⟨by kernel_rfl⟩
instance : TI Try.prog 48 4 4 true (.agg (List.replicate 4 (.bool false)).toArray) := ⟨by kernel_rfl, by kernel_rfl, by kernel_rfl⟩
instance : SF Try.prog 49 [(38, 0), (44, 1), (46, 33), (47, 36), (48, 40), (3, 44), (3, 45)] := ⟨by kernel_rfl⟩
instance : FLD Try.prog 49 0 0 := ⟨fun w b o => by simp [Instr.fieldAt, Instr.sureAddr, fieldPlace, Addr.add]⟩
instance : FLD Try.prog 49 1 1 := ⟨fun w b o => by simp [Instr.fieldAt, Instr.sureAddr, fieldPlace, Addr.add]⟩
instance : FLD Try.prog 49 2 33 := ⟨fun w b o => by simp [Instr.fieldAt, Instr.sureAddr, fieldPlace, Addr.add]⟩
instance : FLD Try.prog 49 3 36 := ⟨fun w b o => by simp [Instr.fieldAt, Instr.sureAddr, fieldPlace, Addr.add]⟩
instance : FLD Try.prog 49 4 40 := ⟨fun w b o => by simp [Instr.fieldAt, Instr.sureAddr, fieldPlace, Addr.add]⟩
instance : FLD Try.prog 49 5 44 := ⟨fun w b o => by simp [Instr.fieldAt, Instr.sureAddr, fieldPlace, Addr.add]⟩
instance : FLD Try.prog 49 6 45 := ⟨fun w b o => by simp [Instr.fieldAt, Instr.sureAddr, fieldPlace, Addr.add]⟩
instance : TI Try.prog 49 46 488 true (.agg #[(.slice none 0 0), (.int .i64 0), (.int .i64 0), (.int .i64 0), (.slice none 0 0), (.int .i64 0), (.int .i64 0), (.int .i64 0), (.slice none 0 0), (.int .i64 0), (.int .i64 0), (.int .i64 0), (.slice none 0 0), (.int .i64 0), (.int .i64 0), (.int .i64 0), (.slice none 0 0), (.int .i64 0), (.int .i64 0), (.int .i64 0), (.slice none 0 0), (.int .i64 0), (.int .i64 0), (.int .i64 0), (.slice none 0 0), (.int .i64 0), (.int .i64 0), (.int .i64 0), (.slice none 0 0), (.int .i64 0), (.int .i64 0), (.int .i64 0), (.slice none 0 0), (.int .i64 0), (.int .i64 0), (.int .i64 0), (.int .i64 0), (.int .i64 0), (.int .i64 0), (.int .i64 0), (.bool false), (.bool false), (.bool false), (.bool false), (.int .i64 0), (.int .i64 0)]) := ⟨by kernel_rfl, by kernel_rfl, rfl⟩
instance : SF Try.prog 50 [(38, 0), (44, 1), (46, 33), (47, 36), (48, 40), (3, 44), (3, 45)] := ⟨by kernel_rfl⟩
instance : FLD Try.prog 50 0 0 := ⟨fun w b o => by simp [Instr.fieldAt, Instr.sureAddr, fieldPlace, Addr.add]⟩
instance : FLD Try.prog 50 1 1 := ⟨fun w b o => by simp [Instr.fieldAt, Instr.sureAddr, fieldPlace, Addr.add]⟩
instance : FLD Try.prog 50 2 33 := ⟨fun w b o => by simp [Instr.fieldAt, Instr.sureAddr, fieldPlace, Addr.add]⟩
instance : FLD Try.prog 50 3 36 := ⟨fun w b o => by simp [Instr.fieldAt, Instr.sureAddr, fieldPlace, Addr.add]⟩
instance : FLD Try.prog 50 4 40 := ⟨fun w b o => by simp [Instr.fieldAt, Instr.sureAddr, fieldPlace, Addr.add]⟩
instance : FLD Try.prog 50 5 44 := ⟨fun w b o => by simp [Instr.fieldAt, Instr.sureAddr, fieldPlace, Addr.add]⟩
instance : FLD Try.prog 50 6 45 := ⟨fun w b o => by simp [Instr.fieldAt, Instr.sureAddr, fieldPlace, Addr.add]⟩
instance : TI Try.prog 50 46 488 true (.agg #[(.slice none 0 0), (.int .i64 0), (.int .i64 0), (.int .i64 0), (.slice none 0 0), (.int .i64 0), (.int .i64 0), (.int .i64 0), (.slice none 0 0), (.int .i64 0), (.int .i64 0), (.int .i64 0), (.slice none 0 0), (.int .i64 0), (.int .i64 0), (.int .i64 0), (.slice none 0 0), (.int .i64 0), (.int .i64 0), (.int .i64 0), (.slice none 0 0), (.int .i64 0), (.int .i64 0), (.int .i64 0), (.slice none 0 0), (.int .i64 0), (.int .i64 0), (.int .i64 0), (.slice none 0 0), (.int .i64 0), (.int .i64 0), (.int .i64 0), (.slice none 0 0), (.int .i64 0), (.int .i64 0), (.int .i64 0), (.int .i64 0), (.int .i64 0), (.int .i64 0), (.int .i64 0), (.bool false), (.bool false), (.bool false), (.bool false), (.int .i64 0), (.int .i64 0)]) := ⟨by kernel_rfl, by kernel_rfl, rfl⟩
instance : TI Try.prog 51 1 0 false (.tuple #[(.int .i64 0), (.int .i64 0)]) := ⟨by kernel_rfl, by kernel_rfl, rfl⟩
instance : TI Try.prog 52 1 8 false .nilFunc := ⟨by kernel_rfl, by kernel_rfl, rfl⟩
instance : TI Try.prog 53 1 0 false (.tuple #[(.bool false), (.int .i64 0)]) := ⟨by kernel_rfl, by kernel_rfl, rfl⟩
instance : TI Try.prog 54 1 8 false .nilFunc := ⟨by kernel_rfl, by kernel_rfl, rfl⟩
instance : TI Try.prog 55 1 8 false .nilFunc := ⟨by kernel_rfl, by kernel_rfl, rfl⟩
instance : TI Try.prog 56 1 8 false .nilFunc := ⟨by kernel_rfl, by kernel_rfl, rfl⟩
instance : TI Try.prog 57 1 0 false (.tuple #[(.int .i64 0), (.bool false)]) := ⟨by kernel_rfl, by kernel_rfl, rfl⟩
instance : TI Try.prog 58 1 8 false .nilFunc := ⟨by kernel_rfl, by kernel_rfl, rfl⟩
instance : TI Try.prog 59 1 8 false .nilFunc := ⟨by kernel_rfl, by kernel_rfl, rfl⟩
instance : TI Try.prog 60 1 8 false .nilFunc := ⟨by kernel_rfl, by kernel_rfl, rfl⟩
instance : TI Try.prog 61 1 8 false (.pointer none) := ⟨by kernel_rfl, by kernel_rfl, rfl⟩
instance : TI Try.prog 62 1 0 false (.tuple #[(.pointer none), (.int .i64 0)]) := ⟨by kernel_rfl, by kernel_rfl, rfl⟩
instance : TI Try.prog 63 1 8 false .nilFunc := ⟨by kernel_rfl, by kernel_rfl, rfl⟩
instance : TI Try.prog 64 1 0 false (.tuple #[(.pointer none), (.int .i64 0)]) := ⟨by kernel_rfl, by kernel_rfl, rfl⟩
instance : TI Try.prog 65 1 8 false .nilFunc := ⟨by kernel_rfl, by kernel_rfl, rfl⟩
instance : TI Try.prog 66 1 0 false (.tuple #[(.pointer none), (.int .i64 0)]) := ⟨by kernel_rfl, by kernel_rfl, rfl⟩
instance : TI Try.prog 67 1 8 false .nilFunc := ⟨by kernel_rfl, by kernel_rfl, rfl⟩
instance : TI Try.prog 68 1 8 false .nilFunc := ⟨by kernel_rfl, by kernel_rfl, rfl⟩
instance : TI Try.prog 69 1 8 false .nilFunc := ⟨by kernel_rfl, by kernel_rfl, rfl⟩
instance : SF Try.prog 70 [(23, 0)] := ⟨by kernel_rfl⟩
instance : FLD Try.prog 70 0 0 := ⟨fun w b o => by simp [Instr.fieldAt, Instr.sureAddr, fieldPlace, Addr.add]⟩
instance : TI Try.prog 70 1 8 true (.agg #[(.pointer none)]) := ⟨by kernel_rfl, by kernel_rfl, rfl⟩
instance : SF Try.prog 71 [(23, 0)] := ⟨by kernel_rfl⟩
instance : FLD Try.prog 71 0 0 := ⟨fun w b o => by simp [Instr.fieldAt, Instr.sureAddr, fieldPlace, Addr.add]⟩
instance : TI Try.prog 71 1 8 true (.agg #[(.pointer none)]) := ⟨by kernel_rfl, by kernel_rfl, rfl⟩
instance : TI Try.prog 72 1 8 false .nilFunc := ⟨by kernel_rfl, by kernel_rfl, rfl⟩
instance : TI Try.prog 73 1 8 false .nilFunc := ⟨by kernel_rfl, by kernel_rfl, rfl⟩
instance : SL Try.prog 74 5 := ⟨by kernel_rfl⟩
instance : TI Try.prog 74 1 24 false (.slice none 0 0) := ⟨by kernel_rfl, by kernel_rfl, rfl⟩
instance : TI Try.prog 75 1 8 false .nilFunc := ⟨by kernel_rfl, by kernel_rfl, rfl⟩
instance : TI Try.prog 76 1 8 false .nilFunc := ⟨by kernel_rfl, by kernel_rfl, rfl⟩
instance : MPT Try.prog 77 3 74 := ⟨by kernel_rfl⟩
instance : TI Try.prog 77 1 8 false (.map none) := ⟨by kernel_rfl, by kernel_rfl, rfl⟩
instance : SL Try.prog 78 158 := ⟨by kernel_rfl⟩
instance : TI Try.prog 78 1 24 false (.slice none 0 0) := ⟨by kernel_rfl, by kernel_rfl, rfl⟩
instance : INT Try.prog 79 .u64 := ⟨by kernel_rfl⟩
instance : TI Try.prog 79 1 8 false (.int .u64 0) := ⟨by kernel_rfl, by kernel_rfl, rfl⟩
instance : SF Try.prog 80 [(3, 0), (79, 1), (3, 2), (3, 3)] := ⟨by kernel_rfl⟩
instance : FLD Try.prog 80 0 0 := ⟨fun w b o => by simp [Instr.fieldAt, Instr.sureAddr, fieldPlace, Addr.add]⟩
instance : FLD Try.prog 80 1 1 := ⟨fun w b o => by simp [Instr.fieldAt, Instr.sureAddr, fieldPlace, Addr.add]⟩
instance : FLD Try.prog 80 2 2 := ⟨fun w b o => by simp [Instr.fieldAt, Instr.sureAddr, fieldPlace, Addr.add]⟩
instance : FLD Try.prog 80 3 3 := ⟨fun w b o => by simp [Instr.fieldAt, Instr.sureAddr, fieldPlace, Addr.add]⟩
instance : TI Try.prog 80 4 32 true (.agg #[(.int .i64 0), (.int .u64 0), (.int .i64 0), (.int .i64 0)]) := ⟨by kernel_rfl, by kernel_rfl, rfl⟩
instance : SF Try.prog 81 [(3, 0), (79, 1), (3, 2), (3, 3)] := ⟨by kernel_rfl⟩
instance : FLD Try.prog 81 0 0 := ⟨fun w b o => by simp [Instr.fieldAt, Instr.sureAddr, fieldPlace, Addr.add]⟩
instance : FLD Try.prog 81 1 1 := ⟨fun w b o => by simp [Instr.fieldAt, Instr.sureAddr, fieldPlace, Addr.add]⟩
instance : FLD Try.prog 81 2 2 := ⟨fun w b o => by simp [Instr.fieldAt, Instr.sureAddr, fieldPlace, Addr.add]⟩
instance : FLD Try.prog 81 3 3 := ⟨fun w b o => by simp [Instr.fieldAt, Instr.sureAddr, fieldPlace, Addr.add]⟩
instance : TI Try.prog 81 4 32 true (.agg #[(.int .i64 0), (.int .u64 0), (.int .i64 0), (.int .i64 0)]) := ⟨by kernel_rfl, by kernel_rfl, rfl⟩
instance : SF Try.prog 82 [(3, 0), (77, 1), (78, 2), (4, 3), (3, 4), (81, 5)] := ⟨by kernel_rfl⟩
instance : FLD Try.prog 82 0 0 := ⟨fun w b o => by simp [Instr.fieldAt, Instr.sureAddr, fieldPlace, Addr.add]⟩
instance : FLD Try.prog 82 1 1 := ⟨fun w b o => by simp [Instr.fieldAt, Instr.sureAddr, fieldPlace, Addr.add]⟩
instance : FLD Try.prog 82 2 2 := ⟨fun w b o => by simp [Instr.fieldAt, Instr.sureAddr, fieldPlace, Addr.add]⟩
instance : FLD Try.prog 82 3 3 := ⟨fun w b o => by simp [Instr.fieldAt, Instr.sureAddr, fieldPlace, Addr.add]⟩
instance : FLD Try.prog 82 4 4 := ⟨fun w b o => by simp [Instr.fieldAt, Instr.sureAddr, fieldPlace, Addr.add]⟩
instance : FLD Try.prog 82 5 5 := ⟨fun w b o => by simp [Instr.fieldAt, Instr.sureAddr, fieldPlace, Addr.add]⟩
instance : TI Try.prog 82 9 88 true (.agg #[(.int .i64 0), (.map none), (.slice none 0 0), (.bool false), (.int .i64 0), (.int .i64 0), (.int .u64 0), (.int .i64 0), (.int .i64 0)]) := ⟨by kernel_rfl, by kernel_rfl, rfl⟩
instance : SF Try.prog 83 [(3, 0), (77, 1), (78, 2), (4, 3), (3, 4), (81, 5)] := ⟨by kernel_rfl⟩
instance : FLD Try.prog 83 0 0 := ⟨fun w b o => by simp [Instr.fieldAt, Instr.sureAddr, fieldPlace, Addr.add]⟩
instance : FLD Try.prog 83 1 1 := ⟨fun w b o => by simp [Instr.fieldAt, Instr.sureAddr, fieldPlace, Addr.add]⟩
instance : FLD Try.prog 83 2 2 := ⟨fun w b o => by simp [Instr.fieldAt, Instr.sureAddr, fieldPlace, Addr.add]⟩
instance : FLD Try.prog 83 3 3 := ⟨fun w b o => by simp [Instr.fieldAt, Instr.sureAddr, fieldPlace, Addr.add]⟩
instance : FLD Try.prog 83 4 4 := ⟨fun w b o => by simp [Instr.fieldAt, Instr.sureAddr, fieldPlace, Addr.add]⟩
instance : FLD Try.prog 83 5 5 := ⟨fun w b o => by simp [Instr.fieldAt, Instr.sureAddr, fieldPlace, Addr.add]⟩
instance : TI Try.prog 83 9 88 true (.agg #[(.int .i64 0), (.map none), (.slice none 0 0), (.bool false), (.int .i64 0), (.int .i64 0), (.int .u64 0), (.int .i64 0), (.int .i64 0)]) := ⟨by kernel_rfl, by kernel_rfl, rfl⟩
instance : TI Try.prog 84 1 8 false (.pointer none) := ⟨by kernel_rfl, by kernel_rfl, rfl⟩
instance : TI Try.prog 85 1 0 false (.tuple #[(.pointer none), (.int .i64 0)]) := ⟨by kernel_rfl, by kernel_rfl, rfl⟩
instance : TI Try.prog 86 1 8 false .nilFunc := ⟨by kernel_rfl, by kernel_rfl, rfl⟩
instance : ARR Try.prog 87 16 3 := ⟨by kernel_rfl⟩
instance : TI Try.prog 87 16 128 true (.agg (List.replicate 16 (.int .i64 0)).toArray) := ⟨by kernel_rfl, by kernel_rfl, by kernel_rfl⟩
instance : SF Try.prog 88 [(84, 0), (3, 1), (87, 2)] := ⟨by kernel_rfl⟩
instance : FLD Try.prog 88 0 0 := ⟨fun w b o => by simp [Instr.fieldAt, Instr.sureAddr, fieldPlace, Addr.add]⟩
instance : FLD Try.prog 88 1 1 := ⟨fun w b o => by simp [Instr.fieldAt, Instr.sureAddr, fieldPlace, Addr.add]⟩
instance : FLD Try.prog 88 2 2 := ⟨fun w b o => by simp [Instr.fieldAt, Instr.sureAddr, fieldPlace, Addr.add]⟩
instance : TI Try.prog 88 18 144 true (.agg #[(.pointer none), (.int .i64 0), (.int .i64 0), (.int .i64 0), (.int .i64 0), (.int .i64 0), (.int .i64 0), (.int .i64 0), (.int .i64 0), (.int .i64 0), (.int .i64 0), (.int .i64 0), (.int .i64 0), (.int .i64 0), (.int .i64 0), (.int .i64 0), (.int .i64 0), (.int .i64 0)]) := ⟨by kernel_rfl, by kernel_rfl, rfl⟩
instance : SF Try.prog 89 [(84, 0), (3, 1), (87, 2)] := ⟨by kernel_rfl⟩
instance : FLD Try.prog 89 0 0 := ⟨fun w b o => by simp [Instr.fieldAt, Instr.sureAddr, fieldPlace, Addr.add]⟩
instance : FLD Try.prog 89 1 1 := ⟨fun w b o => by simp [Instr.fieldAt, Instr.sureAddr, fieldPlace, Addr.add]⟩
instance : FLD Try.prog 89 2 2 := ⟨fun w b o => by simp [Instr.fieldAt, Instr.sureAddr, fieldPlace, Addr.add]⟩
instance : TI Try.prog 89 18 144 true (.agg #[(.pointer none), (.int .i64 0), (.int .i64 0), (.int .i64 0), (.int .i64 0), (.int .i64 0), (.int .i64 0), (.int .i64 0), (.int .i64 0), (.int .i64 0), (.int .i64 0), (.int .i64 0), (.int .i64 0), (.int .i64 0), (.int .i64 0), (.int .i64 0), (.int .i64 0), (.int .i64 0)]) := ⟨by kernel_rfl, by kernel_rfl, rfl⟩
instance : SL Try.prog 90 94 := ⟨by kernel_rfl⟩
instance : TI Try.prog 90 1 24 false (.slice none 0 0) := ⟨by kernel_rfl, by kernel_rfl, rfl⟩
instance : TI Try.prog 91 1 0 false (.tuple #[(.slice none 0 0), (.int .i64 0)]) := ⟨by kernel_rfl, by kernel_rfl, rfl⟩
instance : TI Try.prog 92 1 8 false .nilFunc := ⟨by kernel_rfl, by kernel_rfl, rfl⟩
instance : SF Try.prog 93 [(3, 0), (74, 1), (74, 2)] := ⟨by kernel_rfl⟩
instance : FLD Try.prog 93 0 0 := ⟨fun w b o => by simp [Instr.fieldAt, Instr.sureAddr, fieldPlace, Addr.add]⟩
instance : FLD Try.prog 93 1 1 := ⟨fun w b o => by simp [Instr.fieldAt, Instr.sureAddr, fieldPlace, Addr.add]⟩
instance : FLD Try.prog 93 2 2 := ⟨fun w b o => by simp [Instr.fieldAt, Instr.sureAddr, fieldPlace, Addr.add]⟩
instance : TI Try.prog 93 3 56 true (.agg #[(.int .i64 0), (.slice none 0 0), (.slice none 0 0)]) := ⟨by kernel_rfl, by kernel_rfl, rfl⟩
instance : SF Try.prog 94 [(3, 0), (74, 1), (74, 2)] := ⟨by kernel_rfl⟩
instance : FLD Try.prog 94 0 0 := ⟨fun w b o => by simp [Instr.fieldAt, Instr.sureAddr, fieldPlace, Addr.add]⟩
instance : FLD Try.prog 94 1 1 := ⟨fun w b o => by simp [Instr.fieldAt, Instr.sureAddr, fieldPlace, Addr.add]⟩
instance : FLD Try.prog 94 2 2 := ⟨fun w b o => by simp [Instr.fieldAt, Instr.sureAddr, fieldPlace, Addr.add]⟩
instance : TI Try.prog 94 3 56 true (.agg #[(.int .i64 0), (.slice none 0 0), (.slice none 0 0)]) := ⟨by kernel_rfl, by kernel_rfl, rfl⟩
instance : TI Try.prog 95 1 0 false (.tuple #[(.int .i64 0), (.int .i64 0), (.int .i64 0)]) := ⟨by kernel_rfl, by kernel_rfl, rfl⟩
instance : TI Try.prog 96 1 8 false .nilFunc := ⟨by kernel_rfl, by kernel_rfl, rfl⟩
instance : SL Try.prog 97 102 := ⟨by kernel_rfl⟩
instance : TI Try.prog 97 1 24 false (.slice none 0 0) := ⟨by kernel_rfl, by kernel_rfl, rfl⟩
instance : SF Try.prog 98 [(24, 0), (97, 1)] := ⟨by kernel_rfl⟩
instance : FLD Try.prog 98 0 0 := ⟨fun w b o => by simp [Instr.fieldAt, Instr.sureAddr, fieldPlace, Addr.add]⟩
instance : FLD Try.prog 98 1 1 := ⟨fun w b o => by simp [Instr.fieldAt, Instr.sureAddr, fieldPlace, Addr.add]⟩
instance : TI Try.prog 98 2 32 true (.agg #[(.pointer none), (.slice none 0 0)]) := ⟨by kernel_rfl, by kernel_rfl, rfl⟩
instance : SF Try.prog 99 [(24, 0), (97, 1)] := ⟨by kernel_rfl⟩
instance : FLD Try.prog 99 0 0 := ⟨fun w b o => by simp [Instr.fieldAt, Instr.sureAddr, fieldPlace, Addr.add]⟩
instance : FLD Try.prog 99 1 1 := ⟨fun w b o => by simp [Instr.fieldAt, Instr.sureAddr, fieldPlace, Addr.add]⟩
instance : TI Try.prog 99 2 32 true (.agg #[(.pointer none), (.slice none 0 0)]) := ⟨by kernel_rfl, by kernel_rfl, rfl⟩
instance : TI Try.prog 100 1 8 false .nilFunc := ⟨by kernel_rfl, by kernel_rfl, rfl⟩
instance : SF Try.prog 101 [(94, 0), (4, 3)] := ⟨by kernel_rfl⟩
instance : FLD Try.prog 101 0 0 := ⟨fun w b o => by simp [Instr.fieldAt, Instr.sureAddr, fieldPlace, Addr.add]⟩
instance : FLD Try.prog 101 1 3 := ⟨fun w b o => by simp [Instr.fieldAt, Instr.sureAddr, fieldPlace, Addr.add]⟩
instance : TI Try.prog 101 4 64 true (.agg #[(.int .i64 0), (.slice none 0 0), (.slice none 0 0), (.bool false)]) := ⟨by kernel_rfl, by kernel_rfl, rfl⟩
instance : SF Try.prog 102 [(94, 0), (4, 3)] := ⟨by kernel_rfl⟩
instance : FLD Try.prog 102 0 0 := ⟨fun w b o => by simp [Instr.fieldAt, Instr.sureAddr, fieldPlace, Addr.add]⟩
instance : FLD Try.prog 102 1 3 := ⟨fun w b o => by simp [Instr.fieldAt, Instr.sureAddr, fieldPlace, Addr.add]⟩
instance : TI Try.prog 102 4 64 true (.agg #[(.int .i64 0), (.slice none 0 0), (.slice none 0 0), (.bool false)]) := ⟨by kernel_rfl, by kernel_rfl, rfl⟩
instance : INT Try.prog 103 .u64 := ⟨by kernel_rfl⟩
instance : TI Try.prog 103 1 8 false (.int .u64 0) := ⟨by kernel_rfl, by kernel_rfl, rfl⟩
instance : TI Try.prog 104 1 0 false (.tuple #[(.slice none 0 0), (.bool false), (.int .i64 0)]) := ⟨by kernel_rfl, by kernel_rfl, rfl⟩
instance : TI Try.prog 105 1 8 false .nilFunc := ⟨by kernel_rfl, by kernel_rfl, rfl⟩
instance : TI Try.prog 106 1 8 false (.pointer none) := ⟨by kernel_rfl, by kernel_rfl, rfl⟩
instance : TI Try.prog 107 1 0 false (.tuple #[(.pointer none), (.int .i64 0)]) := ⟨by kernel_rfl, by kernel_rfl, rfl⟩
instance : TI Try.prog 108 1 8 false .nilFunc := ⟨by kernel_rfl, by kernel_rfl, rfl⟩
instance : MPT Try.prog 109 3 3 := ⟨by kernel_rfl⟩
instance : TI Try.prog 109 1 8 false (.map none) := ⟨by kernel_rfl, by kernel_rfl, rfl⟩
instance : SF Try.prog 110 [(20, 0), (3, 1), (3, 2)] := ⟨by kernel_rfl⟩
instance : FLD Try.prog 110 0 0 := ⟨fun w b o => by simp [Instr.fieldAt, Instr.sureAddr, fieldPlace, Addr.add]⟩
instance : FLD Try.prog 110 1 1 := ⟨fun w b o => by simp [Instr.fieldAt, Instr.sureAddr, fieldPlace, Addr.add]⟩
instance : FLD Try.prog 110 2 2 := ⟨fun w b o => by simp [Instr.fieldAt, Instr.sureAddr, fieldPlace, Addr.add]⟩
instance : TI Try.prog 110 3 32 true (.agg #[.nilIface, (.int .i64 0), (.int .i64 0)]) := ⟨by kernel_rfl, by kernel_rfl, rfl⟩
instance : SF Try.prog 111 [(20, 0), (3, 1), (3, 2)] := ⟨by kernel_rfl⟩
instance : FLD Try.prog 111 0 0 := ⟨fun w b o => by simp [Instr.fieldAt, Instr.sureAddr, fieldPlace, Addr.add]⟩
instance : FLD Try.prog 111 1 1 := ⟨fun w b o => by simp [Instr.fieldAt, Instr.sureAddr, fieldPlace, Addr.add]⟩
instance : FLD Try.prog 111 2 2 := ⟨fun w b o => by simp [Instr.fieldAt, Instr.sureAddr, fieldPlace, Addr.add]⟩
instance : TI Try.prog 111 3 32 true (.agg #[.nilIface, (.int .i64 0), (.int .i64 0)]) := ⟨by kernel_rfl, by kernel_rfl, rfl⟩
instance : SL Try.prog 112 3 := ⟨by kernel_rfl⟩
instance : TI Try.prog 112 1 24 false (.slice none 0 0) := ⟨by kernel_rfl, by kernel_rfl, rfl⟩
instance : SL Try.prog 113 208 := ⟨by kernel_rfl⟩
instance : TI Try.prog 113 1 24 false (.slice none 0 0) := ⟨by kernel_rfl, by kernel_rfl, rfl⟩
instance : SF Try.prog 114 [(106, 0), (111, 1), (111, 4), (109, 7), (112, 8), (113, 9), (109, 10)] := ⟨by kernel_rfl⟩
instance : FLD Try.prog 114 0 0 := ⟨fun w b o => by simp [Instr.fieldAt, Instr.sureAddr, fieldPlace, Addr.add]⟩
instance : FLD Try.prog 114 1 1 := ⟨fun w b o => by simp [Instr.fieldAt, Instr.sureAddr, fieldPlace, Addr.add]⟩
instance : FLD Try.prog 114 2 4 := ⟨fun w b o => by simp [Instr.fieldAt, Instr.sureAddr, fieldPlace, Addr.add]⟩
instance : FLD Try.prog 114 3 7 := ⟨fun w b o => by simp [Instr.fieldAt, Instr.sureAddr, fieldPlace, Addr.add]⟩
instance : FLD Try.prog 114 4 8 := ⟨fun w b o => by simp [Instr.fieldAt, Instr.sureAddr, fieldPlace, Addr.add]⟩
instance : FLD Try.prog 114 5 9 := ⟨fun w b o => by simp [Instr.fieldAt, Instr.sureAddr, fieldPlace, Addr.add]⟩
instance : FLD Try.prog 114 6 10 := ⟨fun w b o => by simp [Instr.fieldAt, Instr.sureAddr, fieldPlace, Addr.add]⟩
instance : TI Try.prog 114 11 136 true (.agg #[(.pointer none), .nilIface, (.int .i64 0), (.int .i64 0), .nilIface, (.int .i64 0), (.int .i64 0), (.map none), (.slice none 0 0), (.slice none 0 0), (.map none)]) := ⟨by kernel_rfl, by kernel_rfl, rfl⟩
instance : SF Try.prog 115 [(106, 0), (111, 1), (111, 4), (109, 7), (112, 8), (113, 9), (109, 10)] := ⟨by kernel_rfl⟩
instance : FLD Try.prog 115 0 0 := ⟨fun w b o => by simp [Instr.fieldAt, Instr.sureAddr, fieldPlace, Addr.add]⟩
instance : FLD Try.prog 115 1 1 := ⟨fun w b o => by simp [Instr.fieldAt, Instr.sureAddr, fieldPlace, Addr.add]⟩
instance : FLD Try.prog 115 2 4 := ⟨fun w b o => by simp [Instr.fieldAt, Instr.sureAddr, fieldPlace, Addr.add]⟩
instance : FLD Try.prog 115 3 7 := ⟨fun w b o => by simp [Instr.fieldAt, Instr.sureAddr, fieldPlace, Addr.add]⟩
instance : FLD Try.prog 115 4 8 := ⟨fun w b o => by simp [Instr.fieldAt, Instr.sureAddr, fieldPlace, Addr.add]⟩
instance : FLD Try.prog 115 5 9 := ⟨fun w b o => by simp [Instr.fieldAt, Instr.sureAddr, fieldPlace, Addr.add]⟩
instance : FLD Try.prog 115 6 10 := ⟨fun w b o => by simp [Instr.fieldAt, Instr.sureAddr, fieldPlace, Addr.add]⟩
instance : TI Try.prog 115 11 136 true (.agg #[(.pointer none), .nilIface, (.int .i64 0), (.int .i64 0), .nilIface, (.int .i64 0), (.int .i64 0), (.map none), (.slice none 0 0), (.slice none 0 0), (.map none)]) := ⟨by kernel_rfl, by kernel_rfl, rfl⟩
instance : TI Try.prog 116 1 8 false .nilFunc := ⟨by kernel_rfl, by kernel_rfl, rfl⟩
instance : TI Try.prog 117 1 8 false .nilFunc := ⟨by kernel_rfl, by kernel_rfl, rfl⟩
instance : TI Try.prog 118 1 8 false (.pointer none) := ⟨by kernel_rfl, by kernel_rfl, rfl⟩
instance : TI Try.prog 119 1 0 false (.tuple #[(.int .i64 0), (.int .i64 0)]) := ⟨by kernel_rfl, by kernel_rfl, rfl⟩
instance : TI Try.prog 120 1 8 false (.pointer none) := ⟨by kernel_rfl, by kernel_rfl, rfl⟩
instance : SF Try.prog 121 [(84, 0), (109, 1)] := ⟨by kernel_rfl⟩
instance : FLD Try.prog 121 0 0 := ⟨fun w b o => by simp [Instr.fieldAt, Instr.sureAddr, fieldPlace, Addr.add]⟩
instance : FLD Try.prog 121 1 1 := ⟨fun w b o => by simp [Instr.fieldAt, Instr.sureAddr, fieldPlace, Addr.add]⟩
instance : TI Try.prog 121 2 16 true (.agg #[(.pointer none), (.map none)]) := ⟨by kernel_rfl, by kernel_rfl, rfl⟩
instance : SF Try.prog 122 [(84, 0), (109, 1)] := ⟨by kernel_rfl⟩
instance : FLD Try.prog 122 0 0 := ⟨fun w b o => by simp [Instr.fieldAt, Instr.sureAddr, fieldPlace, Addr.add]⟩
instance : FLD Try.prog 122 1 1 := ⟨fun w b o => by simp [Instr.fieldAt, Instr.sureAddr, fieldPlace, Addr.add]⟩
instance : TI Try.prog 122 2 16 true (.agg #[(.pointer none), (.map none)]) := ⟨by kernel_rfl, by kernel_rfl, rfl⟩
instance : TI Try.prog 123 1 8 false .nilFunc := ⟨by kernel_rfl, by kernel_rfl, rfl⟩
instance : TI Try.prog 124 1 8 false .nilFunc := ⟨by kernel_rfl, by kernel_rfl, rfl⟩
instance : TI Try.prog 125 1 8 false .nilFunc := ⟨by kernel_rfl, by kernel_rfl, rfl⟩
instance : TI Try.prog 126 1 8 false .nilFunc := ⟨by kernel_rfl, by kernel_rfl, rfl⟩
instance : TI Try.prog 127 1 0 false (.tuple #[(.agg #[(.int .i64 0), (.slice none 0 0), (.slice none 0 0), (.bool false)]), (.bool false)]) := ⟨by kernel_rfl, by kernel_rfl, rfl⟩
instance : TI Try.prog 128 1 8 false .nilFunc := ⟨by kernel_rfl, by kernel_rfl, rfl⟩
instance : SF Try.prog 129 [(3, 0), (109, 1)] := ⟨by kernel_rfl⟩
instance : FLD Try.prog 129 0 0 := ⟨fun w b o => by simp [Instr.fieldAt, Instr.sureAddr, fieldPlace, Addr.add]⟩
instance : FLD Try.prog 129 1 1 := ⟨fun w b o => by simp [Instr.fieldAt, Instr.sureAddr, fieldPlace, Addr.add]⟩
instance : TI Try.prog 129 2 16 true (.agg #[(.int .i64 0), (.map none)]) := ⟨by kernel_rfl, by kernel_rfl, rfl⟩
instance : SF Try.prog 130 [(3, 0), (109, 1)] := ⟨by kernel_rfl⟩
instance : FLD Try.prog 130 0 0 := ⟨fun w b o => by simp [Instr.fieldAt, Instr.sureAddr, fieldPlace, Addr.add]⟩
instance : FLD Try.prog 130 1 1 := ⟨fun w b o => by simp [Instr.fieldAt, Instr.sureAddr, fieldPlace, Addr.add]⟩
instance : TI Try.prog 130 2 16 true (.agg #[(.int .i64 0), (.map none)]) := ⟨by kernel_rfl, by kernel_rfl, rfl⟩
instance : SF Try.prog 131 [(79, 0), (3, 1)] := ⟨by kernel_rfl⟩
instance : FLD Try.prog 131 0 0 := ⟨fun w b o => by simp [Instr.fieldAt, Instr.sureAddr, fieldPlace, Addr.add]⟩
instance : FLD Try.prog 131 1 1 := ⟨fun w b o => by simp [Instr.fieldAt, Instr.sureAddr, fieldPlace, Addr.add]⟩
instance : TI Try.prog 131 2 16 true (.agg #[(.int .u64 0), (.int .i64 0)]) := ⟨by kernel_rfl, by kernel_rfl, rfl⟩
instance : SF Try.prog 132 [(79, 0), (3, 1)] := ⟨by kernel_rfl⟩
instance : FLD Try.prog 132 0 0 := ⟨fun w b o => by simp [Instr.fieldAt, Instr.sureAddr, fieldPlace, Addr.add]⟩
instance : FLD Try.prog 132 1 1 := ⟨fun w b o => by simp [Instr.fieldAt, Instr.sureAddr, fieldPlace, Addr.add]⟩
instance : TI Try.prog 132 2 16 true (.agg #[(.int .u64 0), (.int .i64 0)]) := ⟨by kernel_rfl, by kernel_rfl, rfl⟩
instance : SF Try.prog 133 [(130, 0), (61, 2), (3, 3), (132, 4)] := ⟨by kernel_rfl⟩
instance : FLD Try.prog 133 0 0 := ⟨fun w b o => by simp [Instr.fieldAt, Instr.sureAddr, fieldPlace, Addr.add]⟩
instance : FLD Try.prog 133 1 2 := ⟨fun w b o => by simp [Instr.fieldAt, Instr.sureAddr, fieldPlace, Addr.add]⟩
instance : FLD Try.prog 133 2 3 := ⟨fun w b o => by simp [Instr.fieldAt, Instr.sureAddr, fieldPlace, Addr.add]⟩
instance : FLD Try.prog 133 3 4 := ⟨fun w b o => by simp [Instr.fieldAt, Instr.sureAddr, fieldPlace, Addr.add]⟩
instance : TI Try.prog 133 6 48 true (.agg #[(.int .i64 0), (.map none), (.pointer none), (.int .i64 0), (.int .u64 0), (.int .i64 0)]) := ⟨by kernel_rfl, by kernel_rfl, rfl⟩
instance : SF Try.prog 134 [(130, 0), (61, 2), (3, 3), (132, 4)] := ⟨by kernel_rfl⟩
instance : FLD Try.prog 134 0 0 := ⟨fun w b o => by simp [Instr.fieldAt, Instr.sureAddr, fieldPlace, Addr.add]⟩
instance : FLD Try.prog 134 1 2 := ⟨fun w b o => by simp [Instr.fieldAt, Instr.sureAddr, fieldPlace, Addr.add]⟩
instance : FLD Try.prog 134 2 3 := ⟨fun w b o => by simp [Instr.fieldAt, Instr.sureAddr, fieldPlace, Addr.add]⟩
instance : FLD Try.prog 134 3 4 := ⟨fun w b o => by simp [Instr.fieldAt, Instr.sureAddr, fieldPlace, Addr.add]⟩
instance : TI Try.prog 134 6 48 true (.agg #[(.int .i64 0), (.map none), (.pointer none), (.int .i64 0), (.int .u64 0), (.int .i64 0)]) := ⟨by kernel_rfl, by kernel_rfl, rfl⟩
instance : TI Try.prog 135 1 0 false (.tuple #[(.slice none 0 0), (.int .i64 0)]) := ⟨by kernel_rfl, by kernel_rfl, rfl⟩
instance : TI Try.prog 136 1 8 false .nilFunc := ⟨by kernel_rfl, by kernel_rfl, rfl⟩
instance : TI Try.prog 137 1 0 false (.tuple #[(.agg #[(.int .u64 0), (.int .i64 0)]), (.bool false)]) := ⟨by kernel_rfl, by kernel_rfl, rfl⟩
instance : TI Try.prog 138 1 8 false .nilFunc := ⟨by kernel_rfl, by kernel_rfl, rfl⟩
instance : TI Try.prog 139 1 16 false .nilIface := ⟨by kernel_rfl, by kernel_rfl, rfl⟩
instance : TI Try.prog 140 1 8 false .nilFunc := ⟨by kernel_rfl, by kernel_rfl, rfl⟩
instance : TI Try.prog 141 1 8 false .nilFunc := ⟨by kernel_rfl, by kernel_rfl, rfl⟩
instance : SL Try.prog 142 151 := ⟨by kernel_rfl⟩
instance : TI Try.prog 142 1 24 false (.slice none 0 0) := ⟨by kernel_rfl, by kernel_rfl, rfl⟩
instance : TI Try.prog 143 1 8 false .nilFunc := ⟨by kernel_rfl, by kernel_rfl, rfl⟩
instance : TI Try.prog 144 1 8 false .nilFunc := ⟨by kernel_rfl, by kernel_rfl, rfl⟩
instance : TI Try.prog 145 1 8 false (.pointer none) := ⟨by kernel_rfl, by kernel_rfl, rfl⟩
instance : TI Try.prog 146 1 0 false (.tuple #[(.pointer none), (.bool false)]) := ⟨by kernel_rfl, by kernel_rfl, rfl⟩
instance : SL Try.prog 147 20 := ⟨by kernel_rfl⟩
instance : TI Try.prog 147 1 24 false (.slice none 0 0) := ⟨by kernel_rfl, by kernel_rfl, rfl⟩
instance : SF Try.prog 148 [(3, 0), (142, 1), (147, 2)] := ⟨by kernel_rfl⟩
instance : FLD Try.prog 148 0 0 := ⟨fun w b o => by simp [Instr.fieldAt, Instr.sureAddr, fieldPlace, Addr.add]⟩
instance : FLD Try.prog 148 1 1 := ⟨fun w b o => by simp [Instr.fieldAt, Instr.sureAddr, fieldPlace, Addr.add]⟩
instance : FLD Try.prog 148 2 2 := ⟨fun w b o => by simp [Instr.fieldAt, Instr.sureAddr, fieldPlace, Addr.add]⟩
instance : TI Try.prog 148 3 56 true (.agg #[(.int .i64 0), (.slice none 0 0), (.slice none 0 0)]) := ⟨by kernel_rfl, by kernel_rfl, rfl⟩
instance : SF Try.prog 149 [(3, 0), (142, 1), (147, 2)] := ⟨by kernel_rfl⟩
instance : FLD Try.prog 149 0 0 := ⟨fun w b o => by simp [Instr.fieldAt, Instr.sureAddr, fieldPlace, Addr.add]⟩
instance : FLD Try.prog 149 1 1 := ⟨fun w b o => by simp [Instr.fieldAt, Instr.sureAddr, fieldPlace, Addr.add]⟩
instance : FLD Try.prog 149 2 2 := ⟨fun w b o => by simp [Instr.fieldAt, Instr.sureAddr, fieldPlace, Addr.add]⟩
instance : TI Try.prog 149 3 56 true (.agg #[(.int .i64 0), (.slice none 0 0), (.slice none 0 0)]) := ⟨by kernel_rfl, by kernel_rfl, rfl⟩
instance : SF Try.prog 150 [(74, 0), (74, 1)] := ⟨by kernel_rfl⟩
instance : FLD Try.prog 150 0 0 := ⟨fun w b o => by simp [Instr.fieldAt, Instr.sureAddr, fieldPlace, Addr.add]⟩
instance : FLD Try.prog 150 1 1 := ⟨fun w b o => by simp [Instr.fieldAt, Instr.sureAddr, fieldPlace, Addr.add]⟩
instance : TI Try.prog 150 2 48 true (.agg #[(.slice none 0 0), (.slice none 0 0)]) := ⟨by kernel_rfl, by kernel_rfl, rfl⟩
instance : SF Try.prog 151 [(74, 0), (74, 1)] := ⟨by kernel_rfl⟩
instance : FLD Try.prog 151 0 0 := ⟨fun w b o => by simp [Instr.fieldAt, Instr.sureAddr, fieldPlace, Addr.add]⟩
instance : FLD Try.prog 151 1 1 := ⟨fun w b o => by simp [Instr.fieldAt, Instr.sureAddr, fieldPlace, Addr.add]⟩
instance : TI Try.prog 151 2 48 true (.agg #[(.slice none 0 0), (.slice none 0 0)]) := ⟨by kernel_rfl, by kernel_rfl, rfl⟩
instance : TI Try.prog 152 1 8 false .nilFunc := ⟨by kernel_rfl, by kernel_rfl, rfl⟩
instance : TI Try.prog 153 1 8 false .nilFunc := ⟨by kernel_rfl, by kernel_rfl, rfl⟩
instance : TI Try.prog 154 1 8 false .nilFunc := ⟨by kernel_rfl, by kernel_rfl, rfl⟩
instance : TI Try.prog 155 1 8 false .nilFunc := ⟨by kernel_rfl, by kernel_rfl, rfl⟩
instance : TI Try.prog 156 1 8 false .nilFunc := ⟨by kernel_rfl, by kernel_rfl, rfl⟩
instance : SF Try.prog 157 [(3, 0), (74, 1)] := ⟨by kernel_rfl⟩
instance : FLD Try.prog 157 0 0 := ⟨fun w b o => by simp [Instr.fieldAt, Instr.sureAddr, fieldPlace, Addr.add]⟩
instance : FLD Try.prog 157 1 1 := ⟨fun w b o => by simp [Instr.fieldAt, Instr.sureAddr, fieldPlace, Addr.add]⟩
instance : TI Try.prog 157 2 32 true (.agg #[(.int .i64 0), (.slice none 0 0)]) := ⟨by kernel_rfl, by kernel_rfl, rfl⟩
instance : SF Try.prog 158 [(3, 0), (74, 1)] := ⟨by kernel_rfl⟩
instance : FLD Try.prog 158 0 0 := ⟨fun w b o => by simp [Instr.fieldAt, Instr.sureAddr, fieldPlace, Addr.add]⟩
instance : FLD Try.prog 158 1 1 := ⟨fun w b o => by simp [Instr.fieldAt, Instr.sureAddr, fieldPlace, Addr.add]⟩
instance : TI Try.prog 158 2 32 true (.agg #[(.int .i64 0), (.slice none 0 0)]) := ⟨by kernel_rfl, by kernel_rfl, rfl⟩
instance : TI Try.prog 159 1 8 false .nilFunc := ⟨by kernel_rfl, by kernel_rfl, rfl⟩
instance : TI Try.prog 160 1 8 false .nilFunc := ⟨by kernel_rfl, by kernel_rfl, rfl⟩
instance : TI Try.prog 161 1 8 false .nilFunc := ⟨by kernel_rfl, by kernel_rfl, rfl⟩
instance : TI Try.prog 162 1 8 false (.pointer none) := ⟨by kernel_rfl, by kernel_rfl, rfl⟩
instance : TI Try.prog 163 1 0 false (.tuple #[(.pointer none), (.bool false)]) := ⟨by kernel_rfl, by kernel_rfl, rfl⟩
instance : SF Try.prog 164 [(3, 0), (142, 1)] := ⟨by kernel_rfl⟩
instance : FLD Try.prog 164 0 0 := ⟨fun w b o => by simp [Instr.fieldAt, Instr.sureAddr, fieldPlace, Addr.add]⟩
instance : FLD Try.prog 164 1 1 := ⟨fun w b o => by simp [Instr.fieldAt, Instr.sureAddr, fieldPlace, Addr.add]⟩
instance : TI Try.prog 164 2 32 true (.agg #[(.int .i64 0), (.slice none 0 0)]) := ⟨by kernel_rfl, by kernel_rfl, rfl⟩
instance : SF Try.prog 165 [(3, 0), (142, 1)] := ⟨by kernel_rfl⟩
instance : FLD Try.prog 165 0 0 := ⟨fun w b o => by simp [Instr.fieldAt, Instr.sureAddr, fieldPlace, Addr.add]⟩
instance : FLD Try.prog 165 1 1 := ⟨fun w b o => by simp [Instr.fieldAt, Instr.sureAddr, fieldPlace, Addr.add]⟩
instance : TI Try.prog 165 2 32 true (.agg #[(.int .i64 0), (.slice none 0 0)]) := ⟨by kernel_rfl, by kernel_rfl, rfl⟩
instance : TI Try.prog 166 1 0 false (.tuple #[.nilIface, (.bool false)]) := ⟨by kernel_rfl, by kernel_rfl, rfl⟩
instance : TI Try.prog 167 1 8 false .nilFunc := ⟨by kernel_rfl, by kernel_rfl, rfl⟩
instance : TI Try.prog 168 1 8 false .nilFunc := ⟨by kernel_rfl, by kernel_rfl, rfl⟩
instance : TI Try.prog 169 1 8 false (.pointer none) := ⟨by kernel_rfl, by kernel_rfl, rfl⟩
instance : TI Try.prog 170 1 8 false .nilFunc := ⟨by kernel_rfl, by kernel_rfl, rfl⟩
instance : TI Try.prog 171 1 0 false (.tuple #[(.slice none 0 0), (.bool false)]) := ⟨by kernel_rfl, by kernel_rfl, rfl⟩
instance : TI Try.prog 172 1 8 false .nilFunc := ⟨by kernel_rfl, by kernel_rfl, rfl⟩
instance : TI Try.prog 173 1 8 false .nilFunc := ⟨by kernel_rfl, by kernel_rfl, rfl⟩
instance : INT Try.prog 174 .u32 := ⟨by kernel_rfl⟩
instance : TI Try.prog 174 1 4 false (.int .u32 0) := ⟨by kernel_rfl, by kernel_rfl, rfl⟩
instance : TI Try.prog 175 1 8 false .nilFunc := ⟨by kernel_rfl, by kernel_rfl, rfl⟩
instance : TI Try.prog 176 1 8 false (.pointer none) := ⟨by kernel_rfl, by kernel_rfl, rfl⟩
instance : SF Try.prog 177 [(74, 0), (3, 1), (4, 2)] := ⟨by kernel_rfl⟩
instance : FLD Try.prog 177 0 0 := ⟨fun w b o => by simp [Instr.fieldAt, Instr.sureAddr, fieldPlace, Addr.add]⟩
instance : FLD Try.prog 177 1 1 := ⟨fun w b o => by simp [Instr.fieldAt, Instr.sureAddr, fieldPlace, Addr.add]⟩
instance : FLD Try.prog 177 2 2 := ⟨fun w b o => by simp [Instr.fieldAt, Instr.sureAddr, fieldPlace, Addr.add]⟩
instance : TI Try.prog 177 3 40 true (.agg #[(.slice none 0 0), (.int .i64 0), (.bool false)]) := ⟨by kernel_rfl, by kernel_rfl, rfl⟩
instance : SF Try.prog 178 [(74, 0), (3, 1), (4, 2)] := ⟨by kernel_rfl⟩
instance : FLD Try.prog 178 0 0 := ⟨fun w b o => by simp [Instr.fieldAt, Instr.sureAddr, fieldPlace, Addr.add]⟩
instance : FLD Try.prog 178 1 1 := ⟨fun w b o => by simp [Instr.fieldAt, Instr.sureAddr, fieldPlace, Addr.add]⟩
instance : FLD Try.prog 178 2 2 := ⟨fun w b o => by simp [Instr.fieldAt, Instr.sureAddr, fieldPlace, Addr.add]⟩
instance : TI Try.prog 178 3 40 true (.agg #[(.slice none 0 0), (.int .i64 0), (.bool false)]) := ⟨by kernel_rfl, by kernel_rfl, rfl⟩
instance : TI Try.prog 179 1 8 false .nilFunc := ⟨by kernel_rfl, by kernel_rfl, rfl⟩
instance : ARR Try.prog 180 256 174 := ⟨by kernel_rfl⟩
instance : TI Try.prog 180 256 1024 true (.agg (List.replicate 256 (.int .u32 0)).toArray) := ⟨by kernel_rfl, by kernel_rfl, by kernel_rfl⟩
instance : ARR Try.prog 181 4 180 := ⟨by kernel_rfl⟩
instance : TI Try.prog 181 1024 4096 true (.agg (List.replicate 1024 (.int .u32 0)).toArray) := ⟨by kernel_rfl, by kernel_rfl, by kernel_rfl⟩
instance : ARR Try.prog 182 4 180 := ⟨by kernel_rfl⟩
instance : TI Try.prog 182 1024 4096 true (.agg (List.replicate 1024 (.int .u32 0)).toArray) := ⟨by kernel_rfl, by kernel_rfl, by kernel_rfl⟩
instance : TI Try.prog 183 1 0 false (.tuple #[(.slice none 0 0), (.int .i64 0), (.int .i64 0)]) := ⟨by kernel_rfl, by kernel_rfl, rfl⟩
instance : TI Try.prog 184 1 8 false .nilFunc := ⟨by kernel_rfl, by kernel_rfl, rfl⟩
instance : TI Try.prog 185 1 8 false (.pointer none) := ⟨by kernel_rfl, by kernel_rfl, rfl⟩
instance : TI Try.prog 186 1 8 false .nilFunc := ⟨by kernel_rfl, by kernel_rfl, rfl⟩
instance : SF Try.prog 187 [(17, 0), (17, 1), (17, 2), (9, 3)] := ⟨by kernel_rfl⟩
instance : FLD Try.prog 187 0 0 := ⟨fun w b o => by simp [Instr.fieldAt, Instr.sureAddr, fieldPlace, Addr.add]⟩
instance : FLD Try.prog 187 1 1 := ⟨fun w b o => by simp [Instr.fieldAt, Instr.sureAddr, fieldPlace, Addr.add]⟩
instance : FLD Try.prog 187 2 2 := ⟨fun w b o => by simp [Instr.fieldAt, Instr.sureAddr, fieldPlace, Addr.add]⟩
instance : FLD Try.prog 187 3 3 := ⟨fun w b o => by simp [Instr.fieldAt, Instr.sureAddr, fieldPlace, Addr.add]⟩
instance : TI Try.prog 187 4 40 true (.agg #[(.pointer none), (.pointer none), (.pointer none), (.string { data := #[] })]) := ⟨by kernel_rfl, by kernel_rfl, rfl⟩
instance : SF Try.prog 188 [(17, 0), (17, 1), (17, 2), (9, 3)] := ⟨by kernel_rfl⟩
instance : FLD Try.prog 188 0 0 := ⟨fun w b o => by simp [Instr.fieldAt, Instr.sureAddr, fieldPlace, Addr.add]⟩
instance : FLD Try.prog 188 1 1 := ⟨fun w b o => by simp [Instr.fieldAt, Instr.sureAddr, fieldPlace, Addr.add]⟩
instance : FLD Try.prog 188 2 2 := ⟨fun w b o => by simp [Instr.fieldAt, Instr.sureAddr, fieldPlace, Addr.add]⟩
instance : FLD Try.prog 188 3 3 := ⟨fun w b o => by simp [Instr.fieldAt, Instr.sureAddr, fieldPlace, Addr.add]⟩
instance : TI Try.prog 188 4 40 true (.agg #[(.pointer none), (.pointer none), (.pointer none), (.string { data := #[] })]) := ⟨by kernel_rfl, by kernel_rfl, rfl⟩
instance : ARR Try.prog 189 0 16 := ⟨by kernel_rfl⟩
instance : TI Try.prog 189 0 0 true (.agg #[]) := ⟨by kernel_rfl, by kernel_rfl, rfl⟩
instance : SF Try.prog 190 [(189, 0)] := ⟨by kernel_rfl⟩
instance : TI Try.prog 190 0 0 true (.agg #[]) := ⟨by kernel_rfl, by kernel_rfl, rfl⟩
instance : SF Try.prog 191 [(189, 0)] := ⟨by kernel_rfl⟩
instance : TI Try.prog 191 0 0 true (.agg #[]) := ⟨by kernel_rfl, by kernel_rfl, rfl⟩
instance : INT Try.prog 192 .u8 := ⟨by kernel_rfl⟩
instance : TI Try.prog 192 1 1 false (.int .u8 0) := ⟨by kernel_rfl, by kernel_rfl, rfl⟩
instance : INT Try.prog 193 .u8 := ⟨by kernel_rfl⟩
instance : TI Try.prog 193 1 1 false (.int .u8 0) := ⟨by kernel_rfl, by kernel_rfl, rfl⟩
instance : TI Try.prog 194 1 8 false .nilFunc := ⟨by kernel_rfl, by kernel_rfl, rfl⟩
instance : TI Try.prog 195 1 8 false (.pointer none) := ⟨by kernel_rfl, by kernel_rfl, rfl⟩
instance : INT Try.prog 196 .i32 := ⟨by kernel_rfl⟩
instance : TI Try.prog 196 1 4 false (.int .i32 0) := ⟨by kernel_rfl, by kernel_rfl, rfl⟩
instance : INT Try.prog 197 .i32 := ⟨by kernel_rfl⟩
instance : TI Try.prog 197 1 4 false (.int .i32 0) := ⟨by kernel_rfl, by kernel_rfl, rfl⟩
instance : SF Try.prog 198 [(12, 0), (12, 1), (174, 2), (192, 3), (5, 4), (5, 5), (193, 6), (194, 7), (195, 8), (196, 9), (197, 10)] := ⟨by kernel_rfl⟩
instance : FLD Try.prog 198 0 0 := ⟨fun w b o => by simp [Instr.fieldAt, Instr.sureAddr, fieldPlace, Addr.add]⟩
instance : FLD Try.prog 198 1 1 := ⟨fun w b o => by simp [Instr.fieldAt, Instr.sureAddr, fieldPlace, Addr.add]⟩
instance : FLD Try.prog 198 2 2 := ⟨fun w b o => by simp [Instr.fieldAt, Instr.sureAddr, fieldPlace, Addr.add]⟩
instance : FLD Try.prog 198 3 3 := ⟨fun w b o => by simp [Instr.fieldAt, Instr.sureAddr, fieldPlace, Addr.add]⟩
instance : FLD Try.prog 198 4 4 := ⟨fun w b o => by simp [Instr.fieldAt, Instr.sureAddr, fieldPlace, Addr.add]⟩
instance : FLD Try.prog 198 5 5 := ⟨fun w b o => by simp [Instr.fieldAt, Instr.sureAddr, fieldPlace, Addr.add]⟩
instance : FLD Try.prog 198 6 6 := ⟨fun w b o => by simp [Instr.fieldAt, Instr.sureAddr, fieldPlace, Addr.add]⟩
instance : FLD Try.prog 198 7 7 := ⟨fun w b o => by simp [Instr.fieldAt, Instr.sureAddr, fieldPlace, Addr.add]⟩
instance : FLD Try.prog 198 8 8 := ⟨fun w b o => by simp [Instr.fieldAt, Instr.sureAddr, fieldPlace, Addr.add]⟩
instance : FLD Try.prog 198 9 9 := ⟨fun w b o => by simp [Instr.fieldAt, Instr.sureAddr, fieldPlace, Addr.add]⟩
instance : FLD Try.prog 198 10 10 := ⟨fun w b o => by simp [Instr.fieldAt, Instr.sureAddr, fieldPlace, Addr.add]⟩
instance : TI Try.prog 198 11 48 true (.agg #[(.int .u64 0), (.int .u64 0), (.int .u32 0), (.int .u8 0), (.int .u8 0), (.int .u8 0), (.int .u8 0), .nilFunc, (.pointer none), (.int .i32 0), (.int .i32 0)]) := ⟨by kernel_rfl, by kernel_rfl, rfl⟩
instance : SF Try.prog 199 [(12, 0), (12, 1), (174, 2), (192, 3), (5, 4), (5, 5), (193, 6), (194, 7), (195, 8), (196, 9), (197, 10)] := ⟨by kernel_rfl⟩
instance : FLD Try.prog 199 0 0 := ⟨fun w b o => by simp [Instr.fieldAt, Instr.sureAddr, fieldPlace, Addr.add]⟩
instance : FLD Try.prog 199 1 1 := ⟨fun w b o => by simp [Instr.fieldAt, Instr.sureAddr, fieldPlace, Addr.add]⟩
instance : FLD Try.prog 199 2 2 := ⟨fun w b o => by simp [Instr.fieldAt, Instr.sureAddr, fieldPlace, Addr.add]⟩
instance : FLD Try.prog 199 3 3 := ⟨fun w b o => by simp [Instr.fieldAt, Instr.sureAddr, fieldPlace, Addr.add]⟩
instance : FLD Try.prog 199 4 4 := ⟨fun w b o => by simp [Instr.fieldAt, Instr.sureAddr, fieldPlace, Addr.add]⟩
instance : FLD Try.prog 199 5 5 := ⟨fun w b o => by simp [Instr.fieldAt, Instr.sureAddr, fieldPlace, Addr.add]⟩
instance : FLD Try.prog 199 6 6 := ⟨fun w b o => by simp [Instr.fieldAt, Instr.sureAddr, fieldPlace, Addr.add]⟩
instance : FLD Try.prog 199 7 7 := ⟨fun w b o => by simp [Instr.fieldAt, Instr.sureAddr, fieldPlace, Addr.add]⟩
instance : FLD Try.prog 199 8 8 := ⟨fun w b o => by simp [Instr.fieldAt, Instr.sureAddr, fieldPlace, Addr.add]⟩
instance : FLD Try.prog 199 9 9 := ⟨fun w b o => by simp [Instr.fieldAt, Instr.sureAddr, fieldPlace, Addr.add]⟩
instance : FLD Try.prog 199 10 10 := ⟨fun w b o => by simp [Instr.fieldAt, Instr.sureAddr, fieldPlace, Addr.add]⟩
instance : TI Try.prog 199 11 48 true (.agg #[(.int .u64 0), (.int .u64 0), (.int .u32 0), (.int .u8 0), (.int .u8 0), (.int .u8 0), (.int .u8 0), .nilFunc, (.pointer none), (.int .i32 0), (.int .i32 0)]) := ⟨by kernel_rfl, by kernel_rfl, rfl⟩
instance : SL Try.prog 200 211 := ⟨by kernel_rfl⟩
instance : TI Try.prog 200 1 24 false (.slice none 0 0) := ⟨by kernel_rfl, by kernel_rfl, rfl⟩
instance : SL Try.prog 201 213 := ⟨by kernel_rfl⟩
instance : TI Try.prog 201 1 24 false (.slice none 0 0) := ⟨by kernel_rfl, by kernel_rfl, rfl⟩
instance : SF Try.prog 202 [(9, 0), (200, 1), (201, 2)] := ⟨by kernel_rfl⟩
instance : FLD Try.prog 202 0 0 := ⟨fun w b o => by simp [Instr.fieldAt, Instr.sureAddr, fieldPlace, Addr.add]⟩
instance : FLD Try.prog 202 1 1 := ⟨fun w b o => by simp [Instr.fieldAt, Instr.sureAddr, fieldPlace, Addr.add]⟩
instance : FLD Try.prog 202 2 2 := ⟨fun w b o => by simp [Instr.fieldAt, Instr.sureAddr, fieldPlace, Addr.add]⟩
instance : TI Try.prog 202 3 64 true (.agg #[(.string { data := #[] }), (.slice none 0 0), (.slice none 0 0)]) := ⟨by kernel_rfl, by kernel_rfl, rfl⟩
instance : SF Try.prog 203 [(9, 0), (200, 1), (201, 2)] := ⟨by kernel_rfl⟩
instance : FLD Try.prog 203 0 0 := ⟨fun w b o => by simp [Instr.fieldAt, Instr.sureAddr, fieldPlace, Addr.add]⟩
instance : FLD Try.prog 203 1 1 := ⟨fun w b o => by simp [Instr.fieldAt, Instr.sureAddr, fieldPlace, Addr.add]⟩
instance : FLD Try.prog 203 2 2 := ⟨fun w b o => by simp [Instr.fieldAt, Instr.sureAddr, fieldPlace, Addr.add]⟩
instance : TI Try.prog 203 3 64 true (.agg #[(.string { data := #[] }), (.slice none 0 0), (.slice none 0 0)]) := ⟨by kernel_rfl, by kernel_rfl, rfl⟩
instance : SF Try.prog 204 [(203, 0), (39, 3)] := ⟨by kernel_rfl⟩
instance : FLD Try.prog 204 0 0 := ⟨fun w b o => by simp [Instr.fieldAt, Instr.sureAddr, fieldPlace, Addr.add]⟩
instance : FLD Try.prog 204 1 3 := ⟨fun w b o => by simp [Instr.fieldAt, Instr.sureAddr, fieldPlace, Addr.add]⟩
instance : TI Try.prog 204 4 88 true (.agg #[(.string { data := #[] }), (.slice none 0 0), (.slice none 0 0), (.slice none 0 0)]) := ⟨by kernel_rfl, by kernel_rfl, rfl⟩
instance : SF Try.prog 205 [(203, 0), (39, 3)] := ⟨by kernel_rfl⟩
instance : FLD Try.prog 205 0 0 := ⟨fun w b o => by simp [Instr.fieldAt, Instr.sureAddr, fieldPlace, Addr.add]⟩
instance : FLD Try.prog 205 1 3 := ⟨fun w b o => by simp [Instr.fieldAt, Instr.sureAddr, fieldPlace, Addr.add]⟩
instance : TI Try.prog 205 4 88 true (.agg #[(.string { data := #[] }), (.slice none 0 0), (.slice none 0 0), (.slice none 0 0)]) := ⟨by kernel_rfl, by kernel_rfl, rfl⟩
instance : TI Try.prog 206 1 8 false .nilFunc := ⟨by kernel_rfl, by kernel_rfl, rfl⟩
instance : SL Try.prog 207 215 := ⟨by kernel_rfl⟩
instance : TI Try.prog 207 1 24 false (.slice none 0 0) := ⟨by kernel_rfl, by kernel_rfl, rfl⟩
instance : TI Try.prog 208 1 8 false (.pointer none) := ⟨by kernel_rfl, by kernel_rfl, rfl⟩
instance : TI Try.prog 209 1 8 false (.pointer none) := ⟨by kernel_rfl, by kernel_rfl, rfl⟩
instance : SF Try.prog 210 [(9, 0), (3, 1), (3, 2)] := ⟨by kernel_rfl⟩
instance : FLD Try.prog 210 0 0 := ⟨fun w b o => by simp [Instr.fieldAt, Instr.sureAddr, fieldPlace, Addr.add]⟩
instance : FLD Try.prog 210 1 1 := ⟨fun w b o => by simp [Instr.fieldAt, Instr.sureAddr, fieldPlace, Addr.add]⟩
instance : FLD Try.prog 210 2 2 := ⟨fun w b o => by simp [Instr.fieldAt, Instr.sureAddr, fieldPlace, Addr.add]⟩
instance : TI Try.prog 210 3 32 true (.agg #[(.string { data := #[] }), (.int .i64 0), (.int .i64 0)]) := ⟨by kernel_rfl, by kernel_rfl, rfl⟩
instance : SF Try.prog 211 [(9, 0), (3, 1), (3, 2)] := ⟨by kernel_rfl⟩
instance : FLD Try.prog 211 0 0 := ⟨fun w b o => by simp [Instr.fieldAt, Instr.sureAddr, fieldPlace, Addr.add]⟩
instance : FLD Try.prog 211 1 1 := ⟨fun w b o => by simp [Instr.fieldAt, Instr.sureAddr, fieldPlace, Addr.add]⟩
instance : FLD Try.prog 211 2 2 := ⟨fun w b o => by simp [Instr.fieldAt, Instr.sureAddr, fieldPlace, Addr.add]⟩
instance : TI Try.prog 211 3 32 true (.agg #[(.string { data := #[] }), (.int .i64 0), (.int .i64 0)]) := ⟨by kernel_rfl, by kernel_rfl, rfl⟩
instance : SF Try.prog 212 [(3, 0), (4, 1)] := ⟨by kernel_rfl⟩
instance : FLD Try.prog 212 0 0 := ⟨fun w b o => by simp [Instr.fieldAt, Instr.sureAddr, fieldPlace, Addr.add]⟩
instance : FLD Try.prog 212 1 1 := ⟨fun w b o => by simp [Instr.fieldAt, Instr.sureAddr, fieldPlace, Addr.add]⟩
instance : TI Try.prog 212 2 16 true (.agg #[(.int .i64 0), (.bool false)]) := ⟨by kernel_rfl, by kernel_rfl, rfl⟩
instance : SF Try.prog 213 [(3, 0), (4, 1)] := ⟨by kernel_rfl⟩
instance : FLD Try.prog 213 0 0 := ⟨fun w b o => by simp [Instr.fieldAt, Instr.sureAddr, fieldPlace, Addr.add]⟩
instance : FLD Try.prog 213 1 1 := ⟨fun w b o => by simp [Instr.fieldAt, Instr.sureAddr, fieldPlace, Addr.add]⟩
instance : TI Try.prog 213 2 16 true (.agg #[(.int .i64 0), (.bool false)]) := ⟨by kernel_rfl, by kernel_rfl, rfl⟩
instance : SF Try.prog 214 [(3, 0), (3, 1), (9, 2)] := ⟨by kernel_rfl⟩
instance : FLD Try.prog 214 0 0 := ⟨fun w b o => by simp [Instr.fieldAt, Instr.sureAddr, fieldPlace, Addr.add]⟩
instance : FLD Try.prog 214 1 1 := ⟨fun w b o => by simp [Instr.fieldAt, Instr.sureAddr, fieldPlace, Addr.add]⟩
instance : FLD Try.prog 214 2 2 := ⟨fun w b o => by simp [Instr.fieldAt, Instr.sureAddr, fieldPlace, Addr.add]⟩
instance : TI Try.prog 214 3 32 true (.agg #[(.int .i64 0), (.int .i64 0), (.string { data := #[] })]) := ⟨by kernel_rfl, by kernel_rfl, rfl⟩
instance : SF Try.prog 215 [(3, 0), (3, 1), (9, 2)] := ⟨by kernel_rfl⟩
instance : FLD Try.prog 215 0 0 := ⟨fun w b o => by simp [Instr.fieldAt, Instr.sureAddr, fieldPlace, Addr.add]⟩
instance : FLD Try.prog 215 1 1 := ⟨fun w b o => by simp [Instr.fieldAt, Instr.sureAddr, fieldPlace, Addr.add]⟩
instance : FLD Try.prog 215 2 2 := ⟨fun w b o => by simp [Instr.fieldAt, Instr.sureAddr, fieldPlace, Addr.add]⟩
instance : TI Try.prog 215 3 32 true (.agg #[(.int .i64 0), (.int .i64 0), (.string { data := #[] })]) := ⟨by kernel_rfl, by kernel_rfl, rfl⟩
instance : SF Try.prog 216 [(84, 0), (20, 1), (109, 2), (4, 3)] := ⟨by kernel_rfl⟩
instance : FLD Try.prog 216 0 0 := ⟨fun w b o => by simp [Instr.fieldAt, Instr.sureAddr, fieldPlace, Addr.add]⟩
instance : FLD Try.prog 216 1 1 := ⟨fun w b o => by simp [Instr.fieldAt, Instr.sureAddr, fieldPlace, Addr.add]⟩
instance : FLD Try.prog 216 2 2 := ⟨fun w b o => by simp [Instr.fieldAt, Instr.sureAddr, fieldPlace, Addr.add]⟩
instance : FLD Try.prog 216 3 3 := ⟨fun w b o => by simp [Instr.fieldAt, Instr.sureAddr, fieldPlace, Addr.add]⟩
instance : TI Try.prog 216 4 40 true (.agg #[(.pointer none), .nilIface, (.map none), (.bool false)]) := ⟨by kernel_rfl, by kernel_rfl, rfl⟩
instance : SF Try.prog 217 [(84, 0), (20, 1), (109, 2), (4, 3)] := ⟨by kernel_rfl⟩
instance : FLD Try.prog 217 0 0 := ⟨fun w b o => by simp [Instr.fieldAt, Instr.sureAddr, fieldPlace, Addr.add]⟩
instance : FLD Try.prog 217 1 1 := ⟨fun w b o => by simp [Instr.fieldAt, Instr.sureAddr, fieldPlace, Addr.add]⟩
instance : FLD Try.prog 217 2 2 := ⟨fun w b o => by simp [Instr.fieldAt, Instr.sureAddr, fieldPlace, Addr.add]⟩
instance : FLD Try.prog 217 3 3 := ⟨fun w b o => by simp [Instr.fieldAt, Instr.sureAddr, fieldPlace, Addr.add]⟩
instance : TI Try.prog 217 4 40 true (.agg #[(.pointer none), .nilIface, (.map none), (.bool false)]) := ⟨by kernel_rfl, by kernel_rfl, rfl⟩
end Go.Proofs.Ythacklkmngfniaa
