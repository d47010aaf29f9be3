/- What the program's own table says of its types. -/
import Derived.Test.YtpogdeibkghhaaaDoorProg
import Derived.Test.YtpogdeibkghhaaaDoorMem2
namespace Go.Proofs.YtpogdeibkghhaaaDoor
instance : TI Tryd.prog 0 1 0 false (.tuple #[]) := ⟨by kernel_rfl, by kernel_rfl, rfl⟩
instance : TI Tryd.prog 1 1 8 false .nilFunc := ⟨by kernel_rfl, by kernel_rfl, rfl⟩
instance : INT Tryd.prog 2 .i64 := ⟨by kernel_rfl⟩
instance : TI Tryd.prog 2 1 8 false (.int .i64 0) := ⟨by kernel_rfl, by kernel_rfl, rfl⟩
instance : INT Tryd.prog 3 .i64 := ⟨by kernel_rfl⟩
instance : TI Tryd.prog 3 1 8 false (.int .i64 0) := ⟨by kernel_rfl, by kernel_rfl, rfl⟩
instance : TI Tryd.prog 4 1 1 false (.bool false) := ⟨by kernel_rfl, by kernel_rfl, rfl⟩
instance : INT Tryd.prog 5 .u8 := ⟨by kernel_rfl⟩
instance : TI Tryd.prog 5 1 1 false (.int .u8 0) := ⟨by kernel_rfl, by kernel_rfl, rfl⟩
instance : INT Tryd.prog 6 .u8 := ⟨by kernel_rfl⟩
instance : TI Tryd.prog 6 1 1 false (.int .u8 0) := ⟨by kernel_rfl, by kernel_rfl, rfl⟩
instance : SF Tryd.prog 7 [(2, 0), (3, 1), (4, 2), (6, 3)] := ⟨by kernel_rfl⟩
instance : FLD Tryd.prog 7 0 0 := ⟨fun w b o => by simp [Instr.fieldAt, Instr.sureAddr, fieldPlace, Addr.add]⟩
instance : FLD Tryd.prog 7 1 1 := ⟨fun w b o => by simp [Instr.fieldAt, Instr.sureAddr, fieldPlace, Addr.add]⟩
instance : FLD Tryd.prog 7 2 2 := ⟨fun w b o => by simp [Instr.fieldAt, Instr.sureAddr, fieldPlace, Addr.add]⟩
instance : FLD Tryd.prog 7 3 3 := ⟨fun w b o => by simp [Instr.fieldAt, Instr.sureAddr, fieldPlace, Addr.add]⟩
instance : TI Tryd.prog 7 4 24 true (.agg #[(.int .i64 0), (.int .i64 0), (.bool false), (.int .u8 0)]) := ⟨by kernel_rfl, by kernel_rfl, rfl⟩
instance : SF Tryd.prog 8 [(2, 0), (3, 1), (4, 2), (6, 3)] := ⟨by kernel_rfl⟩
instance : FLD Tryd.prog 8 0 0 := ⟨fun w b o => by simp [Instr.fieldAt, Instr.sureAddr, fieldPlace, Addr.add]⟩
instance : FLD Tryd.prog 8 1 1 := ⟨fun w b o => by simp [Instr.fieldAt, Instr.sureAddr, fieldPlace, Addr.add]⟩
instance : FLD Tryd.prog 8 2 2 := ⟨fun w b o => by simp [Instr.fieldAt, Instr.sureAddr, fieldPlace, Addr.add]⟩
instance : FLD Tryd.prog 8 3 3 := ⟨fun w b o => by simp [Instr.fieldAt, Instr.sureAddr, fieldPlace, Addr.add]⟩
instance : TI Tryd.prog 8 4 24 true (.agg #[(.int .i64 0), (.int .i64 0), (.bool false), (.int .u8 0)]) := ⟨by kernel_rfl, by kernel_rfl, rfl⟩
instance : STR Tryd.prog 9 := ⟨by kernel_rfl⟩
instance : TI Tryd.prog 9 1 16 false (.string { data := #[] }) := ⟨by kernel_rfl, by kernel_rfl, rfl⟩
instance : STR Tryd.prog 10 := ⟨by kernel_rfl⟩
instance : TI Tryd.prog 10 1 16 false (.string { data := #[] }) := ⟨by kernel_rfl, by kernel_rfl, rfl⟩
instance : STR Tryd.prog 11 := ⟨by kernel_rfl⟩
instance : TI Tryd.prog 11 1 16 false (.string { data := #[] }) := ⟨by kernel_rfl, by kernel_rfl, rfl⟩
instance : INT Tryd.prog 12 .u64 := ⟨by kernel_rfl⟩
instance : TI Tryd.prog 12 1 8 false (.int .u64 0) := ⟨by kernel_rfl, by kernel_rfl, rfl⟩
instance : SF Tryd.prog 13 [(9, 0), (12, 1)] := ⟨by kernel_rfl⟩
instance : FLD Tryd.prog 13 0 0 := ⟨fun w b o => by simp [Instr.fieldAt, Instr.sureAddr, fieldPlace, Addr.add]⟩
instance : FLD Tryd.prog 13 1 1 := ⟨fun w b o => by simp [Instr.fieldAt, Instr.sureAddr, fieldPlace, Addr.add]⟩
instance : TI Tryd.prog 13 2 24 true (.agg #[(.string { data := #[] }), (.int .u64 0)]) := ⟨by kernel_rfl, by kernel_rfl, rfl⟩
instance : SF Tryd.prog 14 [(9, 0), (12, 1)] := ⟨by kernel_rfl⟩
instance : FLD Tryd.prog 14 0 0 := ⟨fun w b o => by simp [Instr.fieldAt, Instr.sureAddr, fieldPlace, Addr.add]⟩
instance : FLD Tryd.prog 14 1 1 := ⟨fun w b o => by simp [Instr.fieldAt, Instr.sureAddr, fieldPlace, Addr.add]⟩
instance : TI Tryd.prog 14 2 24 true (.agg #[(.string { data := #[] }), (.int .u64 0)]) := ⟨by kernel_rfl, by kernel_rfl, rfl⟩
instance : TI Tryd.prog 15 1 8 false (.pointer none) := ⟨by kernel_rfl, by kernel_rfl, rfl⟩
instance : TI Tryd.prog 16 1 8 false (.pointer none) := ⟨by kernel_rfl, by kernel_rfl, rfl⟩
instance : TI Tryd.prog 17 1 8 false (.pointer none) := ⟨by kernel_rfl, by kernel_rfl, rfl⟩
instance : SF Tryd.prog 18 [(17, 0)] := ⟨by kernel_rfl⟩
instance : FLD Tryd.prog 18 0 0 := ⟨fun w b o => by simp [Instr.fieldAt, Instr.sureAddr, fieldPlace, Addr.add]⟩
instance : TI Tryd.prog 18 1 8 true (.agg #[(.pointer none)]) := ⟨by kernel_rfl, by kernel_rfl, rfl⟩
instance : SF Tryd.prog 19 [(17, 0)] := ⟨by kernel_rfl⟩
instance : FLD Tryd.prog 19 0 0 := ⟨fun w b o => by simp [Instr.fieldAt, Instr.sureAddr, fieldPlace, Addr.add]⟩
instance : TI Tryd.prog 19 1 8 true (.agg #[(.pointer none)]) := ⟨by kernel_rfl, by kernel_rfl, rfl⟩
instance : TI Tryd.prog 20 1 16 false .nilIface := ⟨by kernel_rfl, by kernel_rfl, rfl⟩
instance : INT Tryd.prog 21 .i32 := ⟨by kernel_rfl⟩
instance : TI Tryd.prog 21 1 4 false (.int .i32 0) := ⟨by kernel_rfl, by kernel_rfl, rfl⟩
instance : INT Tryd.prog 22 .i64 := ⟨by kernel_rfl⟩
instance : TI Tryd.prog 22 1 8 false (.int .i64 0) := ⟨by kernel_rfl, by kernel_rfl, rfl⟩
instance : SL Tryd.prog 23 45 := ⟨by kernel_rfl⟩
instance : TI Tryd.prog 23 1 24 false (.slice none 0 0) := ⟨by kernel_rfl, by kernel_rfl, rfl⟩
instance : SF Tryd.prog 24 [(22, 0), (3, 1), (23, 2)] := ⟨by kernel_rfl⟩
instance : FLD Tryd.prog 24 0 0 := ⟨fun w b o => by simp [Instr.fieldAt, Instr.sureAddr, fieldPlace, Addr.add]⟩
instance : FLD Tryd.prog 24 1 1 := ⟨fun w b o => by simp [Instr.fieldAt, Instr.sureAddr, fieldPlace, Addr.add]⟩
instance : FLD Tryd.prog 24 2 2 := ⟨fun w b o => by simp [Instr.fieldAt, Instr.sureAddr, fieldPlace, Addr.add]⟩
instance : TI Tryd.prog 24 3 40 true (.agg #[(.int .i64 0), (.int .i64 0), (.slice none 0 0)]) := ⟨by kernel_rfl, by kernel_rfl, rfl⟩
instance : SF Tryd.prog 25 [(22, 0), (3, 1), (23, 2)] := ⟨by kernel_rfl⟩
instance : FLD Tryd.prog 25 0 0 := ⟨fun w b o => by simp [Instr.fieldAt, Instr.sureAddr, fieldPlace, Addr.add]⟩
instance : FLD Tryd.prog 25 1 1 := ⟨fun w b o => by simp [Instr.fieldAt, Instr.sureAddr, fieldPlace, Addr.add]⟩
instance : FLD Tryd.prog 25 2 2 := ⟨fun w b o => by simp [Instr.fieldAt, Instr.sureAddr, fieldPlace, Addr.add]⟩
instance : TI Tryd.prog 25 3 40 true (.agg #[(.int .i64 0), (.int .i64 0), (.slice none 0 0)]) := ⟨by kernel_rfl, by kernel_rfl, rfl⟩
instance : SL Tryd.prog 26 5 := ⟨by kernel_rfl⟩
instance : TI Tryd.prog 26 1 24 false (.slice none 0 0) := ⟨by kernel_rfl, by kernel_rfl, rfl⟩
instance : TI Tryd.prog 27 1 0 false (.tuple #[(.slice none 0 0), (.int .i64 0)]) := ⟨by kernel_rfl, by kernel_rfl, rfl⟩
instance : TI Tryd.prog 28 1 8 false .nilFunc := ⟨by kernel_rfl, by kernel_rfl, rfl⟩
instance : TI Tryd.prog 29 1 8 false .nilFunc := ⟨by kernel_rfl, by kernel_rfl, rfl⟩
instance : TI Tryd.prog 30 1 8 false .nilFunc := ⟨by kernel_rfl, by kernel_rfl, rfl⟩
instance : TI Tryd.prog 31 1 0 false (.tuple #[(.agg #[(.int .i64 0), (.int .i64 0), (.slice none 0 0)]), (.int .i64 0)]) := ⟨by kernel_rfl, by kernel_rfl, rfl⟩
instance : TI Tryd.prog 32 1 8 false .nilFunc := ⟨by kernel_rfl, by kernel_rfl, rfl⟩
instance : TI Tryd.prog 33 1 8 false .nilFunc := ⟨by kernel_rfl, by kernel_rfl, rfl⟩
instance : SL Tryd.prog 34 58 := ⟨by kernel_rfl⟩
instance : TI Tryd.prog 34 1 24 false (.slice none 0 0) := ⟨by kernel_rfl, by kernel_rfl, rfl⟩
instance : SF Tryd.prog 35 [(3, 0), (3, 1), (34, 2), (3, 3)] := ⟨by kernel_rfl⟩
instance : FLD Tryd.prog 35 0 0 := ⟨fun w b o => by simp [Instr.fieldAt, Instr.sureAddr, fieldPlace, Addr.add]⟩
instance : FLD Tryd.prog 35 1 1 := ⟨fun w b o => by simp [Instr.fieldAt, Instr.sureAddr, fieldPlace, Addr.add]⟩
instance : FLD Tryd.prog 35 2 2 := ⟨fun w b o => by simp [Instr.fieldAt, Instr.sureAddr, fieldPlace, Addr.add]⟩
instance : FLD Tryd.prog 35 3 3 := ⟨fun w b o => by simp [Instr.fieldAt, Instr.sureAddr, fieldPlace, Addr.add]⟩
instance : TI Tryd.prog 35 4 48 true (.agg #[(.int .i64 0), (.int .i64 0), (.slice none 0 0), (.int .i64 0)]) := ⟨by kernel_rfl, by kernel_rfl, rfl⟩
instance : SF Tryd.prog 36 [(3, 0), (3, 1), (34, 2), (3, 3)] := ⟨by kernel_rfl⟩
instance : FLD Tryd.prog 36 0 0 := ⟨fun w b o => by simp [Instr.fieldAt, Instr.sureAddr, fieldPlace, Addr.add]⟩
instance : FLD Tryd.prog 36 1 1 := ⟨fun w b o => by simp [Instr.fieldAt, Instr.sureAddr, fieldPlace, Addr.add]⟩
instance : FLD Tryd.prog 36 2 2 := ⟨fun w b o => by simp [Instr.fieldAt, Instr.sureAddr, fieldPlace, Addr.add]⟩
instance : FLD Tryd.prog 36 3 3 := ⟨fun w b o => by simp [Instr.fieldAt, Instr.sureAddr, fieldPlace, Addr.add]⟩
instance : TI Tryd.prog 36 4 48 true (.agg #[(.int .i64 0), (.int .i64 0), (.slice none 0 0), (.int .i64 0)]) := ⟨by kernel_rfl, by kernel_rfl, rfl⟩
instance : TI Tryd.prog 37 1 0 false (.tuple #[(.agg #[(.int .i64 0), (.int .i64 0), (.slice none 0 0), (.int .i64 0)]), (.int .i64 0)]) := ⟨by kernel_rfl, by kernel_rfl, rfl⟩
instance : TI Tryd.prog 38 1 8 false .nilFunc := ⟨by kernel_rfl, by kernel_rfl, rfl⟩
instance : TI Tryd.prog 39 1 8 false .nilFunc := ⟨by kernel_rfl, by kernel_rfl, rfl⟩
instance : TI Tryd.prog 40 1 8 false .nilFunc := ⟨by kernel_rfl, by kernel_rfl, rfl⟩
instance : TI Tryd.prog 41 1 8 false .nilFunc := ⟨by kernel_rfl, by kernel_rfl, rfl⟩
instance : TI Tryd.prog 42 1 8 false .nilFunc := ⟨by kernel_rfl, by kernel_rfl, rfl⟩
instance : TI Tryd.prog 43 1 8 false .nilFunc := ⟨by kernel_rfl, by kernel_rfl, rfl⟩
instance : TI Tryd.prog 44 1 8 false .nilFunc := ⟨by kernel_rfl, by kernel_rfl, rfl⟩
instance : SL Tryd.prog 45 64 := ⟨by kernel_rfl⟩
instance : TI Tryd.prog 45 1 24 false (.slice none 0 0) := ⟨by kernel_rfl, by kernel_rfl, rfl⟩
instance : TI Tryd.prog 46 1 8 false .nilFunc := ⟨by kernel_rfl, by kernel_rfl, rfl⟩
instance : TI Tryd.prog 47 1 8 false .nilFunc := ⟨by kernel_rfl, by kernel_rfl, rfl⟩
instance : TI Tryd.prog 48 1 8 false .nilFunc := ⟨by kernel_rfl, by kernel_rfl, rfl⟩
instance : TI Tryd.prog 49 1 8 false (.pointer none) := ⟨by kernel_rfl, by kernel_rfl, rfl⟩
instance : SF Tryd.prog 50 [(26, 0), (3, 1), (4, 2)] := ⟨by kernel_rfl⟩
instance : FLD Tryd.prog 50 0 0 := ⟨fun w b o => by simp [Instr.fieldAt, Instr.sureAddr, fieldPlace, Addr.add]⟩
instance : FLD Tryd.prog 50 1 1 := ⟨fun w b o => by simp [Instr.fieldAt, Instr.sureAddr, fieldPlace, Addr.add]⟩
instance : FLD Tryd.prog 50 2 2 := ⟨fun w b o => by simp [Instr.fieldAt, Instr.sureAddr, fieldPlace, Addr.add]⟩
instance : TI Tryd.prog 50 3 40 true (.agg #[(.slice none 0 0), (.int .i64 0), (.bool false)]) := ⟨by kernel_rfl, by kernel_rfl, rfl⟩
instance : SF Tryd.prog 51 [(26, 0), (3, 1), (4, 2)] := ⟨by kernel_rfl⟩
instance : FLD Tryd.prog 51 0 0 := ⟨fun w b o => by simp [Instr.fieldAt, Instr.sureAddr, fieldPlace, Addr.add]⟩
instance : FLD Tryd.prog 51 1 1 := ⟨fun w b o => by simp [Instr.fieldAt, Instr.sureAddr, fieldPlace, Addr.add]⟩
instance : FLD Tryd.prog 51 2 2 := ⟨fun w b o => by simp [Instr.fieldAt, Instr.sureAddr, fieldPlace, Addr.add]⟩
instance : TI Tryd.prog 51 3 40 true (.agg #[(.slice none 0 0), (.int .i64 0), (.bool false)]) := ⟨by kernel_rfl, by kernel_rfl, rfl⟩
instance : TI Tryd.prog 52 1 8 false .nilFunc := ⟨by kernel_rfl, by kernel_rfl, rfl⟩
instance : TI Tryd.prog 53 1 8 false .nilFunc := ⟨by kernel_rfl, by kernel_rfl, rfl⟩
instance : TI Tryd.prog 54 1 8 false .nilFunc := ⟨by kernel_rfl, by kernel_rfl, rfl⟩
instance : TI Tryd.prog 55 1 8 false .nilFunc := ⟨by kernel_rfl, by kernel_rfl, rfl⟩
instance : SL Tryd.prog 56 66 := ⟨by kernel_rfl⟩
instance : TI Tryd.prog 56 1 24 false (.slice none 0 0) := ⟨by kernel_rfl, by kernel_rfl, rfl⟩
instance : SF Tryd.prog 57 [(3, 0), (3, 1), (56, 2)] := ⟨by kernel_rfl⟩
instance : FLD Tryd.prog 57 0 0 := ⟨fun w b o => by simp [Instr.fieldAt, Instr.sureAddr, fieldPlace, Addr.add]⟩
instance : FLD Tryd.prog 57 1 1 := ⟨fun w b o => by simp [Instr.fieldAt, Instr.sureAddr, fieldPlace, Addr.add]⟩
instance : FLD Tryd.prog 57 2 2 := ⟨fun w b o => by simp [Instr.fieldAt, Instr.sureAddr, fieldPlace, Addr.add]⟩
instance : TI Tryd.prog 57 3 40 true (.agg #[(.int .i64 0), (.int .i64 0), (.slice none 0 0)]) := ⟨by kernel_rfl, by kernel_rfl, rfl⟩
instance : SF Tryd.prog 58 [(3, 0), (3, 1), (56, 2)] := ⟨by kernel_rfl⟩
instance : FLD Tryd.prog 58 0 0 := ⟨fun w b o => by simp [Instr.fieldAt, Instr.sureAddr, fieldPlace, Addr.add]⟩
instance : FLD Tryd.prog 58 1 1 := ⟨fun w b o => by simp [Instr.fieldAt, Instr.sureAddr, fieldPlace, Addr.add]⟩
instance : FLD Tryd.prog 58 2 2 := ⟨fun w b o => by simp [Instr.fieldAt, Instr.sureAddr, fieldPlace, Addr.add]⟩
instance : TI Tryd.prog 58 3 40 true (.agg #[(.int .i64 0), (.int .i64 0), (.slice none 0 0)]) := ⟨by kernel_rfl, by kernel_rfl, rfl⟩
instance : SL Tryd.prog 59 129 := ⟨by kernel_rfl⟩
instance : TI Tryd.prog 59 1 24 false (.slice none 0 0) := ⟨by kernel_rfl, by kernel_rfl, rfl⟩
instance : SL Tryd.prog 60 131 := ⟨by kernel_rfl⟩
instance : TI Tryd.prog 60 1 24 false (.slice none 0 0) := ⟨by kernel_rfl, by kernel_rfl, rfl⟩
instance : SF Tryd.prog 61 [(9, 0), (59, 1), (60, 2)] := ⟨by kernel_rfl⟩
instance : FLD Tryd.prog 61 0 0 := ⟨fun w b o => by simp [Instr.fieldAt, Instr.sureAddr, fieldPlace, Addr.add]⟩
instance : FLD Tryd.prog 61 1 1 := ⟨fun w b o => by simp [Instr.fieldAt, Instr.sureAddr, fieldPlace, Addr.add]⟩
instance : FLD Tryd.prog 61 2 2 := ⟨fun w b o => by simp [Instr.fieldAt, Instr.sureAddr, fieldPlace, Addr.add]⟩
instance : TI Tryd.prog 61 3 64 true (.agg #[(.string { data := #[] }), (.slice none 0 0), (.slice none 0 0)]) := ⟨by kernel_rfl, by kernel_rfl, rfl⟩
instance : SF Tryd.prog 62 [(9, 0), (59, 1), (60, 2)] := ⟨by kernel_rfl⟩
instance : FLD Tryd.prog 62 0 0 := ⟨fun w b o => by simp [Instr.fieldAt, Instr.sureAddr, fieldPlace, Addr.add]⟩
instance : FLD Tryd.prog 62 1 1 := ⟨fun w b o => by simp [Instr.fieldAt, Instr.sureAddr, fieldPlace, Addr.add]⟩
instance : FLD Tryd.prog 62 2 2 := ⟨fun w b o => by simp [Instr.fieldAt, Instr.sureAddr, fieldPlace, Addr.add]⟩
instance : TI Tryd.prog 62 3 64 true (.agg #[(.string { data := #[] }), (.slice none 0 0), (.slice none 0 0)]) := ⟨by kernel_rfl, by kernel_rfl, rfl⟩
instance : SF Tryd.prog 63 [(3, 0), (3, 1), (9, 2)] := ⟨by kernel_rfl⟩
instance : FLD Tryd.prog 63 0 0 := ⟨fun w b o => by simp [Instr.fieldAt, Instr.sureAddr, fieldPlace, Addr.add]⟩
instance : FLD Tryd.prog 63 1 1 := ⟨fun w b o => by simp [Instr.fieldAt, Instr.sureAddr, fieldPlace, Addr.add]⟩
instance : FLD Tryd.prog 63 2 2 := ⟨fun w b o => by simp [Instr.fieldAt, Instr.sureAddr, fieldPlace, Addr.add]⟩
instance : TI Tryd.prog 63 3 32 true (.agg #[(.int .i64 0), (.int .i64 0), (.string { data := #[] })]) := ⟨by kernel_rfl, by kernel_rfl, rfl⟩
instance : SF Tryd.prog 64 [(3, 0), (3, 1), (9, 2)] := ⟨by kernel_rfl⟩
instance : FLD Tryd.prog 64 0 0 := ⟨fun w b o => by simp [Instr.fieldAt, Instr.sureAddr, fieldPlace, Addr.add]⟩
instance : FLD Tryd.prog 64 1 1 := ⟨fun w b o => by simp [Instr.fieldAt, Instr.sureAddr, fieldPlace, Addr.add]⟩
instance : FLD Tryd.prog 64 2 2 := ⟨fun w b o => by simp [Instr.fieldAt, Instr.sureAddr, fieldPlace, Addr.add]⟩
instance : TI Tryd.prog 64 3 32 true (.agg #[(.int .i64 0), (.int .i64 0), (.string { data := #[] })]) := ⟨by kernel_rfl, by kernel_rfl, rfl⟩
instance : SF Tryd.prog 65 [(3, 0), (9, 1), (62, 2), (45, 5), (64, 6), (3, 9), (64, 10), (64, 13), (3, 16)] := ⟨by kernel_rfl⟩
instance : FLD Tryd.prog 65 0 0 := ⟨fun w b o => by simp [Instr.fieldAt, Instr.sureAddr, fieldPlace, Addr.add]⟩
instance : FLD Tryd.prog 65 1 1 := ⟨fun w b o => by simp [Instr.fieldAt, Instr.sureAddr, fieldPlace, Addr.add]⟩
instance : FLD Tryd.prog 65 2 2 := ⟨fun w b o => by simp [Instr.fieldAt, Instr.sureAddr, fieldPlace, Addr.add]⟩
instance : FLD Tryd.prog 65 3 5 := ⟨fun w b o => by simp [Instr.fieldAt, Instr.sureAddr, fieldPlace, Addr.add]⟩
instance : FLD Tryd.prog 65 4 6 := ⟨fun w b o => by simp [Instr.fieldAt, Instr.sureAddr, fieldPlace, Addr.add]⟩
instance : FLD Tryd.prog 65 5 9 := ⟨fun w b o => by simp [Instr.fieldAt, Instr.sureAddr, fieldPlace, Addr.add]⟩
instance : FLD Tryd.prog 65 6 10 := ⟨fun w b o => by simp [Instr.fieldAt, Instr.sureAddr, fieldPlace, Addr.add]⟩
instance : FLD Tryd.prog 65 7 13 := ⟨fun w b o => by simp [Instr.fieldAt, Instr.sureAddr, fieldPlace, Addr.add]⟩
instance : FLD Tryd.prog 65 8 16 := ⟨fun w b o => by simp [Instr.fieldAt, Instr.sureAddr, fieldPlace, Addr.add]⟩
instance : TI Tryd.prog 65 17 224 true (.agg #[(.int .i64 0), (.string { data := #[] }), (.string { data := #[] }), (.slice none 0 0), (.slice none 0 0), (.slice none 0 0), (.int .i64 0), (.int .i64 0), (.string { data := #[] }), (.int .i64 0), (.int .i64 0), (.int .i64 0), (.string { data := #[] }), (.int .i64 0), (.int .i64 0), (.string { data := #[] }), (.int .i64 0)]) := ⟨by kernel_rfl, by kernel_rfl, rfl⟩
instance : SF Tryd.prog 66 [(3, 0), (9, 1), (62, 2), (45, 5), (64, 6), (3, 9), (64, 10), (64, 13), (3, 16)] := ⟨by kernel_rfl⟩
instance : FLD Tryd.prog 66 0 0 := ⟨fun w b o => by simp [Instr.fieldAt, Instr.sureAddr, fieldPlace, Addr.add]⟩
instance : FLD Tryd.prog 66 1 1 := ⟨fun w b o => by simp [Instr.fieldAt, Instr.sureAddr, fieldPlace, Addr.add]⟩
instance : FLD Tryd.prog 66 2 2 := ⟨fun w b o => by simp [Instr.fieldAt, Instr.sureAddr, fieldPlace, Addr.add]⟩
instance : FLD Tryd.prog 66 3 5 := ⟨fun w b o => by simp [Instr.fieldAt, Instr.sureAddr, fieldPlace, Addr.add]⟩
instance : FLD Tryd.prog 66 4 6 := ⟨fun w b o => by simp [Instr.fieldAt, Instr.sureAddr, fieldPlace, Addr.add]⟩
instance : FLD Tryd.prog 66 5 9 := ⟨fun w b o => by simp [Instr.fieldAt, Instr.sureAddr, fieldPlace, Addr.add]⟩
instance : FLD Tryd.prog 66 6 10 := ⟨fun w b o => by simp [Instr.fieldAt, Instr.sureAddr, fieldPlace, Addr.add]⟩
instance : FLD Tryd.prog 66 7 13 := ⟨fun w b o => by simp [Instr.fieldAt, Instr.sureAddr, fieldPlace, Addr.add]⟩
instance : FLD Tryd.prog 66 8 16 := ⟨fun w b o => by simp [Instr.fieldAt, Instr.sureAddr, fieldPlace, Addr.add]⟩
instance : TI Tryd.prog 66 17 224 true (.agg #[(.int .i64 0), (.string { data := #[] }), (.string { data := #[] }), (.slice none 0 0), (.slice none 0 0), (.slice none 0 0), (.int .i64 0), (.int .i64 0), (.string { data := #[] }), (.int .i64 0), (.int .i64 0), (.int .i64 0), (.string { data := #[] }), (.int .i64 0), (.int .i64 0), (.string { data := #[] }), (.int .i64 0)]) := ⟨by kernel_rfl, by kernel_rfl, rfl⟩
instance : TI Tryd.prog 67 1 8 false .nilFunc := ⟨by kernel_rfl, by kernel_rfl, rfl⟩
instance : TI Tryd.prog 68 1 8 false .nilFunc := ⟨by kernel_rfl, by kernel_rfl, rfl⟩
instance : TI Tryd.prog 69 1 0 false (.tuple #[(.int .i64 0), (.int .i64 0), (.bool false)]) := ⟨by kernel_rfl, by kernel_rfl, rfl⟩
instance : TI Tryd.prog 70 1 8 false .nilFunc := ⟨by kernel_rfl, by kernel_rfl, rfl⟩
instance : TI Tryd.prog 71 1 8 false .nilFunc := ⟨by kernel_rfl, by kernel_rfl, rfl⟩
instance : TI Tryd.prog 72 1 8 false .nilFunc := ⟨by kernel_rfl, by kernel_rfl, rfl⟩
instance : TI Tryd.prog 73 1 8 false .nilFunc := ⟨by kernel_rfl, by kernel_rfl, rfl⟩
instance : TI Tryd.prog 74 1 8 false .nilFunc := ⟨by kernel_rfl, by kernel_rfl, rfl⟩
instance : TI Tryd.prog 75 1 8 false .nilFunc := ⟨by kernel_rfl, by kernel_rfl, rfl⟩
instance : TI Tryd.prog 76 1 8 false .nilFunc := ⟨by kernel_rfl, by kernel_rfl, rfl⟩
instance : TI Tryd.prog 77 1 8 false .nilFunc := ⟨by kernel_rfl, by kernel_rfl, rfl⟩
instance : TI Tryd.prog 78 1 8 false .nilFunc := ⟨by kernel_rfl, by kernel_rfl, rfl⟩
instance : TI Tryd.prog 79 1 8 false .nilFunc := ⟨by kernel_rfl, by kernel_rfl, rfl⟩
instance : TI Tryd.prog 80 1 8 false .nilFunc := ⟨by kernel_rfl, by kernel_rfl, rfl⟩
instance : INT Tryd.prog 81 .u64 := ⟨by kernel_rfl⟩
instance : TI Tryd.prog 81 1 8 false (.int .u64 0) := ⟨by kernel_rfl, by kernel_rfl, rfl⟩
instance : TI Tryd.prog 82 1 8 false .nilFunc := ⟨by kernel_rfl, by kernel_rfl, rfl⟩
instance : TI Tryd.prog 83 1 8 false .nilFunc := ⟨by kernel_rfl, by kernel_rfl, rfl⟩
instance : TI Tryd.prog 84 1 8 false .nilFunc := ⟨by kernel_rfl, by kernel_rfl, rfl⟩
instance : TI Tryd.prog 85 1 0 false (.tuple #[(.int .i64 0), (.int .i64 0), (.int .i64 0)]) := ⟨by kernel_rfl, by kernel_rfl, rfl⟩
instance : TI Tryd.prog 86 1 8 false .nilFunc := ⟨by kernel_rfl, by kernel_rfl, rfl⟩
instance : TI Tryd.prog 87 1 0 false (.tuple #[(.slice none 0 0), (.int .i64 0)]) := ⟨by kernel_rfl, by kernel_rfl, rfl⟩
instance : TI Tryd.prog 88 1 8 false .nilFunc := ⟨by kernel_rfl, by kernel_rfl, rfl⟩
instance : TI Tryd.prog 89 1 8 false .nilFunc := ⟨by kernel_rfl, by kernel_rfl, rfl⟩
instance : TI Tryd.prog 90 1 8 false .nilFunc := ⟨by kernel_rfl, by kernel_rfl, rfl⟩
instance : TI Tryd.prog 91 1 0 false (.tuple #[(.agg #[(.string { data := #[] }), (.slice none 0 0), (.slice none 0 0)]), (.int .i64 0)]) := ⟨by kernel_rfl, by kernel_rfl, rfl⟩
instance : TI Tryd.prog 92 1 8 false .nilFunc := ⟨by kernel_rfl, by kernel_rfl, rfl⟩
instance : TI Tryd.prog 93 1 8 false .nilFunc := ⟨by kernel_rfl, by kernel_rfl, rfl⟩
instance : TI Tryd.prog 94 1 8 false .nilFunc := ⟨by kernel_rfl, by kernel_rfl, rfl⟩
instance : SF Tryd.prog 95 [(66, 0)] := ⟨by kernel_rfl⟩
instance : FLD Tryd.prog 95 0 0 := ⟨fun w b o => by simp [Instr.fieldAt, Instr.sureAddr, fieldPlace, Addr.add]⟩
instance : TI Tryd.prog 95 17 224 true (.agg #[(.int .i64 0), (.string { data := #[] }), (.string { data := #[] }), (.slice none 0 0), (.slice none 0 0), (.slice none 0 0), (.int .i64 0), (.int .i64 0), (.string { data := #[] }), (.int .i64 0), (.int .i64 0), (.int .i64 0), (.string { data := #[] }), (.int .i64 0), (.int .i64 0), (.string { data := #[] }), (.int .i64 0)]) := ⟨by kernel_rfl, by kernel_rfl, rfl⟩
instance : SF Tryd.prog 96 [(66, 0)] := ⟨by kernel_rfl⟩
instance : FLD Tryd.prog 96 0 0 := ⟨fun w b o => by simp [Instr.fieldAt, Instr.sureAddr, fieldPlace, Addr.add]⟩
instance : TI Tryd.prog 96 17 224 true (.agg #[(.int .i64 0), (.string { data := #[] }), (.string { data := #[] }), (.slice none 0 0), (.slice none 0 0), (.slice none 0 0), (.int .i64 0), (.int .i64 0), (.string { data := #[] }), (.int .i64 0), (.int .i64 0), (.int .i64 0), (.string { data := #[] }), (.int .i64 0), (.int .i64 0), (.string { data := #[] }), (.int .i64 0)]) := ⟨by kernel_rfl, by kernel_rfl, rfl⟩
instance : TI Tryd.prog 97 1 0 false (.tuple #[(.agg #[(.int .i64 0), (.string { data := #[] }), (.string { data := #[] }), (.slice none 0 0), (.slice none 0 0), (.slice none 0 0), (.int .i64 0), (.int .i64 0), (.string { data := #[] }), (.int .i64 0), (.int .i64 0), (.int .i64 0), (.string { data := #[] }), (.int .i64 0), (.int .i64 0), (.string { data := #[] }), (.int .i64 0)]), (.bool false)]) := ⟨by kernel_rfl, by kernel_rfl, rfl⟩
instance : TI Tryd.prog 98 1 8 false .nilFunc := ⟨by kernel_rfl, by kernel_rfl, rfl⟩
instance : SF Tryd.prog 99 [(66, 0)] := ⟨by kernel_rfl⟩
instance : FLD Tryd.prog 99 0 0 := ⟨fun w b o => by simp [Instr.fieldAt, Instr.sureAddr, fieldPlace, Addr.add]⟩
instance : TI Tryd.prog 99 17 224 true (.agg #[(.int .i64 0), (.string { data := #[] }), (.string { data := #[] }), (.slice none 0 0), (.slice none 0 0), (.slice none 0 0), (.int .i64 0), (.int .i64 0), (.string { data := #[] }), (.int .i64 0), (.int .i64 0), (.int .i64 0), (.string { data := #[] }), (.int .i64 0), (.int .i64 0), (.string { data := #[] }), (.int .i64 0)]) := ⟨by kernel_rfl, by kernel_rfl, rfl⟩
instance : TI Tryd.prog 100 1 0 false (.tuple #[(.agg #[(.int .i64 0), (.string { data := #[] }), (.string { data := #[] }), (.slice none 0 0), (.slice none 0 0), (.slice none 0 0), (.int .i64 0), (.int .i64 0), (.string { data := #[] }), (.int .i64 0), (.int .i64 0), (.int .i64 0), (.string { data := #[] }), (.int .i64 0), (.int .i64 0), (.string { data := #[] }), (.int .i64 0)]), (.bool false)]) := ⟨by kernel_rfl, by kernel_rfl, rfl⟩
instance : SF Tryd.prog 101 [(66, 0)] := ⟨by kernel_rfl⟩
instance : FLD Tryd.prog 101 0 0 := ⟨fun w b o => by simp [Instr.fieldAt, Instr.sureAddr, fieldPlace, Addr.add]⟩
instance : TI Tryd.prog 101 17 224 true (.agg #[(.int .i64 0), (.string { data := #[] }), (.string { data := #[] }), (.slice none 0 0), (.slice none 0 0), (.slice none 0 0), (.int .i64 0), (.int .i64 0), (.string { data := #[] }), (.int .i64 0), (.int .i64 0), (.int .i64 0), (.string { data := #[] }), (.int .i64 0), (.int .i64 0), (.string { data := #[] }), (.int .i64 0)]) := ⟨by kernel_rfl, by kernel_rfl, rfl⟩
instance : TI Tryd.prog 102 1 0 false (.tuple #[(.agg #[(.int .i64 0), (.string { data := #[] }), (.string { data := #[] }), (.slice none 0 0), (.slice none 0 0), (.slice none 0 0), (.int .i64 0), (.int .i64 0), (.string { data := #[] }), (.int .i64 0), (.int .i64 0), (.int .i64 0), (.string { data := #[] }), (.int .i64 0), (.int .i64 0), (.string { data := #[] }), (.int .i64 0)]), (.bool false)]) := ⟨by kernel_rfl, by kernel_rfl, rfl⟩
instance : TI Tryd.prog 103 1 8 false .nilFunc := ⟨by kernel_rfl, by kernel_rfl, rfl⟩
instance : SF Tryd.prog 104 [(66, 0)] := ⟨by kernel_rfl⟩
instance : FLD Tryd.prog 104 0 0 := ⟨fun w b o => by simp [Instr.fieldAt, Instr.sureAddr, fieldPlace, Addr.add]⟩
instance : TI Tryd.prog 104 17 224 true (.agg #[(.int .i64 0), (.string { data := #[] }), (.string { data := #[] }), (.slice none 0 0), (.slice none 0 0), (.slice none 0 0), (.int .i64 0), (.int .i64 0), (.string { data := #[] }), (.int .i64 0), (.int .i64 0), (.int .i64 0), (.string { data := #[] }), (.int .i64 0), (.int .i64 0), (.string { data := #[] }), (.int .i64 0)]) := ⟨by kernel_rfl, by kernel_rfl, rfl⟩
instance : TI Tryd.prog 105 1 8 false .nilFunc := ⟨by kernel_rfl, by kernel_rfl, rfl⟩
instance : TI Tryd.prog 106 1 8 false .nilFunc := ⟨by kernel_rfl, by kernel_rfl, rfl⟩
instance : TI Tryd.prog 107 1 8 false .nilFunc := ⟨by kernel_rfl, by kernel_rfl, rfl⟩
instance : TI Tryd.prog 108 1 8 false .nilFunc := ⟨by kernel_rfl, by kernel_rfl, rfl⟩
instance : TI Tryd.prog 109 1 8 false .nilFunc := ⟨by kernel_rfl, by kernel_rfl, rfl⟩
instance : TI Tryd.prog 110 1 8 false .nilFunc := ⟨by kernel_rfl, by kernel_rfl, rfl⟩
instance : SF Tryd.prog 111 [] := ⟨by kernel_rfl⟩
instance : TI Tryd.prog 111 0 0 true (.agg #[]) := ⟨by kernel_rfl, by kernel_rfl, rfl⟩
instance : SF Tryd.prog 112 [] := ⟨by kernel_rfl⟩
instance : TI Tryd.prog 112 0 0 true (.agg #[]) := ⟨by kernel_rfl, by kernel_rfl, rfl⟩
instance : TI Tryd.prog 113 1 0 false (.tuple #[(.agg #[]), (.bool false)]) := ⟨by kernel_rfl, by kernel_rfl, rfl⟩
instance : TI Tryd.prog 114 1 0 false (.tuple #[(.bool false), (.bool false)]) := ⟨by kernel_rfl, by kernel_rfl, rfl⟩
instance : TI Tryd.prog 115 1 0 false (.tuple #[(.int .i64 0), (.bool false)]) := ⟨by kernel_rfl, by kernel_rfl, rfl⟩
instance : TI Tryd.prog 116 1 8 false .nilFunc := ⟨by kernel_rfl, by kernel_rfl, rfl⟩
instance : INT Tryd.prog 117 .u64 := ⟨by kernel_rfl⟩
instance : TI Tryd.prog 117 1 8 false (.int .u64 0) := ⟨by kernel_rfl, by kernel_rfl, rfl⟩
instance : TI Tryd.prog 118 1 0 false (.tuple #[(.string { data := #[] }), (.bool false)]) := ⟨by kernel_rfl, by kernel_rfl, rfl⟩
instance : TI Tryd.prog 119 1 8 false .nilFunc := ⟨by kernel_rfl, by kernel_rfl, rfl⟩
instance : TI Tryd.prog 120 1 8 false .nilFunc := ⟨by kernel_rfl, by kernel_rfl, rfl⟩
instance : TI Tryd.prog 121 1 0 false (.tuple #[(.slice none 0 0), (.int .i64 0), (.int .i64 0)]) := ⟨by kernel_rfl, by kernel_rfl, rfl⟩
instance : TI Tryd.prog 122 1 8 false .nilFunc := ⟨by kernel_rfl, by kernel_rfl, rfl⟩
instance : TI Tryd.prog 123 1 8 false (.pointer none) := ⟨by kernel_rfl, by kernel_rfl, rfl⟩
instance : SF Tryd.prog 124 [(26, 0), (3, 1), (4, 2)] := ⟨by kernel_rfl⟩
instance : FLD Tryd.prog 124 0 0 := ⟨fun w b o => by simp [Instr.fieldAt, Instr.sureAddr, fieldPlace, Addr.add]⟩
instance : FLD Tryd.prog 124 1 1 := ⟨fun w b o => by simp [Instr.fieldAt, Instr.sureAddr, fieldPlace, Addr.add]⟩
instance : FLD Tryd.prog 124 2 2 := ⟨fun w b o => by simp [Instr.fieldAt, Instr.sureAddr, fieldPlace, Addr.add]⟩
instance : TI Tryd.prog 124 3 40 true (.agg #[(.slice none 0 0), (.int .i64 0), (.bool false)]) := ⟨by kernel_rfl, by kernel_rfl, rfl⟩
instance : SF Tryd.prog 125 [(26, 0), (3, 1), (4, 2)] := ⟨by kernel_rfl⟩
instance : FLD Tryd.prog 125 0 0 := ⟨fun w b o => by simp [Instr.fieldAt, Instr.sureAddr, fieldPlace, Addr.add]⟩
instance : FLD Tryd.prog 125 1 1 := ⟨fun w b o => by simp [Instr.fieldAt, Instr.sureAddr, fieldPlace, Addr.add]⟩
instance : FLD Tryd.prog 125 2 2 := ⟨fun w b o => by simp [Instr.fieldAt, Instr.sureAddr, fieldPlace, Addr.add]⟩
instance : TI Tryd.prog 125 3 40 true (.agg #[(.slice none 0 0), (.int .i64 0), (.bool false)]) := ⟨by kernel_rfl, by kernel_rfl, rfl⟩
instance : TI Tryd.prog 126 1 8 false .nilFunc := ⟨by kernel_rfl, by kernel_rfl, rfl⟩
instance : TI Tryd.prog 127 1 8 false .nilFunc := ⟨by kernel_rfl, by kernel_rfl, rfl⟩
instance : SF Tryd.prog 128 [(9, 0), (3, 1), (3, 2)] := ⟨by kernel_rfl⟩
instance : FLD Tryd.prog 128 0 0 := ⟨fun w b o => by simp [Instr.fieldAt, Instr.sureAddr, fieldPlace, Addr.add]⟩
instance : FLD Tryd.prog 128 1 1 := ⟨fun w b o => by simp [Instr.fieldAt, Instr.sureAddr, fieldPlace, Addr.add]⟩
instance : FLD Tryd.prog 128 2 2 := ⟨fun w b o => by simp [Instr.fieldAt, Instr.sureAddr, fieldPlace, Addr.add]⟩
instance : TI Tryd.prog 128 3 32 true (.agg #[(.string { data := #[] }), (.int .i64 0), (.int .i64 0)]) := ⟨by kernel_rfl, by kernel_rfl, rfl⟩
instance : SF Tryd.prog 129 [(9, 0), (3, 1), (3, 2)] := ⟨by kernel_rfl⟩
instance : FLD Tryd.prog 129 0 0 := ⟨fun w b o => by simp [Instr.fieldAt, Instr.sureAddr, fieldPlace, Addr.add]⟩
instance : FLD Tryd.prog 129 1 1 := ⟨fun w b o => by simp [Instr.fieldAt, Instr.sureAddr, fieldPlace, Addr.add]⟩
instance : FLD Tryd.prog 129 2 2 := ⟨fun w b o => by simp [Instr.fieldAt, Instr.sureAddr, fieldPlace, Addr.add]⟩
instance : TI Tryd.prog 129 3 32 true (.agg #[(.string { data := #[] }), (.int .i64 0), (.int .i64 0)]) := ⟨by kernel_rfl, by kernel_rfl, rfl⟩
instance : SF Tryd.prog 130 [(3, 0), (4, 1)] := ⟨by kernel_rfl⟩
instance : FLD Tryd.prog 130 0 0 := ⟨fun w b o => by simp [Instr.fieldAt, Instr.sureAddr, fieldPlace, Addr.add]⟩
instance : FLD Tryd.prog 130 1 1 := ⟨fun w b o => by simp [Instr.fieldAt, Instr.sureAddr, fieldPlace, Addr.add]⟩
instance : TI Tryd.prog 130 2 16 true (.agg #[(.int .i64 0), (.bool false)]) := ⟨by kernel_rfl, by kernel_rfl, rfl⟩
instance : SF Tryd.prog 131 [(3, 0), (4, 1)] := ⟨by kernel_rfl⟩
instance : FLD Tryd.prog 131 0 0 := ⟨fun w b o => by simp [Instr.fieldAt, Instr.sureAddr, fieldPlace, Addr.add]⟩
instance : FLD Tryd.prog 131 1 1 := ⟨fun w b o => by simp [Instr.fieldAt, Instr.sureAddr, fieldPlace, Addr.add]⟩
instance : TI Tryd.prog 131 2 16 true (.agg #[(.int .i64 0), (.bool false)]) := ⟨by kernel_rfl, by kernel_rfl, rfl⟩
instance : TI Tryd.prog 132 1 8 false .nilFunc := ⟨by kernel_rfl, by kernel_rfl, rfl⟩
instance : TI Tryd.prog 133 1 8 false .nilFunc := ⟨by kernel_rfl, by kernel_rfl, rfl⟩
instance : TI Tryd.prog 134 1 8 false .nilFunc := ⟨by kernel_rfl, by kernel_rfl, rfl⟩
instance : TI Tryd.prog 135 1 8 false .nilFunc := ⟨by kernel_rfl, by kernel_rfl, rfl⟩
instance : TI Tryd.prog 136 1 8 false .nilFunc := ⟨by kernel_rfl, by kernel_rfl, rfl⟩
instance : TI Tryd.prog 137 1 8 false .nilFunc := ⟨by kernel_rfl, by kernel_rfl, rfl⟩
instance : ARR Tryd.prog 138 256 5 := ⟨by kernel_rfl⟩
instance : TI Tryd.prog 138 256 256 true (.agg (List.replicate 256 (.int .u8 0)).toArray) := ⟨by kernel_rfl, by kernel_rfl, by kernel_rfl⟩
instance : SF Tryd.prog 139 [(5, 0), (5, 1)] := ⟨by kernel_rfl⟩
instance : FLD Tryd.prog 139 0 0 := ⟨fun w b o => by simp [Instr.fieldAt, Instr.sureAddr, fieldPlace, Addr.add]⟩
instance : FLD Tryd.prog 139 1 1 := ⟨fun w b o => by simp [Instr.fieldAt, Instr.sureAddr, fieldPlace, Addr.add]⟩
instance : TI Tryd.prog 139 2 2 true (.agg #[(.int .u8 0), (.int .u8 0)]) := ⟨by kernel_rfl, by kernel_rfl, rfl⟩
instance : SF Tryd.prog 140 [(5, 0), (5, 1)] := ⟨by kernel_rfl⟩
instance : FLD Tryd.prog 140 0 0 := ⟨fun w b o => by simp [Instr.fieldAt, Instr.sureAddr, fieldPlace, Addr.add]⟩
instance : FLD Tryd.prog 140 1 1 := ⟨fun w b o => by simp [Instr.fieldAt, Instr.sureAddr, fieldPlace, Addr.add]⟩
instance : TI Tryd.prog 140 2 2 true (.agg #[(.int .u8 0), (.int .u8 0)]) := ⟨by kernel_rfl, by kernel_rfl, rfl⟩
instance : ARR Tryd.prog 141 16 140 := ⟨by kernel_rfl⟩
instance : TI Tryd.prog 141 32 32 true (.agg (List.replicate 32 (.int .u8 0)).toArray) := ⟨by kernel_rfl, by kernel_rfl, by kernel_rfl⟩
instance : SL Tryd.prog 142 21 := ⟨by kernel_rfl⟩
instance : TI Tryd.prog 142 1 24 false (.slice none 0 0) := ⟨by kernel_rfl, by kernel_rfl, rfl⟩
instance : TI Tryd.prog 143 1 0 false (.tuple #[(.slice none 0 0), (.bool false)]) := ⟨by kernel_rfl, by kernel_rfl, rfl⟩
instance : TI Tryd.prog 144 1 8 false .nilFunc := ⟨by kernel_rfl, by kernel_rfl, rfl⟩
instance : TI Tryd.prog 145 1 0 false (.tuple #[(.agg #[(.int .i64 0), (.int .i64 0), (.string { data := #[] })]), (.int .i64 0)]) := ⟨by kernel_rfl, by kernel_rfl, rfl⟩
instance : TI Tryd.prog 146 1 8 false .nilFunc := ⟨by kernel_rfl, by kernel_rfl, rfl⟩
instance : TI Tryd.prog 147 1 8 false .nilFunc := ⟨by kernel_rfl, by kernel_rfl, rfl⟩
instance : TI Tryd.prog 148 1 8 false .nilFunc := ⟨by kernel_rfl, by kernel_rfl, rfl⟩
instance : TI Tryd.prog 149 1 8 false .nilFunc := ⟨by kernel_rfl, by kernel_rfl, rfl⟩
instance : TI Tryd.prog 150 1 8 false .nilFunc := ⟨by kernel_rfl, by kernel_rfl, rfl⟩
instance : TI Tryd.prog 151 1 8 false .nilFunc := ⟨by kernel_rfl, by kernel_rfl, rfl⟩
instance : TI Tryd.prog 152 1 0 false (.tuple #[(.agg #[(.int .i64 0), (.string { data := #[] }), (.string { data := #[] }), (.slice none 0 0), (.slice none 0 0), (.slice none 0 0), (.int .i64 0), (.int .i64 0), (.string { data := #[] }), (.int .i64 0), (.int .i64 0), (.int .i64 0), (.string { data := #[] }), (.int .i64 0), (.int .i64 0), (.string { data := #[] }), (.int .i64 0)]), (.bool false)]) := ⟨by kernel_rfl, by kernel_rfl, rfl⟩
instance : TI Tryd.prog 153 1 8 false .nilFunc := ⟨by kernel_rfl, by kernel_rfl, rfl⟩
instance : TI Tryd.prog 154 1 8 false .nilFunc := ⟨by kernel_rfl, by kernel_rfl, rfl⟩
instance : TI Tryd.prog 155 1 8 false .nilFunc := ⟨by kernel_rfl, by kernel_rfl, rfl⟩
instance : TI Tryd.prog 156 1 8 false .nilFunc := ⟨by kernel_rfl, by kernel_rfl, rfl⟩
instance : TI Tryd.prog 157 1 8 false .nilFunc := ⟨by kernel_rfl, by kernel_rfl, rfl⟩
instance : TI Tryd.prog 158 1 8 false .nilFunc := ⟨by kernel_rfl, by kernel_rfl, rfl⟩
instance : SF Tryd.prog 159 [(17, 0), (17, 1), (17, 2), (9, 3)] := ⟨by kernel_rfl⟩
instance : FLD Tryd.prog 159 0 0 := ⟨fun w b o => by simp [Instr.fieldAt, Instr.sureAddr, fieldPlace, Addr.add]⟩
instance : FLD Tryd.prog 159 1 1 := ⟨fun w b o => by simp [Instr.fieldAt, Instr.sureAddr, fieldPlace, Addr.add]⟩
instance : FLD Tryd.prog 159 2 2 := ⟨fun w b o => by simp [Instr.fieldAt, Instr.sureAddr, fieldPlace, Addr.add]⟩
instance : FLD Tryd.prog 159 3 3 := ⟨fun w b o => by simp [Instr.fieldAt, Instr.sureAddr, fieldPlace, Addr.add]⟩
instance : TI Tryd.prog 159 4 40 true (.agg #[(.pointer none), (.pointer none), (.pointer none), (.string { data := #[] })]) := ⟨by kernel_rfl, by kernel_rfl, rfl⟩
instance : SF Tryd.prog 160 [(17, 0), (17, 1), (17, 2), (9, 3)] := ⟨by kernel_rfl⟩
instance : FLD Tryd.prog 160 0 0 := ⟨fun w b o => by simp [Instr.fieldAt, Instr.sureAddr, fieldPlace, Addr.add]⟩
instance : FLD Tryd.prog 160 1 1 := ⟨fun w b o => by simp [Instr.fieldAt, Instr.sureAddr, fieldPlace, Addr.add]⟩
instance : FLD Tryd.prog 160 2 2 := ⟨fun w b o => by simp [Instr.fieldAt, Instr.sureAddr, fieldPlace, Addr.add]⟩
instance : FLD Tryd.prog 160 3 3 := ⟨fun w b o => by simp [Instr.fieldAt, Instr.sureAddr, fieldPlace, Addr.add]⟩
instance : TI Tryd.prog 160 4 40 true (.agg #[(.pointer none), (.pointer none), (.pointer none), (.string { data := #[] })]) := ⟨by kernel_rfl, by kernel_rfl, rfl⟩
instance : ARR Tryd.prog 161 0 16 := ⟨by kernel_rfl⟩
instance : TI Tryd.prog 161 0 0 true (.agg #[]) := ⟨by kernel_rfl, by kernel_rfl, rfl⟩
instance : SF Tryd.prog 162 [(161, 0)] := ⟨by kernel_rfl⟩
instance : TI Tryd.prog 162 0 0 true (.agg #[]) := ⟨by kernel_rfl, by kernel_rfl, rfl⟩
instance : SF Tryd.prog 163 [(161, 0)] := ⟨by kernel_rfl⟩
instance : TI Tryd.prog 163 0 0 true (.agg #[]) := ⟨by kernel_rfl, by kernel_rfl, rfl⟩
instance : INT Tryd.prog 164 .u32 := ⟨by kernel_rfl⟩
instance : TI Tryd.prog 164 1 4 false (.int .u32 0) := ⟨by kernel_rfl, by kernel_rfl, rfl⟩
instance : INT Tryd.prog 165 .u8 := ⟨by kernel_rfl⟩
instance : TI Tryd.prog 165 1 1 false (.int .u8 0) := ⟨by kernel_rfl, by kernel_rfl, rfl⟩
instance : INT Tryd.prog 166 .u8 := ⟨by kernel_rfl⟩
instance : TI Tryd.prog 166 1 1 false (.int .u8 0) := ⟨by kernel_rfl, by kernel_rfl, rfl⟩
instance : TI Tryd.prog 167 1 8 false .nilFunc := ⟨by kernel_rfl, by kernel_rfl, rfl⟩
instance : TI Tryd.prog 168 1 8 false (.pointer none) := ⟨by kernel_rfl, by kernel_rfl, rfl⟩
instance : INT Tryd.prog 169 .i32 := ⟨by kernel_rfl⟩
instance : TI Tryd.prog 169 1 4 false (.int .i32 0) := ⟨by kernel_rfl, by kernel_rfl, rfl⟩
instance : INT Tryd.prog 170 .i32 := ⟨by kernel_rfl⟩
instance : TI Tryd.prog 170 1 4 false (.int .i32 0) := ⟨by kernel_rfl, by kernel_rfl, rfl⟩
instance : SF Tryd.prog 171 [(12, 0), (12, 1), (164, 2), (165, 3), (5, 4), (5, 5), (166, 6), (167, 7), (168, 8), (169, 9), (170, 10)] := ⟨by kernel_rfl⟩
instance : FLD Tryd.prog 171 0 0 := ⟨fun w b o => by simp [Instr.fieldAt, Instr.sureAddr, fieldPlace, Addr.add]⟩
instance : FLD Tryd.prog 171 1 1 := ⟨fun w b o => by simp [Instr.fieldAt, Instr.sureAddr, fieldPlace, Addr.add]⟩
instance : FLD Tryd.prog 171 2 2 := ⟨fun w b o => by simp [Instr.fieldAt, Instr.sureAddr, fieldPlace, Addr.add]⟩
instance : FLD Tryd.prog 171 3 3 := ⟨fun w b o => by simp [Instr.fieldAt, Instr.sureAddr, fieldPlace, Addr.add]⟩
instance : FLD Tryd.prog 171 4 4 := ⟨fun w b o => by simp [Instr.fieldAt, Instr.sureAddr, fieldPlace, Addr.add]⟩
instance : FLD Tryd.prog 171 5 5 := ⟨fun w b o => by simp [Instr.fieldAt, Instr.sureAddr, fieldPlace, Addr.add]⟩
instance : FLD Tryd.prog 171 6 6 := ⟨fun w b o => by simp [Instr.fieldAt, Instr.sureAddr, fieldPlace, Addr.add]⟩
instance : FLD Tryd.prog 171 7 7 := ⟨fun w b o => by simp [Instr.fieldAt, Instr.sureAddr, fieldPlace, Addr.add]⟩
instance : FLD Tryd.prog 171 8 8 := ⟨fun w b o => by simp [Instr.fieldAt, Instr.sureAddr, fieldPlace, Addr.add]⟩
instance : FLD Tryd.prog 171 9 9 := ⟨fun w b o => by simp [Instr.fieldAt, Instr.sureAddr, fieldPlace, Addr.add]⟩
instance : FLD Tryd.prog 171 10 10 := ⟨fun w b o => by simp [Instr.fieldAt, Instr.sureAddr, fieldPlace, Addr.add]⟩
instance : TI Tryd.prog 171 11 48 true (.agg #[(.int .u64 0), (.int .u64 0), (.int .u32 0), (.int .u8 0), (.int .u8 0), (.int .u8 0), (.int .u8 0), .nilFunc, (.pointer none), (.int .i32 0), (.int .i32 0)]) := ⟨by kernel_rfl, by kernel_rfl, rfl⟩
instance : SF Tryd.prog 172 [(12, 0), (12, 1), (164, 2), (165, 3), (5, 4), (5, 5), (166, 6), (167, 7), (168, 8), (169, 9), (170, 10)] := ⟨by kernel_rfl⟩
instance : FLD Tryd.prog 172 0 0 := ⟨fun w b o => by simp [Instr.fieldAt, Instr.sureAddr, fieldPlace, Addr.add]⟩
instance : FLD Tryd.prog 172 1 1 := ⟨fun w b o => by simp [Instr.fieldAt, Instr.sureAddr, fieldPlace, Addr.add]⟩
instance : FLD Tryd.prog 172 2 2 := ⟨fun w b o => by simp [Instr.fieldAt, Instr.sureAddr, fieldPlace, Addr.add]⟩
instance : FLD Tryd.prog 172 3 3 := ⟨fun w b o => by simp [Instr.fieldAt, Instr.sureAddr, fieldPlace, Addr.add]⟩
instance : FLD Tryd.prog 172 4 4 := ⟨fun w b o => by simp [Instr.fieldAt, Instr.sureAddr, fieldPlace, Addr.add]⟩
instance : FLD Tryd.prog 172 5 5 := ⟨fun w b o => by simp [Instr.fieldAt, Instr.sureAddr, fieldPlace, Addr.add]⟩
instance : FLD Tryd.prog 172 6 6 := ⟨fun w b o => by simp [Instr.fieldAt, Instr.sureAddr, fieldPlace, Addr.add]⟩
instance : FLD Tryd.prog 172 7 7 := ⟨fun w b o => by simp [Instr.fieldAt, Instr.sureAddr, fieldPlace, Addr.add]⟩
instance : FLD Tryd.prog 172 8 8 := ⟨fun w b o => by simp [Instr.fieldAt, Instr.sureAddr, fieldPlace, Addr.add]⟩
instance : FLD Tryd.prog 172 9 9 := ⟨fun w b o => by simp [Instr.fieldAt, Instr.sureAddr, fieldPlace, Addr.add]⟩
instance : FLD Tryd.prog 172 10 10 := ⟨fun w b o => by simp [Instr.fieldAt, Instr.sureAddr, fieldPlace, Addr.add]⟩
instance : TI Tryd.prog 172 11 48 true (.agg #[(.int .u64 0), (.int .u64 0), (.int .u32 0), (.int .u8 0), (.int .u8 0), (.int .u8 0), (.int .u8 0), .nilFunc, (.pointer none), (.int .i32 0), (.int .i32 0)]) := ⟨by kernel_rfl, by kernel_rfl, rfl⟩
instance : TI Tryd.prog 173 1 8 false (.pointer none) := ⟨by kernel_rfl, by kernel_rfl, rfl⟩
end Go.Proofs.YtpogdeibkghhaaaDoor
