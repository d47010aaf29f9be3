/- The empty draft in plain terms. -/
import Derived.Test.YtdojooblfemmnaaDoorDraft
import Derived.Test.YtdojooblfemmnaaDoorNums
set_option linter.unusedVariables false
set_option linter.unusedSimpArgs false
namespace Go.Proofs.YtdojooblfemmnaaDoor
open Go Go.RowKit
@[simp] theorem chk_true {α : Type} {p : Prop} [Decidable p] (h : p) (x : Option α) : chk p x = x := by simp [chk, h]
abbrev Dsk := Int × Bool × Int × Int × Int × Int × Int
abbrev dsk0 : Dsk := (1000, false, 0, 0, 0, 0, 0)
abbrev pag0 : Int × Int × Int × Int := (998, 0, 0, 0)
abbrev tre0 : Int × Int × Int × Int := (0, 0, 0, 0)
abbrev loc0 : Int × Int × Int × Int × Int × Int × Int × Int × Int × Int × Int × Int × Int × Int × Int × Int × Int := (0, 0, 0, 0, 0, 0, 0, 0, 0, 0, 0, 0, 0, 0, 0, 0, 0)
theorem Z8_ex : ∃ z : List UInt8, z = List.replicate 8192 0 := ⟨_, rfl⟩
noncomputable def Z8 : List UInt8 := Classical.choose Z8_ex
theorem Z8_eq : Z8 = List.replicate 8192 0 := Classical.choose_spec Z8_ex
theorem Z8_len : Z8.length = 8192 := by rw [Z8_eq, List.length_replicate]
theorem Read_0 (q : Int) (hq : 0 ≤ q ∧ q < 1000) : disk_Disk_Read.impl dsk0 [] [] q = some (Z8, 0) := by
  unfold disk_Disk_Read.impl
  simp only [Bool.false_eq_true, if_false]
  rw [ite_df (by omega)]
  unfold disk_Disk_Read.k1
  rw [ite_df (by omega)]
  rw [loop_last (r := .inr ()) (by unfold disk_Disk_Read.st1; rw [ite_df (by simp [i64_id])])]
  simp only [Option.bind_some]
  unfold disk_Disk_Read.k2 disk_Disk_good.impl disk_whole.impl
  rw [chk_true (by decide), show (8192 : Int).toNat = 8192 from rfl]
  simp only [mget, Option.getD_none, List.length_nil, Nat.zero_min, List.take_nil, List.nil_append, List.drop_zero, Option.bind_some, Z8_eq]
theorem zero_0 : page_zero.impl Z8 = some true := by
  unfold page_zero.impl bytes_Equal.impl
  rw [chk_true (by rw [Z8_len]; decide)]
  simp only [Z8_len, Int.toNat_natCast, Option.bind_some]
  rw [decide_eq_true Z8_eq]
theorem head_0 : page_readHead.impl Z8 1000 = some ((0, 0), true) := by
  unfold page_readHead.impl
  rw [zero_0]; rfl
theorem pst_0 (a : Int × Int × Int × Int) (h : a.2.2.2 = 0 ∧ (a = (0, 0, -1, 0))) : page_Open.st1 dsk0 [] [] a = some (.inl (0, 0, 0, 1)) := by
  obtain ⟨_, rfl⟩ := h
  unfold page_Open.st1
  have h := Read_0 0 (by omega)
  simp only [dsk0] at h ⊢
  rw [ite_dt (by decide), h]
  simp only [Option.bind_some, disk_Disk_Blocks.impl, decide_true, Bool.not_true, Bool.false_eq_true, if_false]
  rw [head_0]
  simp only [Option.bind_some, if_true]
  rw [ite_dt (by decide)]
  unfold page_Open.k3
  simp only [if_true]
  rw [i64_id (by decide)]; rfl
theorem pst_1 : page_Open.st1 dsk0 [] [] (0, 0, 0, 1) = some (.inl (0, 0, 0, 2)) := by
  unfold page_Open.st1
  have h := Read_0 1 (by omega)
  simp only [dsk0] at h ⊢
  rw [ite_dt (by decide), h]
  simp only [Option.bind_some, disk_Disk_Blocks.impl, decide_true, Bool.not_true, Bool.false_eq_true, if_false]
  rw [head_0]
  simp only [Option.bind_some, if_true]
  rw [ite_df (by decide)]
  unfold page_Open.k3
  simp only [Int.lt_irrefl, decide_false, Bool.false_eq_true, if_false]
  rw [i64_id (by decide)]; rfl
theorem Open_0 : page_Open.impl dsk0 [] [] = some (some (pag0, []), 0) := by
  unfold page_Open.impl
  simp only [disk_Disk_Blocks.impl, disk_Disk_Down.impl, disk_Disk_Life.impl, Option.bind_some]
  rw [ite_df (by decide)]
  simp only [Bool.false_eq_true, if_false]
  rw [loop_more (pst_0 _ ⟨rfl, rfl⟩), loop_more pst_1, loop_last (r := .inr (0, 0, 0)) (by unfold page_Open.st1; rw [ite_df (by decide)])]
  rfl
theorem Dead_0 : tree_Tree_Dead.impl tre0 pag0 [] dsk0 [] [] [] [] = some false := by
  unfold tree_Tree_Dead.impl page_Store_Dead.impl
  simp only [disk_Disk_Down.impl, disk_Disk_Life.impl, Option.bind_some]
  rfl
theorem TOpen_0 : tree_Open.impl dsk0 [] [] = some (some (tre0, pag0, [], [], []), 0) := by
  unfold tree_Open.impl
  rw [Open_0]
  simp only [Option.bind_some, page_Store_Root.impl]
  rfl
theorem Range_0 : tree_Tree_Range_nil1_nil2.impl tre0 pag0 [] dsk0 [] [] [] [] 1073741824 = some ([], 0) := by
  unfold tree_Tree_Range_nil1_nil2.impl tree_Tree_rng_nil1_nil2_nil3.impl
  have := Dead_0
  simp only [tre0, pag0, dsk0] at this ⊢
  rw [this]
  simp only [Option.bind_some, Bool.false_eq_true, if_false]
  rw [ite_df (by decide)]
  simp [tree_Tree_through_nil1_nil2_nil3_nil5.impl, tree_caught.impl, tree_Tree_rng_1.impl]
theorem LOpen_0 : local_Open.impl dsk0 [] [] = some (some (loc0, tre0, pag0, [], [], []), 0) := by
  unfold local_Open.impl
  rw [TOpen_0]
  simp only [Option.bind_some]
  have := Range_0
  simp only [tre0, pag0, dsk0] at this ⊢
  rw [this]
  simp only [Option.bind_some]
  rw [loop_last (r := .inr (0, true)) (by unfold local_Open.st1; simp)]
  rfl
theorem New_0 : law13_New.impl = some (some ((), loc0, tre0, pag0, [], dsk0, [], [], [], [], []), ()) := by
  unfold law13_New.impl
  have e1 : disk_New.impl 1000 = some (some (dsk0, [], []), 0) := by
    unfold disk_New.impl
    rw [ite_df (by decide)]
    unfold disk_New.k1
    rw [ite_df (by decide)]
  have e2 := LOpen_0
  rw [e1]
  simp only [Option.bind_some, dsk0] at e2 ⊢
  rw [e2]
  simp only [Option.bind_some]
  simp only [decide_true, if_true]
  unfold law13_New.k2
  have e3 := Dead_0
  simp only [Bool.false_eq_true, if_false, draft_New.impl, tre0, pag0, dsk0] at e3 ⊢
  rw [e3]
  rfl
theorem SGet_0 (sp : Int) (k : List UInt8) (hs : 0 ≤ sp ∧ sp < 16) (hk : 0 < k.length ∧ k.length ≤ 60) : local_Store_Get.impl loc0 tre0 pag0 [] dsk0 [] [] [] [] sp k = some ((), false, 0) := by
  unfold local_Store_Get.impl
  have e3 := Dead_0
  simp only [tre0, pag0, dsk0] at e3 ⊢
  rw [e3]
  simp only [Option.bind_some, Bool.false_eq_true, if_false]
  unfold local_right_nil2.impl local_right_nil2.k1 local_right_nil2.k2
  rw [ite_df (by omega), ite_df (by omega), ite_df (by omega)]
  simp only [Bool.false_eq_true, if_false]
  rw [ite_df (by omega)]
  simp only [Option.bind_some, decide_true, Bool.not_true, Bool.false_eq_true, if_false]
  unfold local_in.impl
  have hl : ([u8 (IntKind.u8.wrap sp)] ++ k).length = k.length + 1 := by simp
  rw [chk_true (by simp only [List.length_singleton]; omega)]
  simp only [Option.bind_some]
  generalize hK : [u8 (IntKind.u8.wrap sp)] ++ k = K at *
  unfold tree_Tree_Get.impl tree_Tree_may_nil2.impl tree_Tree_may_nil2.k1 tree_Tree_get_nil1.impl
  simp only [e3, Option.bind_some, Bool.false_eq_true, if_false]
  rw [ite_df (by omega), ite_df (by omega)]
  simp only [Option.bind_some, decide_true, Bool.not_true, Bool.false_eq_true, if_false]
  rw [loop_last (r := ()) rfl]
  rfl
end Go.Proofs.YtdojooblfemmnaaDoor
