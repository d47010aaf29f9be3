/- told in plain terms. -/
import Derived.Test.YtfdogeebkbaadaaDkL
set_option linter.unusedVariables false
set_option linter.unusedSimpArgs false
namespace Go.Proofs.Ytfdogeebkbaadaa
open Go Go.RowKit
theorem Fulls.nil : Fulls [] := ⟨fun _ h => (List.not_mem_nil h).elim, by simp⟩
theorem Fulls.add {c : KM} (h : Fulls c) (hn : c.length < 1000000) (q : Int) (b : List UInt8) : Fulls (c ++ [(q, whole b)]) := by
  refine ⟨fun w hw => ?_, by simp; omega⟩
  rcases List.mem_append.1 hw with g | g
  · exact h.1 w g
  · rw [List.mem_singleton.1 g]; exact whole_len b
theorem rd_nil (m : KM) (q : Int) : rd m [] q = blk m q := rfl
theorem rd_len (m c : KM) (q : Int) : (rd m c q).length = 8192 := by unfold rd; split <;> exact whole_len _
theorem blk_full (m : KM) (w : Int × List UInt8) (hw : w.2.length = 8192) (q : Int) : blk (over m w 8192) q = if q = w.1 then w.2 else blk m q := by
  rw [blk_over m w 8192 (by omega) hw, List.take_of_length_le (by omega), List.drop_of_length_le (by rw [show (blk m w.1).length = 8192 from whole_len _]; omega), List.append_nil]
theorem blk_nil (q : Int) : blk [] q = whole [] := rfl
theorem whole_get (b : List UInt8) (i : Nat) (hi : i < b.length) (hb : b.length ≤ 8192) : (whole b).getD i default = b.getD i default := by
  unfold whole; rw [List.take_of_length_le hb]
  simp [List.getD, List.getElem?_append_left hi]
theorem Restart_is (b lf af kp tn ct : Int) (dn : Bool) (m c : KM) : disk_Disk_Restart.impl (b, dn, lf, af, kp, tn, ct) m c = some (b, false, lf, af, kp, tn, ct) := rfl
theorem Life_is (o : Rt) (m c : KM) : disk_Disk_Life.impl o m c = some o.2.2.1 := rfl
theorem Open_is (o : Rt) (m c : KM) : disk_Disk_Open.impl o m c = some (c.length : Int) := rfl
theorem f0 : fateV (0, 2, -1, 0) 0 = 0 := by unfold fateV; decide
theorem f1 : fateV (0, 2, -1, 0) 1 = 2 := by unfold fateV; decide
theorem told_k3 : law3_told.k3 ((2, false, 0, 0, 0, 0, 0), [], []) false = some true := by
  have h1 : Fulls [(0, whole [1])] := Fulls.nil.add (by simp) 0 [1]
  have h2 : Fulls [(0, whole [2]), (1, whole [3])] := (Fulls.nil.add (by simp) 0 [2]).add (by simp) 1 [3]
  unfold law3_told.k3
  simp only [Bool.false_eq_true, if_false]
  rw [Write_is (by simp) (by omega) (by simp)]
  simp only [Option.bind_some, List.nil_append]
  rw [Flush_is h1]
  simp only [Option.bind_some]
  rw [Write_is (by simp) (by omega) (by simp)]
  simp only [Option.bind_some, List.nil_append]
  rw [Write_is (by simp) (by omega) (by simp)]
  simp only [Option.bind_some, List.cons_append, List.nil_append]
  rw [Cut_is h2]
  simp only [Option.bind_some, Read_down, Restart_is]
  rw [Read_is _ (by simp) (by omega), Read_is _ (by simp) (by omega)]
  simp only [Option.bind_some, Life_is, Open_is, rd_len, rd_nil]
  have b0 : blk (cutM (0, 2, -1, 0) 0 (flushM [] [(0, whole [1])]) [(0, whole [2]), (1, whole [3])]) 0 = whole [1] := by
    simp only [cutM, cut1, f0, f1, flushM, List.foldl, Nat.zero_add]
    rw [if_pos trivial, if_neg (by decide), if_neg (by decide), blk_full _ _ (whole_len _), if_neg (by decide), blk_full _ _ (whole_len _), if_pos rfl]
  have b1 : blk (cutM (0, 2, -1, 0) 0 (flushM [] [(0, whole [1])]) [(0, whole [2]), (1, whole [3])]) 1 = whole [3] := by
    simp only [cutM, cut1, f0, f1, flushM, List.foldl, Nat.zero_add]
    rw [if_pos trivial, if_neg (by decide), if_neg (by decide), blk_full _ _ (whole_len _), if_pos rfl]
  rw [b0, b1]
  have e1 : (whole [1]).getD 0 default = 1 := by rw [whole_get _ _ (by simp) (by simp)]; rfl
  have e3 : (whole [3]).getD 0 default = 3 := by rw [whole_get _ _ (by simp) (by simp)]; rfl
  have w1 := whole_len [1]
  have w3 := whole_len [3]
  simp only [Int.toNat_zero, e1, e3, w1, w3]
  rw [chk_true (by omega), chk_true (by omega)]
  decide
theorem told_is : law3_told.impl = some true := by
  unfold law3_told.impl
  rw [New_is (by omega), New_no]
  simp only [Option.bind_some, decide_true, if_true, Bool.not_true]
  exact told_k3
end Go.Proofs.Ytfdogeebkbaadaa
