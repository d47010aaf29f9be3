/- told in plain terms. -/
import Derived.Test.YtccifnjlfhdpiaaDkL
set_option linter.unusedVariables false
set_option linter.unusedSimpArgs false
namespace Go.Proofs.Ytccifnjlfhdpiaa
open Go Go.RowKit
theorem Fulls.nil : Fulls [] := ⟨fun _ h => (List.not_mem_nil h).elim, by simp⟩
theorem Fulls.add {c : KM} (h : Fulls c) (hn : c.length < 1000000) (q : Int) (b : List UInt8) : Fulls (c ++ [(q, whole b)]) := by
  refine ⟨fun w hw => ?_, by simp; omega⟩
  rcases List.mem_append.1 hw with g | g
  · exact h.1 w g
  · rw [List.mem_singleton.1 g]; exact whole_len b
theorem rd_nil (m : KM) (q : Int) : rd m [] q = blk m q := rfl
theorem rd_len (m c : KM) (q : Int) : (rd m c q).length = 8192 := by unfold rd; split <;> exact whole_len _
theorem blk_full (m : KM) (w : Int × List UInt8) (hw : w.2.length = 8192) (q : Int) : blk (over m w 8192) q = if q = w.1 then w.2 else blk m q := by
  rw [blk_over m w 8192 (by omega) hw, List.take_of_length_le (by omega), List.drop_of_length_le (by rw [show (blk m w.1).length = 8192 from whole_len _]; omega), List.append_nil]
theorem blk_nil (q : Int) : blk [] q = whole [] := rfl
theorem whole_get (b : List UInt8) (i : Nat) (hi : i < b.length) (hb : b.length ≤ 8192) : (whole b).getD i default = b.getD i default := by
  unfold whole; rw [List.take_of_length_le hb]
  simp [List.getD, List.getElem?_append_left hi]
theorem Restart_is (b lf af kp tn ct : Int) (dn : Bool) (m c : KM) : disk_Disk_Restart.impl (b, dn, lf, af, kp, tn, ct) m c = some (b, false, lf, af, kp, tn, ct) := rfl
theorem Life_is (o : Rt) (m c : KM) : disk_Disk_Life.impl o m c = some o.2.2.1 := rfl
end Go.Proofs.Ytccifnjlfhdpiaa
