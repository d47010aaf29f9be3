/- Layer 3: the program's disk loses what the document says. -/
import Derived.Test.YtfdogeebkbaadaaDisk3
set_option linter.unusedVariables false
set_option linter.unusedSimpArgs false
namespace Go.Proofs.Ytfdogeebkbaadaa
open Go.RowKit
set_option maxHeartbeats 4000000
theorem layK_full {kept : List (Int × List UInt8)} {q : Int} {lb : List UInt8} (h : lb.length = blk) : layK kept q lb blk = mset kept q lb := by
  unfold layK
  rw [List.take_of_length_le (by omega), List.drop_eq_nil_of_le (by rw [goodK_length]; exact Nat.le_refl _), List.append_nil]
theorem pad_pad (l : List UInt8) : pad (pad l) = pad l := pad_self (pad_length l)
theorem pad_get0 (x : UInt8) : (pad [x])[0]? = some x := by unfold pad; rfl
theorem Rd8.own {h : PH} {b : Nat} {T : TypeId} {l : List UInt8} (hh : Cl b T (l.map b8) h) : Rd E8 h (some ⟨b, 0, none⟩) l := by
  unfold Cl at hh
  subst hh
  exact rd_block (PH.one_self _ _)
section
variable {B : World} {own0 : PH} {l : List HP} {w : World}
theorem told_c (hS : St B own0 l w) : Calls Try.prog 16 #[] w fun e w => e = .returned (.bool true) ∧ St B own0 l w := by
  go_enter Try.func16, Try.ntmps16
  go_wp2_with fail
  refine (new_c hS (by decide) (by decide)).mono ?_
  clear hS
  rintro e w ⟨p, rfl, hS⟩
  go_wp2_with fail
  refine (new_no hS (by decide)).mono ?_
  clear hS
  rintro e w ⟨rfl, hS⟩
  go_wp2_with (first | (show wpList _ _ _ ({ dst := _, op := Op.buildSlice _ _ _, type := _, pos := _, after := _, guard := _ } :: _) _ _; (refine st_buildSlice hS rfl rfl rfl rfl _ (by go_simp; first | done | exact rfl) ?_); clear hS; intro b1 w hS; (try simp only [List.nil_append, List.cons_append, List.set_cons_zero, List.set_cons_succ, List.append_assoc, Value.cells, splice, List.take_succ_cons, List.take_zero, List.drop_succ_cons, List.drop_zero, List.length_cons, List.length_nil, Nat.zero_add, Nat.reduceAdd, Act.eval, Array.getD_eq_getD_getElem?, List.getElem?_toArray, List.getElem?_cons_succ, List.getElem?_cons_zero, Option.getD_some, List.toList_toArray] at hS)))
  have e1 : writeOf (newDk 2) 0 [1] = (0, ⟨2, [], [(0, pad [1])], false, 0, Loss.none⟩) := rfl
  obtain ⟨o1, hS1, back, ro, oth⟩ := St.call (pre := [_]) (hS.front 1 rfl)
  obtain ⟨h, hh, hle⟩ := oth 0 _ rfl
  refine (write_c (lb := [1]) (by decide) (by decide) hS1 ((Rd8.own hh).up hle) (by decide)).mono ?_
  rw [e1]
  rintro e w ⟨rfl, hS2⟩
  replace hS := back _ _ hS2
  simp only [List.cons_append, List.nil_append, List.eraseIdx_cons_succ, List.eraseIdx_cons_zero] at hS
  replace hS := hS.erase 1 rfl
  simp only [List.eraseIdx_cons_succ, List.eraseIdx_cons_zero] at hS
  clear back oth ro hS1 hS2 hh hle e1
  go_wp2_with fail
  have e2 : flushOf ⟨2, [], [(0, pad [1])], false, 0, Loss.none⟩ = (0, ⟨2, [(0, pad [1])], [], false, 0, Loss.none⟩) := by simp [flushOf, strikesOf, Loss.none, layK_full, pad_length, mset]
  refine (flush_c (by decide) (by decide) hS).mono ?_
  rw [e2]
  clear hS e2
  rintro e w ⟨rfl, hS⟩
  go_wp2_with (first | (show wpList _ _ _ ({ dst := _, op := Op.buildSlice _ _ _, type := _, pos := _, after := _, guard := _ } :: _) _ _; (refine st_buildSlice hS rfl rfl rfl rfl _ (by go_simp; first | done | exact rfl) ?_); clear hS; intro b1 w hS; (try simp only [List.nil_append, List.cons_append, List.set_cons_zero, List.set_cons_succ, List.append_assoc, Value.cells, splice, List.take_succ_cons, List.take_zero, List.drop_succ_cons, List.drop_zero, List.length_cons, List.length_nil, Nat.zero_add, Nat.reduceAdd, Act.eval, Array.getD_eq_getD_getElem?, List.getElem?_toArray, List.getElem?_cons_succ, List.getElem?_cons_zero, Option.getD_some, List.toList_toArray] at hS)))
  have e3 : writeOf ⟨2, [(0, pad [1])], [], false, 0, Loss.none⟩ 0 [2] = (0, ⟨2, [(0, pad [1])], [(0, pad [2])], false, 0, Loss.none⟩) := rfl
  obtain ⟨o1, hS1, back, ro, oth⟩ := St.call (pre := [_]) (hS.front 1 rfl)
  obtain ⟨h, hh, hle⟩ := oth 0 _ rfl
  refine (write_c (lb := [2]) (by decide) (by decide) hS1 ((Rd8.own hh).up hle) (by decide)).mono ?_
  rw [e3]
  rintro e w ⟨rfl, hS2⟩
  replace hS := back _ _ hS2
  simp only [List.cons_append, List.nil_append, List.eraseIdx_cons_succ, List.eraseIdx_cons_zero] at hS
  replace hS := hS.erase 1 rfl
  simp only [List.eraseIdx_cons_succ, List.eraseIdx_cons_zero] at hS
  clear back oth ro hS1 hS2 hh hle e3
  go_wp2_with (first | (show wpList _ _ _ ({ dst := _, op := Op.buildSlice _ _ _, type := _, pos := _, after := _, guard := _ } :: _) _ _; (refine st_buildSlice hS rfl rfl rfl rfl _ (by go_simp; first | done | exact rfl) ?_); clear hS; intro b1 w hS; (try simp only [List.nil_append, List.cons_append, List.set_cons_zero, List.set_cons_succ, List.append_assoc, Value.cells, splice, List.take_succ_cons, List.take_zero, List.drop_succ_cons, List.drop_zero, List.length_cons, List.length_nil, Nat.zero_add, Nat.reduceAdd, Act.eval, Array.getD_eq_getD_getElem?, List.getElem?_toArray, List.getElem?_cons_succ, List.getElem?_cons_zero, Option.getD_some, List.toList_toArray] at hS)))
  have e4 : writeOf ⟨2, [(0, pad [1])], [(0, pad [2])], false, 0, Loss.none⟩ 1 [3] = (0, ⟨2, [(0, pad [1])], [(0, pad [2]), (1, pad [3])], false, 0, Loss.none⟩) := rfl
  obtain ⟨o1, hS1, back, ro, oth⟩ := St.call (pre := [_]) (hS.front 1 rfl)
  obtain ⟨h, hh, hle⟩ := oth 0 _ rfl
  refine (write_c (lb := [3]) (by decide) (by decide) hS1 ((Rd8.own hh).up hle) (by decide)).mono ?_
  rw [e4]
  rintro e w ⟨rfl, hS2⟩
  replace hS := back _ _ hS2
  simp only [List.cons_append, List.nil_append, List.eraseIdx_cons_succ, List.eraseIdx_cons_zero] at hS
  replace hS := hS.erase 1 rfl
  simp only [List.eraseIdx_cons_succ, List.eraseIdx_cons_zero] at hS
  clear back oth ro hS1 hS2 hh hle e4
  go_wp2_with fail
  have e5 : cutOf ⟨2, [(0, pad [1])], [(0, pad [2]), (1, pad [3])], false, 0, Loss.none⟩ ⟨0, 2, -1, 0⟩ = ⟨2, [(0, pad [1]), (1, pad [3])], [], true, 1, Loss.none⟩ := by
    have f0 : fateOf ⟨0, 2, -1, 0⟩ 0 = 0 := by decide
    have f1 : fateOf ⟨0, 2, -1, 0⟩ 1 = 2 := by decide
    simp [cutOf, cutFold, cutStep, f0, f1, layK_full, pad_length, mset, RowKit.wrap64]
  refine (cut_c (L := ⟨0, 2, -1, 0⟩) (by decide) hS).mono ?_
  rw [e5]
  clear hS e5
  rintro e w ⟨rfl, hS⟩
  go_wp2_with fail
  have e6 : readRes ⟨2, [(0, pad [1]), (1, pad [3])], [], true, 1, Loss.none⟩ 0 = 20 := rfl
  refine (read_no hS (by rw [e6]; decide)).mono ?_
  rw [e6]
  clear hS e6
  rintro e w ⟨rfl, hS⟩
  go_wp2_with fail
  refine (restart_c hS).mono ?_
  clear hS
  rintro e w ⟨rfl, hS⟩
  go_wp2_with fail
  refine (read_c (by decide) hS (by rfl)).mono ?_
  clear hS
  rintro e w ⟨b1, rfl, hS⟩
  rw [show readOf ⟨2, [(0, pad [1]), (1, pad [3])], [], false, 1, Loss.none⟩ 0 = pad [1] from pad_pad _] at hS
  go_wp2_with fail
  refine (read_c (by decide) (hS.front 1 rfl) (by rfl)).mono ?_
  clear hS
  rintro e w ⟨b2, rfl, hS⟩
  rw [show readOf ⟨2, [(0, pad [1]), (1, pad [3])], [], false, 1, Loss.none⟩ 1 = pad [3] from pad_pad _] at hS
  simp only [List.eraseIdx_cons_succ, List.eraseIdx_cons_zero] at hS
  have g1 : ((pad [1]).map b8)[0]? = some (.int .u8 1) := by rw [List.getElem?_map, pad_get0]; rfl
  have g3 : ((pad [3]).map b8)[0]? = some (.int .u8 3) := by rw [List.getElem?_map, pad_get0]; rfl
  have H1 := Lib.hid g1
  have H3 := Lib.hid g3
  clear g1 g3
  have hb : (0 : Int) < (blk : Int) := by decide
  have hb1 : ((blk : Nat) == 8192) = true := by decide
  have hb2 : (((blk : Nat) : Int) == 8192) = true := by decide
  go_wp2_with (first
    | (refine st_index rfl rfl rfl rfl (by omega) (by omega) rfl ?_)
    | (refine st_load hS 2 rfl rfl rfl rfl H1.out ?_)
    | (refine st_load hS 0 rfl rfl rfl rfl H3.out ?_)
    | (go_at_call 21; refine (life_c (hS.front 1 rfl)).mono ?_; clear hS; rintro e w ⟨rfl, hS⟩; simp only [List.eraseIdx_cons_succ, List.eraseIdx_cons_zero] at hS)
    | (go_at_call 17; refine (open_c hS).mono ?_; clear hS; rintro e w ⟨rfl, hS⟩))
  go_ret
  exact ⟨rfl, hS.tail.tail.tail⟩
end
end Go.Proofs.Ytfdogeebkbaadaa
