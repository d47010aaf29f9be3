/- EntryReplies in plain terms. -/
import Derived.Test.YtpogdeibkghhaaaDoorLawR
import Derived.Test.YtpogdeibkghhaaaDoorReplyL
set_option linter.unusedVariables false
set_option linter.unusedSimpArgs false
namespace Go.Proofs.YtpogdeibkghhaaaDoor
open Go Go.RowKit Go.Lib
theorem uint7 : uint 7 = [7] := by
  show hi (7 / 128) ++ [UInt8.ofNat (7 % 128)] = [7]
  rw [show 7 / 128 = 0 from rfl, hi_zero]; rfl
theorem right_view : entry_Right.impl (2, 2, [], 7) = some true := by
  simp [entry_Right.impl, entry_bounds.impl, entry_bounds.k1, entry_Right.k1]
theorem enc_view : entry_Encode.impl (2, 2, [], 7) = some ([2, 2, 7], 0) := by
  unfold entry_Encode.impl
  have hU := Uint_is (n := 7) (by omega)
  rw [uint7] at hU
  rw [right_view]
  simp only [Option.bind_some, Bool.not_true, Bool.false_eq_true, if_false]
  rw [show ((7 : Int)) = ((7 : Nat) : Int) from rfl, hU]
  simp only [Option.bind_some]
  rw [chk_pos (by simp)]
  unfold entry_Encode.k1
  rw [loop_last (r := [2, 2, 7]) (by unfold entry_Encode.st1; rw [ite_df (by simp)]; rfl)]
  rfl
theorem enc_zero : entry_Encode.impl (0, 0, [], 0) = some ([], 1) := by
  unfold entry_Encode.impl
  have : entry_Right.impl (0, 0, [], 0) = some false := by
    simp [entry_Right.impl, entry_bounds.impl, entry_bounds.k1, entry_Right.k1]
  rw [this]; simp
theorem dec_view : entry_Decode.impl [2, 2, 7] = some ((2, 2, [], 7), 0) := by
  have b1 := rd_byte (pre := []) (b := 2) (suf := [2, 7]) (by simp)
  have b2 := rd_byte (pre := [2]) (b := 2) (suf := [7]) (by simp)
  have u3 := rd_uint (pre := [2, 2]) (n := 7) (suf := []) (by omega) (by simp [uint7])
  rw [uint7] at u3
  have b1 : entry_reader_byte.impl ([2, 2, 7], 0, false) = some (2, ([2, 2, 7], 1, false)) := b1
  have b2 : entry_reader_byte.impl ([2, 2, 7], 1, false) = some (2, ([2, 2, 7], 2, false)) := b2
  have u3 : entry_reader_uint.impl ([2, 2, 7], 2, false) = some (7, ([2, 2, 7], 3, false)) := u3
  unfold entry_Decode.impl
  rw [b1]
  simp only [Option.bind_some]
  rw [b2]
  simp only [Option.bind_some]
  rw [u3]
  simp only [Option.bind_some]
  rw [loop_last (r := (3, false, [])) (by unfold entry_Decode.st1; rw [if_neg (by simp), ite_df (by simp)]; unfold entry_Decode.k3; simp)]
  simp only [Option.bind_some]
  unfold entry_Decode.k1
  simp only [Bool.false_eq_true, if_false]
  rw [enc_view]
  simp [bytes_Equal.impl, entry_Decode.k2]
theorem dec_more : ∃ x, entry_Decode.impl [2, 2, 7, 0] = some (x, 11) ∧ x.2.2.1 = [] := by
  have b1 := rd_byte (pre := []) (b := 2) (suf := [2, 7, 0]) (by simp)
  have b2 := rd_byte (pre := [2]) (b := 2) (suf := [7, 0]) (by simp)
  have u3 := rd_uint (pre := [2, 2]) (n := 7) (suf := [0]) (by omega) (by simp [uint7])
  have b4 := rd_byte (pre := [2, 2, 7]) (b := 0) (suf := []) (by simp)
  rw [uint7] at u3
  have b1 : entry_reader_byte.impl ([2, 2, 7, 0], 0, false) = some (2, ([2, 2, 7, 0], 1, false)) := b1
  have b2 : entry_reader_byte.impl ([2, 2, 7, 0], 1, false) = some (2, ([2, 2, 7, 0], 2, false)) := b2
  have u3 : entry_reader_uint.impl ([2, 2, 7, 0], 2, false) = some (7, ([2, 2, 7, 0], 3, false)) := u3
  have b4 : entry_reader_byte.impl ([2, 2, 7, 0], 3, false) = some (0, ([2, 2, 7, 0], 4, false)) := b4
  have u5 : entry_reader_uint.impl ([2, 2, 7, 0], 4, false) = some (0, ([2, 2, 7, 0], 4, true)) := by
    have := ReadUint_in (l := [2, 2, 7, 0]) (at_ := 4) (by simp) (by simp)
    have e : wire_ReadUint.impl [2, 2, 7, 0] 4 = some (0, 0, 10) := this
    unfold entry_reader_uint.impl
    simp only []
    rw [e]
    simp [entry_reader_uint.k1]
  have b6 : entry_reader_byte.impl ([2, 2, 7, 0], 4, true) = some (0, ([2, 2, 7, 0], 4, true)) := by
    unfold entry_reader_byte.impl entry_reader_byte.k1
    simp
  unfold entry_Decode.impl
  rw [b1]
  simp only [Option.bind_some]
  rw [b2]
  simp only [Option.bind_some]
  rw [u3]
  simp only [Option.bind_some]
  have st : entry_Decode.st1 [2, 2, 7, 0] (3, false, []) = some (.inl (4, true, [(0, 0, [])])) := by
    unfold entry_Decode.st1
    rw [if_neg (by simp), ite_dt (by simp)]
    unfold entry_Decode.k3
    simp only [List.length_nil]
    rw [if_pos (by simp), b4]
    simp only [Option.bind_some]
    rw [u5]
    simp only [Option.bind_some]
    rw [b6]
    simp only [Option.bind_some]
    rw [loop_last (r := (4, true)) (by unfold entry_Decode.st2; rw [ite_df (by simp)]; unfold entry_Decode.k5; simp)]
    simp only [Option.bind_some]
    unfold entry_Decode.k4
    rw [chk_pos (by simp)]
    simp
  rw [loop_more st, loop_last (r := (4, true, [(0, 0, [])])) (by unfold entry_Decode.st1; rw [if_pos rfl]; unfold entry_Decode.k3; simp)]
  simp only [Option.bind_some]
  have hr : entry_Encode.impl (2, 2, [(0, 0, [])], 7) = some ([], 1) := by
    unfold entry_Encode.impl
    have : entry_Right.impl (2, 2, [(0, 0, [])], 7) = some false := by
      simp [entry_Right.impl, entry_bounds.impl, entry_bounds.k1, entry_Right.k1]
    rw [this]; simp
  unfold entry_Decode.k1
  simp only [if_true]
  rw [hr]
  exact ⟨_, rfl, rfl⟩
theorem same_view : ref17_Same.impl (2, 2, [], 7) (2, 2, [], 7) = some true := by
  unfold ref17_Same.impl ref17_Same.k1
  simp only [decide_true, if_true, Bool.not_true, Bool.false_eq_true, if_false]
  rw [loop_last (r := .inr ()) (by unfold ref17_Same.st1; rw [ite_df (by simp)])]
  rfl
theorem fits0 (e a : Int) : FitsRep (e, a, []) := fun row h => (List.not_mem_nil h).elim
theorem told_is : law17_told.impl = some true := by
  obtain ⟨x, d2, hx⟩ := dec_more
  have hp : replyP (4, 1, []) = true := by decide
  have e5 := EncodeReply_is (fits0 4 1)
  rw [if_pos hp] at e5
  have e6 := DecodeReply_is (fits0 4 1) hp
  unfold law17_told.impl
  rw [enc_view]
  simp only [Option.bind_some]
  rw [dec_view]
  simp only [Option.bind_some]
  rw [chk_pos trivial, chk_pos (by simp)]
  rw [show ([2, 2, 7] ++ [0] : List UInt8) = [2, 2, 7, 0] from rfl, d2]
  simp only [Option.bind_some]
  rw [chk_pos hx, enc_zero]
  simp only [Option.bind_some]
  rw [e5]
  simp only [Option.bind_some]
  rw [e6]
  simp only [Option.bind_some, same_view]
  simp
theorem replies_is {r : Rep} (hf : FitsRep r) : law17_EntryReplies.impl r = some true := by
  unfold law17_EntryReplies.impl
  rw [EncodeReply_is hf, ReplyRight_is hf, told_is]
  simp only [Option.bind_some, if_true]
  by_cases hp : replyP r = true
  · have hlen := encRep_len hp
    have hp' := hp
    unfold replyP at hp'
    simp only [Bool.and_eq_true, decide_eq_true_eq] at hp'
    obtain ⟨⟨_, _, _, _, h5⟩, h6⟩ := hp'
    have hs := Same_self (a := r) (by omega) (fun row hr => by have := (rowE_zero (of_decide_eq_true (List.all_eq_true.1 h6 row hr))).1; omega)
    rw [hp]
    simp only [if_true, decide_true]
    unfold law17_EntryReplies.k1
    simp only [Bool.false_eq_true, if_false, Bool.not_true]
    rw [DecodeReply_is hf hp]
    simp only [Option.bind_some, decide_true, if_true]
    rw [hs]
    simp; omega
  · simp only [Bool.not_eq_true] at hp
    rw [hp]
    simp only [Bool.false_eq_true, if_false]
    unfold law17_EntryReplies.k1
    simp
end Go.Proofs.YtpogdeibkghhaaaDoor
