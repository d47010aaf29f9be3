/- told, replies of any bytes, few, in plain terms. -/
import Derived.Test.YtpogdeibkghhaaaDoorLaw
import Derived.Test.YtpogdeibkghhaaaDoorDecL
import Derived.Test.YtpogdeibkghhaaaDoorReplyF
set_option linter.unusedVariables false
set_option linter.unusedSimpArgs false
namespace Go.Proofs.YtpogdeibkghhaaaDoor
open Go Go.RowKit Go.Lib
theorem uint7 : uint 7 = [7] := by
  show hi (7 / 128) ++ [UInt8.ofNat (7 % 128)] = [7]
  rw [show 7 / 128 = 0 from rfl, hi_zero]; rfl
theorem bnd0 (k s n : Int) : BndE (k, s, [], n) := fun c hc => (List.not_mem_nil hc).elim
theorem enc_view : entry_Encode.impl (2, 2, [], 7) = some ([2, 2, 7], 0) := by
  rw [Enc_e (bnd0 2 2 7), if_pos (by decide)]
  have : encE (2, 2, [], 7) = [2, 2, 7] := by
    show [u8 2, u8 2] ++ uint 7 ++ [] = _
    rw [uint7]; rfl
  rw [this]
theorem enc_zero : entry_Encode.impl (0, 0, [], 0) = some ([], 1) := by
  rw [Enc_e (bnd0 0 0 0), if_neg (by decide)]
theorem dec_view : entry_Decode.impl [2, 2, 7] = some ((2, 2, [], 7), 0) := by
  have b1 := rd_byte (pre := []) (b := 2) (suf := [2, 7]) (by simp)
  have b2 := rd_byte (pre := [2]) (b := 2) (suf := [7]) (by simp)
  have u3 := rd_uint (pre := [2, 2]) (n := 7) (suf := []) (by omega) (by simp [uint7])
  rw [uint7] at u3
  have b1 : entry_reader_byte.impl ([2, 2, 7], 0, false) = some (2, ([2, 2, 7], 1, false)) := b1
  have b2 : entry_reader_byte.impl ([2, 2, 7], 1, false) = some (2, ([2, 2, 7], 2, false)) := b2
  have u3 : entry_reader_uint.impl ([2, 2, 7], 2, false) = some (7, ([2, 2, 7], 3, false)) := u3
  unfold entry_Decode.impl
  rw [b1]
  simp only [Option.bind_some]
  rw [b2]
  simp only [Option.bind_some]
  rw [u3]
  simp only [Option.bind_some]
  rw [loop_last (r := (3, false, [])) (by unfold entry_Decode.st1; rw [if_neg (by simp), ite_df (by simp)]; unfold entry_Decode.k3; simp)]
  simp only [Option.bind_some]
  unfold entry_Decode.k1
  simp only [Bool.false_eq_true, if_false]
  rw [enc_view]
  simp [bytes_Equal.impl, entry_Decode.k2]
theorem dec_more : ∃ x, entry_Decode.impl [2, 2, 7, 0] = some (x, 11) ∧ x.2.2.1 = [] := by
  have b1 := rd_byte (pre := []) (b := 2) (suf := [2, 7, 0]) (by simp)
  have b2 := rd_byte (pre := [2]) (b := 2) (suf := [7, 0]) (by simp)
  have u3 := rd_uint (pre := [2, 2]) (n := 7) (suf := [0]) (by omega) (by simp [uint7])
  have b4 := rd_byte (pre := [2, 2, 7]) (b := 0) (suf := []) (by simp)
  rw [uint7] at u3
  have b1 : entry_reader_byte.impl ([2, 2, 7, 0], 0, false) = some (2, ([2, 2, 7, 0], 1, false)) := b1
  have b2 : entry_reader_byte.impl ([2, 2, 7, 0], 1, false) = some (2, ([2, 2, 7, 0], 2, false)) := b2
  have u3 : entry_reader_uint.impl ([2, 2, 7, 0], 2, false) = some (7, ([2, 2, 7, 0], 3, false)) := u3
  have b4 : entry_reader_byte.impl ([2, 2, 7, 0], 3, false) = some (0, ([2, 2, 7, 0], 4, false)) := b4
  have u5 : entry_reader_uint.impl ([2, 2, 7, 0], 4, false) = some (0, ([2, 2, 7, 0], 4, true)) := by
    have := ReadUint_in (l := [2, 2, 7, 0]) (at_ := 4) (by simp) (by simp)
    have e : wire_ReadUint.impl [2, 2, 7, 0] 4 = some (0, 0, 10) := this
    unfold entry_reader_uint.impl
    simp only []
    rw [e]
    simp [entry_reader_uint.k1]
  have b6 : entry_reader_byte.impl ([2, 2, 7, 0], 4, true) = some (0, ([2, 2, 7, 0], 4, true)) := by
    unfold entry_reader_byte.impl entry_reader_byte.k1
    simp
  unfold entry_Decode.impl
  rw [b1]
  simp only [Option.bind_some]
  rw [b2]
  simp only [Option.bind_some]
  rw [u3]
  simp only [Option.bind_some]
  have st : entry_Decode.st1 [2, 2, 7, 0] (3, false, []) = some (.inl (4, true, [(0, 0, [])])) := by
    unfold entry_Decode.st1
    rw [if_neg (by simp), ite_dt (by simp)]
    unfold entry_Decode.k3
    simp only [List.length_nil]
    rw [if_pos (by simp), b4]
    simp only [Option.bind_some]
    rw [u5]
    simp only [Option.bind_some]
    rw [b6]
    simp only [Option.bind_some]
    rw [loop_last (r := (4, true, [])) (by unfold entry_Decode.st2; rw [ite_df (by simp)]; unfold entry_Decode.k5; simp)]
    simp only [Option.bind_some]
    unfold entry_Decode.k4
    rw [chk_pos (by simp)]
    simp
  rw [loop_more st, loop_last (r := (4, true, [(0, 0, [])])) (by unfold entry_Decode.st1; rw [if_pos rfl]; unfold entry_Decode.k3; simp)]
  simp only [Option.bind_some]
  have hB : BndE (2, 2, [(0, 0, [])], 7) := fun c hc => by
    rw [List.mem_singleton.1 hc]; exact fun o ho => (List.not_mem_nil ho).elim
  have hr : entry_Encode.impl (2, 2, [(0, 0, [])], 7) = some ([], 1) := by
    rw [Enc_e hB, if_neg (by decide)]
  unfold entry_Decode.k1
  simp only [if_true]
  rw [hr]
  exact ⟨_, rfl, rfl⟩
theorem same_view : ref17_Same.impl (2, 2, [], 7) (2, 2, [], 7) = some true := by
  unfold ref17_Same.impl ref17_Same.k1
  simp only [decide_true, if_true, Bool.not_true, Bool.false_eq_true, if_false]
  rw [loop_last (r := .inr ()) (by unfold ref17_Same.st1; rw [ite_df (by simp)])]
  rfl
theorem fits0 (e a : Int) : FitsRep (e, a, []) := fun row h => (List.not_mem_nil h).elim
theorem told_is : law17_told.impl = some true := by
  obtain ⟨x, d2, hx⟩ := dec_more
  have hp : replyP (4, 1, []) = true := by decide
  have e5 := EncodeReply_is (fits0 4 1)
  rw [if_pos hp] at e5
  have e6 := DecodeReply_is (fits0 4 1) hp
  unfold law17_told.impl
  rw [enc_view]
  simp only [Option.bind_some]
  rw [dec_view]
  simp only [Option.bind_some]
  rw [chk_pos trivial, chk_pos (by simp)]
  rw [show ([2, 2, 7] ++ [0] : List UInt8) = [2, 2, 7, 0] from rfl, d2]
  simp only [Option.bind_some]
  rw [chk_pos hx, enc_zero]
  simp only [Option.bind_some]
  rw [e5]
  simp only [Option.bind_some]
  rw [e6]
  simp only [Option.bind_some, same_view]
  simp
theorem Copied_is {l : List Op} (hl : l.length ≤ 1000) (hB : ∀ o ∈ l, BndO o) : ref16_CopiedOps.impl l = some l := by
  unfold ref16_CopiedOps.impl
  have lp := loop_up (step := ref16_CopiedOps.st1 l) (r := l) (fun i : Nat => (l.take i, (i : Int))) l.length (fun i hi => by
    have hb := hB _ (List.getElem_mem hi)
    rw [← getD_el hi] at hb
    unfold ref16_CopiedOps.st1
    rw [ite_dt (by simp only []; omega)]
    simp only [Int.toNat_natCast]
    rw [chk_pos (by omega), chk_pos (by have := hb.rowl; simp only [List.length_nil]; omega), chk_pos (by have := hb.cols; simp only [List.length_nil]; omega), chk_pos (by have := hb.idx; simp only [List.length_nil]; omega), chk_pos (by simp only [List.length_take, List.length_singleton]; omega), i64_id (by omega)]
    have e : l.take (i + 1) = l.take i ++ [l.getD i default] := by rw [List.take_succ_eq_append_getElem hi, getD_el hi]
    rw [e]; rfl) (by
    unfold ref16_CopiedOps.st1
    rw [ite_df (by simp), List.take_length])
  rw [show (([] : List Op), (0 : Int)) = (l.take 0, ((0 : Nat) : Int)) from rfl]
  erw [lp]
  rfl
def fewE (x : Ent) : Ent := (x.1, x.2.1, (x.2.2.1.take 4).map (fun c => (c.1, c.2.1, c.2.2.take 4)), x.2.2.2)
theorem few_bnd {x : Ent} (h : BndE x) : BndE (fewE x) := fun c hc => by
  obtain ⟨d, hd, rfl⟩ := List.mem_map.1 hc
  exact fun o ho => h d (List.mem_of_mem_take hd) o (List.mem_of_mem_take ho)
theorem few_is {x : Ent} (h : BndE x) : law17_few.impl x = some (fewE x) := by
  unfold law17_few.impl
  obtain ⟨n, hn⟩ : ∃ n, n = min x.2.2.1.length 4 := ⟨_, rfl⟩
  have lp := loop_up (step := law17_few.st1 x) (r := (x.2.2.1.take n).map (fun c => (c.1, c.2.1, c.2.2.take 4))) (fun i : Nat => ((x.2.2.1.take i).map (fun c => (c.1, c.2.1, c.2.2.take 4)), (i : Int))) n (fun i hi => by
    have hlt : i < x.2.2.1.length := by omega
    have hm := List.getElem_mem hlt
    obtain ⟨c, hc⟩ : ∃ c, x.2.2.1[i] = c := ⟨_, rfl⟩
    rw [hc] at hm
    have hd : x.2.2.1.getD i default = c := by rw [getD_el hlt, hc]
    have hcp := Copied_is (l := c.2.2.take 4) (by rw [List.length_take]; omega) (fun o ho => h c hm o (List.mem_of_mem_take ho))
    have hsub : subl c.2.2 0 (min (c.2.2.length : Int) 4) = c.2.2.take 4 := by
      unfold subl
      rw [show (0 : Int).toNat = 0 from rfl, List.drop_zero]
      by_cases g : c.2.2.length ≤ 4
      · rw [show (min (c.2.2.length : Int) 4) = (c.2.2.length : Int) by omega, Int.toNat_natCast, List.take_length, List.take_of_length_le g]
      · rw [show (min (c.2.2.length : Int) 4) = 4 by omega]; rfl
    unfold law17_few.st1
    rw [ite_dt (by simp only []; omega), decide_eq_true (by simp only []; omega)]
    unfold law17_few.k2
    simp only [if_true, Int.toNat_natCast, hd]
    rw [chk_pos (by omega), chk_pos (by omega), hsub, hcp]
    simp only [Option.bind_some]
    rw [chk_pos (by simp only [List.length_map, List.length_take, List.length_singleton]; omega), i64_id (by omega)]
    have e : x.2.2.1.take (i + 1) = x.2.2.1.take i ++ [c] := by rw [List.take_succ_eq_append_getElem hlt, hc]
    rw [e, List.map_append]; rfl) (by
    unfold law17_few.st1
    by_cases g : x.2.2.1.length ≤ 4
    · have : n = x.2.2.1.length := by omega
      rw [ite_df (by simp only []; omega)]
      unfold law17_few.k2; simp
    · rw [ite_dt (by simp only []; omega), decide_eq_false (by simp only []; omega)]
      unfold law17_few.k2; simp)
  rw [show (([] : List Cmd), (0 : Int)) = ((x.2.2.1.take 0).map (fun c => (c.1, c.2.1, c.2.2.take 4)), ((0 : Nat) : Int)) from rfl]
  erw [lp]
  simp only [Option.bind_some]
  unfold law17_few.k1 fewE
  have : x.2.2.1.take n = x.2.2.1.take 4 := by
    rw [hn]
    by_cases g : x.2.2.1.length ≤ 4
    · rw [Nat.min_eq_left g, List.take_length, List.take_of_length_le g]
    · rw [Nat.min_eq_right (by omega)]
  rw [this]
end Go.Proofs.YtpogdeibkghhaaaDoor
