/- EntryForth in plain terms. -/
import Derived.Test.YtpogdeibkghhaaaDoorLawF
import Derived.Test.YtpogdeibkghhaaaDoorToldF
set_option linter.unusedVariables false
set_option linter.unusedSimpArgs false
namespace Go.Proofs.YtpogdeibkghhaaaDoor
open Go Go.RowKit Go.Lib
theorem Enc_of {e : Ent} (hB : BndE e) (hR : entR e = true) : entry_Encode.impl e = some (encE e, 0) := by rw [Enc_e hB, if_pos hR]
theorem forth_is {l0 : List UInt8} {x : Ent} {a2 a3 : Int} (hl : l0.length ≤ 1048576) (hx : BndE x) (h3 : 0 ≤ a3 ∧ a3 < 256) : law17_EntryForth.impl l0 x a2 a3 = some true := by
  have hk1 : law17_EntryForth.k1 x a2 a3 l0 () = some true := by
    unfold law17_EntryForth.k1
    have hfe := few_is hx
    first | rw [hfe] | erw [hfe]
    simp only [Option.bind_some]
    have hB := few_bnd hx
    rw [Enc_e hB]
    simp only [Option.bind_some]
    cases hR : entR (fewE x) with
    | false =>
      simp only [Bool.false_eq_true, if_false]
      rw [ite_df (by decide)]
      unfold law17_EntryForth.k2
      simp only [if_true, told_is, Option.bind_some]
    | true =>
      obtain ⟨hlen, hpos⟩ := encE_len hB hR
      obtain ⟨p, hp⟩ : ∃ p, encE (fewE x) = p := ⟨_, rfl⟩
      rw [hp] at hlen hpos
      simp only [if_true, decide_true, hp]
      rw [decide_eq_false (by omega)]
      obtain ⟨m, hm, hm2⟩ : ∃ m : Nat, bitsOf .and .i64 a2 65535 = (m : Int) ∧ m < 65536 := ⟨(a2 % 65536).toNat, by rw [i64_mask 16 (by omega) a2 65535 (by decide)]; omega, by omega⟩
      obtain ⟨k, hk, hkl⟩ : ∃ k : Nat, Int.tmod (bitsOf .and .i64 a2 65535) (((([] : List UInt8) ++ p).length : Nat) : Int) = (k : Int) ∧ k < p.length := by
        refine ⟨m % p.length, ?_, Nat.mod_lt _ hpos⟩
        rw [hm, List.nil_append]; rfl
      have k5 : ∀ (y : Ent × Int), entry_Decode.impl (subl p 0 (k : Int)) = some y → law17_EntryForth.k5 y a2 (p, 0) () = some true := fun y hy => by
        have hsl : (subl p 0 (k : Int)).length ≤ 1048576 := by unfold subl; simp; omega
        obtain ⟨e, f, hd, hf⟩ := Decode_tot hsl
        rw [hy] at hd
        obtain rfl := Option.some.inj hd
        unfold law17_EntryForth.k5
        simp only [hk]
        rcases hf with ⟨rfl, hB5, hR5, hE5⟩ | ⟨rfl, _⟩
        · rw [ite_dt rfl, chk_pos (by omega), hy]
          simp only [Option.bind_some]
          have := Enc_of hB5 hR5
          first | rw [this] | erw [this]
          simp only [Option.bind_some, decide_true, if_true]
          rw [chk_pos (by omega), hE5, decide_eq_true rfl]
        · rw [ite_df (by decide), told_is]; rfl
      have k4 : law17_EntryForth.k4 a2 (p, 0) l0 () = some true := by
        have hsl : (subl p 0 (k : Int)).length ≤ 1048576 := by unfold subl; simp; omega
        obtain ⟨e, f, hd, _⟩ := Decode_tot hsl
        obtain ⟨r, g, hr, hg⟩ := DecodeReply_tot hl
        unfold law17_EntryForth.k4
        simp only [hk]
        rw [chk_pos (by omega), hd]
        simp only [Option.bind_some]
        rw [hr]
        simp only [Option.bind_some]
        rcases hg with ⟨rfl, hF, hP, hE⟩ | rfl
        · rw [ite_dt rfl]
          have := EncodeReply_is hF
          rw [if_pos hP] at this
          first | rw [this] | erw [this]
          simp only [Option.bind_some, decide_true, if_true, hE, Bool.not_true]
          unfold law17_EntryForth.k6
          simp only [Bool.false_eq_true, if_false]
          exact k5 _ hd
        · rw [ite_df (by decide)]; exact k5 _ hd
      have k3 : law17_EntryForth.k3 a2 (p, 0) a3 l0 () = some true := by
        have s1 : (subl p 0 (k : Int)).length = k := by unfold subl; simp; omega
        have s2 : (subl p (k : Int) (p.length : Int)).length = p.length - k := by unfold subl; simp
        obtain ⟨q, hq⟩ : ∃ q, ([] ++ subl p 0 (k : Int)) ++ [u8 a3] ++ subl p (k : Int) (p.length : Int) = q := ⟨_, rfl⟩
        have hql : q.length ≤ 1048576 := by
          rw [← hq]
          simp only [List.length_append, List.length_singleton, List.length_nil, s1, s2]; omega
        obtain ⟨e, f, hd, hf⟩ := Decode_tot hql
        unfold law17_EntryForth.k3
        simp only [hk]
        rw [chk_pos (by omega), chk_pos (by simp only [List.length_nil, s1]; omega), chk_pos h3, chk_pos (by simp only [List.length_append, List.length_singleton, List.length_nil, s1]; omega), chk_pos (by omega), chk_pos (by simp only [List.length_append, List.length_singleton, List.length_nil, s1, s2]; omega)]
        rw [hq, hd]
        simp only [Option.bind_some]
        rcases hf with ⟨rfl, hB5, hR5, hE5⟩ | ⟨rfl, _⟩
        · rw [ite_dt rfl]
          have := Enc_of hB5 hR5
          first | rw [this] | erw [this]
          simp only [Option.bind_some, decide_true, if_true, hE5, Bool.not_true]
          unfold law17_EntryForth.k7
          simp only [Bool.false_eq_true, if_false]
          exact k4
        · rw [ite_df (by decide)]; exact k4
      unfold law17_EntryForth.k2
      simp only [Bool.false_eq_true, if_false, hk]
      have hnl : ([] ++ p : List UInt8).length = p.length := by simp
      rw [chk_pos (by simp only [List.length_nil]; omega), chk_pos (by omega), chk_pos (by omega), chk_pos h3]
      obtain ⟨q, hq⟩ : ∃ q, ([] ++ p).set ((k : Int)).toNat (u8 a3) = q := ⟨_, rfl⟩
      have hql : q.length ≤ 1048576 := by rw [← hq]; simp; omega
      obtain ⟨e, f, hd, hf⟩ := Decode_tot hql
      rw [hq, hd]
      simp only [Option.bind_some]
      rcases hf with ⟨rfl, hB5, hR5, hE5⟩ | ⟨rfl, _⟩
      · rw [ite_dt rfl]
        have := Enc_of hB5 hR5
        first | rw [this] | erw [this]
        simp only [Option.bind_some, decide_true, if_true, hE5, Bool.not_true]
        unfold law17_EntryForth.k8
        simp only [Bool.false_eq_true, if_false]
        exact k3
      · rw [ite_df (by decide)]; exact k3
  obtain ⟨e, f, hd, hf⟩ := Decode_tot hl
  unfold law17_EntryForth.impl
  rw [hd]
  simp only [Option.bind_some]
  rcases hf with ⟨rfl, hB5, hR5, hE5⟩ | ⟨rfl, _⟩
  · rw [ite_dt rfl]
    have h1 := Enc_of hB5 hR5
    have h2 := Right_e hB5
    first | rw [h1] | erw [h1]
    simp only [Option.bind_some, decide_true, if_true, hE5]
    first | rw [h2] | erw [h2]
    simp only [Option.bind_some, hR5, Bool.not_true]
    unfold law17_EntryForth.k9
    simp only [Bool.false_eq_true, if_false]
    exact hk1
  · rw [ite_df (by decide), ite_nt rfl]; exact hk1
end Go.Proofs.YtpogdeibkghhaaaDoor
