/- Layer 2: what the document reads. -/
import Derived.Test.YtlokkdfiolfdnaaDoorReadC
set_option linter.unusedVariables false
set_option linter.unusedSimpArgs false
namespace Go.Proofs.YtlokkdfiolfdnaaDoor
open Go Go.RowKit Go.Lib
theorem ref_text_round {l : List UInt8} {acc : List Int} {i : Nat} (hi : i + 3 ≤ l.length) (hl : l.length ≤ 4194304) (ha : acc.length ≤ 4194304) :
    ref2_Read.st3 l ((i : Int), acc) = if n3 (l.getD i default) (l.getD (i + 1) default) (l.getD (i + 2) default) = 0 then some (.inr (.inr (((i + 3 : Nat) : Int), acc)))
      else if OkR ((n3 (l.getD i default) (l.getD (i + 1) default) (l.getD (i + 2) default) : Int) - 1) then some (.inl (((i + 3 : Nat) : Int), acc ++ [(n3 (l.getD i default) (l.getD (i + 1) default) (l.getD (i + 2) default) : Int) - 1]))
      else some (.inr (.inl ([], 11))) := by
  have w1 : IntKind.i64.wrap ((i : Int) + 1) = ((i + 1 : Nat) : Int) := by rw [i64_id (by omega)]; omega
  have w2 : IntKind.i64.wrap ((i : Int) + 2) = ((i + 2 : Nat) : Int) := by rw [i64_id (by omega)]; omega
  have w3 : IntKind.i64.wrap ((i : Int) + 3) = ((i + 3 : Nat) : Int) := by rw [i64_id (by omega)]; omega
  have hn := n3_lt (l.getD i default) (l.getD (i + 1) default) (l.getD (i + 2) default)
  have k6 : ∀ b : Bool, ref2_Read.k6 ((i : Int), acc) l b = if b = true then some (.inr (.inl ([], 11))) else some (.inl (((i + 3 : Nat) : Int), acc ++ [(n3 (l.getD i default) (l.getD (i + 1) default) (l.getD (i + 2) default) : Int) - 1])) := by
    intro b
    unfold ref2_Read.k6
    simp only [w1, w2, w3, Int.toNat_natCast, or3']
    rw [i32_id (n := (n3 (l.getD i default) (l.getD (i + 1) default) (l.getD (i + 2) default) : Int) - 1) (by omega), chk_pos (by simp; omega)]
  unfold ref2_Read.st3
  simp only [w1, w2, w3, Int.toNat_natCast, or3', k6]
  generalize n3 (l.getD i default) (l.getD (i + 1) default) (l.getD (i + 2) default) = n at *
  rw [ite_df (by omega), chk_pos (by omega), chk_pos (by omega), chk_pos (by omega), i32_id (n := (n : Int) - 1) (by omega)]
  by_cases h0 : n = 0
  · rw [ite_dt (by omega), if_pos h0]
  rw [ite_df (by omega), if_neg h0]
  by_cases h1 : OkR ((n : Int) - 1)
  · rw [if_pos h1]
    unfold OkR at h1
    rw [ite_df (by omega)]
    by_cases g : (55296 : Int) ≤ (n : Int) - 1
    · rw [ite_dt g, ite_df (by omega)]
    · rw [ite_df g]; rfl
  · rw [if_neg h1]
    unfold OkR at h1
    by_cases g1 : (1114111 : Int) < (n : Int) - 1
    · rw [ite_dt g1]; rfl
    rw [ite_df g1]
    by_cases g : (55296 : Int) ≤ (n : Int) - 1
    · rw [ite_dt g, ite_dt (by omega)]
    · exfalso; omega
theorem ref_text {l : List UInt8} (hl : l.length ≤ 4194304) {i : Nat} (hi : i ≤ l.length) :
    loop (ref2_Read.st3 l) ((i : Int), []) = some (match txt (l.drop i) with | some p => .inr (((l.length - p.2.length : Nat) : Int), p.1) | none => .inl ([], 11)) := by
  have key : ∀ n (acc : List Int) (i : Nat), l.length - i < n → i ≤ l.length → acc.length ≤ i → loop (ref2_Read.st3 l) ((i : Int), acc) = some (match txt (l.drop i) with | some p => .inr (((l.length - p.2.length : Nat) : Int), acc ++ p.1) | none => .inl ([], 11)) := by
    intro n
    induction n with
    | zero => intro acc i h; omega
    | succ n ih =>
      intro acc i h hi ha
      by_cases hlt : i + 3 ≤ l.length
      · have st := ref_text_round (acc := acc) hlt hl (by omega)
        rw [drop3' hlt, txt_n3]
        by_cases h0 : n3 (l.getD i default) (l.getD (i + 1) default) (l.getD (i + 2) default) = 0
        · rw [if_pos h0] at st ⊢
          rw [loop_last st]
          simp only [List.length_drop, List.append_nil]
          rw [show l.length - (l.length - (i + 3)) = i + 3 by omega]
        rw [if_neg h0] at st ⊢
        by_cases hk : OkR ((n3 (l.getD i default) (l.getD (i + 1) default) (l.getD (i + 2) default) : Int) - 1)
        · rw [if_pos hk] at st ⊢
          rw [loop_more st, ih _ (i + 3) (by omega) hlt (by simp; omega)]
          cases txt (l.drop (i + 3)) with
          | none => rfl
          | some p => simp
        · rw [if_neg hk] at st ⊢
          rw [loop_last st]
      · rw [txt_short (by rw [List.length_drop]; omega)]
        refine loop_last ?_
        unfold ref2_Read.st3
        rw [i64_id (by simp only; omega), ite_dt (by simp only; omega)]
  have := key _ [] i (Nat.lt_succ_self _) hi (by simp)
  simpa using this
theorem ref_int {l : List UInt8} {i : Nat} {out : List Vl} (hl : i + 9 ≤ l.length) (h2 : l.length ≤ 4194304) : loop (ref2_Read.st2 (out, (i : Int)) l) (0, 0) = some ((beV ((l.drop (i + 1)).take 8) : Nat) : Int) := by
  have h8 : ((l.drop (i + 1)).take 8).length = 8 := by simp; omega
  have hg : ∀ j, (hj : j < 8) → l.getD (i + 1 + j) default = ((l.drop (i + 1)).take 8).getD j default := fun j hj => by
    rw [getD_el (by omega), getD_el (by omega), List.getElem_take, List.getElem_drop]
  generalize (l.drop (i + 1)).take 8 = m at *
  have := loop_up (step := ref2_Read.st2 (out, (i : Int)) l) (r := ((beV m : Nat) : Int)) (fun j => (((beV (m.take j) : Nat) : Int), (j : Int))) 8 (fun j hj => by
    have w0 : IntKind.i64.wrap ((i : Int) + 1) = ((i + 1 : Nat) : Int) := by rw [i64_id (by omega)]; omega
    have w1 : IntKind.i64.wrap ((j : Int) + 1) = ((j + 1 : Nat) : Int) := by rw [i64_id (by omega)]; omega
    have w2 : IntKind.i64.wrap (((i + 1 : Nat) : Int) + (j : Int)) = ((i + 1 + j : Nat) : Int) := by rw [i64_id (by omega)]; omega
    have hlt := beV_lt (m.take j)
    have hle : 256 ^ (m.take j).length ≤ 256 ^ 7 := Nat.pow_le_pow_right (by decide) (by rw [List.length_take]; omega)
    rw [show (256 : Nat) ^ 7 = 72057594037927936 by decide] at hle
    unfold ref2_Read.st2
    simp only [w0, w1, w2, Int.toNat_natCast, hg j hj, getD_el (l := m) (i := j) (by omega)]
    rw [ite_dt (by omega), chk_pos (by omega), or8 (by omega) (UInt8.toNat_lt _), ← beV_snoc, List.take_append_getElem (by omega)]) (by
    unfold ref2_Read.st2
    rw [ite_df (by simp), List.take_of_length_le (by omega)])
  simpa [beV] using this
theorem ref_read_round {l : List UInt8} {out : List Vl} {i : Nat} (hi : i < l.length) (hl : l.length ≤ 4194304) (ha : out.length ≤ 4194304) :
    ref2_Read.st1 l (out, (i : Int)) = some (match oneL (l.drop i) with | some p => .inl (out ++ [p.1], ((l.length - p.2.length : Nat) : Int)) | none => .inr (.inl ([], 11))) := by
  have w0 : IntKind.i64.wrap ((i : Int) + 1) = ((i + 1 : Nat) : Int) := by rw [i64_id (by omega)]; omega
  have w9 : IntKind.i64.wrap (((i + 1 : Nat) : Int) + 8) = ((i + 9 : Nat) : Int) := by rw [i64_id (by omega)]; omega
  have w2 : IntKind.i64.wrap (((i + 1 : Nat) : Int) + 1) = ((i + 2 : Nat) : Int) := by rw [i64_id (by omega)]; omega
  rw [drop1' hi, oneL_cons]
  have hint := fun h => ref_int (l := l) (i := i) (out := out) h hl
  have htext := ref_text (l := l) hl (i := i + 1) (by omega)
  have hr : ∀ p, txt (l.drop (i + 1)) = some p → (∀ c ∈ p.1, OkR c) ∧ p.1.length ≤ 4194304 := fun p hp => by
    obtain ⟨h1, _⟩ := txt_inv _ (l.drop (i + 1)) (Nat.lt_succ_self _) p.1 p.2 hp
    have h2 := txt_len (l := l.drop (i + 1)) (r := p.2) (rs := p.1) hp
    rw [List.length_drop] at h2
    exact ⟨h1, by omega⟩
  have hlen : (l.drop (i + 1)).length = l.length - (i + 1) := List.length_drop
  have hc : i + 1 < l.length → l.drop (i + 1) = l.getD (i + 1) default :: l.drop (i + 2) := fun h => drop1' h
  have hz : ¬ i + 1 < l.length → l.drop (i + 1) = [] := fun h => List.drop_of_length_le (by omega)
  have ht := (l.getD i default).toNat_lt
  unfold ref2_Read.st1 ref2_Read.k2 ref2_Read.k3 ref2_Read.k4
  simp only [Int.toNat_natCast, w0, w9, w2]
  have wt : IntKind.i64.wrap ((l.getD i default).toNat : Int) = ((l.getD i default).toNat : Int) := i64_id (by omega)
  have wk : IntKind.i64.wrap (((l.getD i default).toNat : Int) - 1) = ((l.getD i default).toNat : Int) - 1 := i64_id (by omega)
  simp only [wt, wk]
  rw [ite_dt (by omega), chk_pos (by omega)]
  by_cases a1 : (l.getD i default).toNat = 1
  · rw [ite_dt (by omega), if_pos a1, chk_pos (by simp; omega)]
    simp only [List.length_drop]
    rw [show l.length - (l.length - (i + 1)) = i + 1 by omega]
  rw [ite_df (by omega), if_neg a1]
  by_cases a4 : (l.getD i default).toNat = 4
  · rw [ite_dt (by omega), if_pos a4]
    have a2 : ¬ (((l.getD i default).toNat : Int) - 1 = 1) := by omega
    have a3 : ¬ (((l.getD i default).toNat : Int) - 1 = 2) := by omega
    by_cases h1 : i + 1 < l.length
    · rw [ite_dt (by omega), chk_pos (by omega), hc h1]
      simp only
      by_cases g : (l.getD (i + 1) default).toNat ≤ 1
      · rw [ite_dt (by omega), if_pos g, chk_pos (by omega), chk_pos (by simp; omega), i64_id (n := ((l.getD (i + 1) default).toNat : Int)) (by omega)]
        simp only [List.length_drop]
        rw [show l.length - (l.length - (i + 2)) = i + 2 by omega]
      · rw [ite_df (by omega), if_neg g]
        simp only [Bool.false_eq_true, if_false]
        rw [ite_df a2, ite_df a3]
    · rw [ite_df (by omega), hz h1]
      simp only [Bool.false_eq_true, if_false]
      rw [ite_df a2, ite_df a3]
  rw [ite_df (by omega), if_neg a4]
  simp only [Bool.false_eq_true, if_false]
  by_cases a2 : (l.getD i default).toNat = 2
  · rw [ite_dt (by omega), if_pos a2]
    have a3 : ¬ (((l.getD i default).toNat : Int) - 1 = 2) := by omega
    by_cases g : 8 ≤ (l.drop (i + 1)).length
    · rw [ite_dt (by omega), if_pos g, hint (by omega)]
      simp only [Option.bind_some]
      have hlt := beV_lt ((l.drop (i + 1)).take 8)
      rw [List.length_take, Nat.min_eq_left g, show (256 : Nat) ^ 8 = 18446744073709551616 by decide] at hlt
      rw [nu_is hlt, chk_pos (by simp; omega)]
      simp only [List.length_drop]
      rw [show l.length - (l.length - (i + 1) - 8) = i + 9 by omega]
    · rw [ite_df (by omega), if_neg g, ite_df a3]
  rw [ite_df (by omega), if_neg a2]
  by_cases a3 : (l.getD i default).toNat = 3
  · rw [ite_dt (by omega), if_pos a3, htext]
    cases e : txt (l.drop (i + 1)) with
    | none => rfl
    | some p =>
      obtain ⟨h1, h2⟩ := hr p e
      simp only [Option.map_some, Option.bind_some, ref2_Read.k5]
      rw [RefEncode_is h2 h1]
      simp only [Option.bind_some]
      rw [chk_pos (by simp; omega)]
  · rw [ite_df (by omega), if_neg a3]
theorem RefRead_is {l : List UInt8} (hl : l.length ≤ 4194304) : ref2_Read.impl l = some (readOut [] (readL l)) := by
  unfold ref2_Read.impl
  have key : ∀ n (acc : List Vl) (i : Nat), l.length - i < n → i ≤ l.length → acc.length ≤ i → ∃ r, loop (ref2_Read.st1 l) (acc, (i : Int)) = some r ∧ (match r with | .inl v => some v | .inr v => ref2_Read.k1 v) = some (readOut acc (readL (l.drop i))) := by
    intro n
    induction n with
    | zero => intro acc i h; omega
    | succ n ih =>
      intro acc i h hi ha
      by_cases hlt : i < l.length
      · have st := ref_read_round (out := acc) hlt hl (by omega)
        have hne : l.drop i ≠ [] := fun e => by have := congrArg List.length e; simp at this; omega
        cases e : oneL (l.drop i) with
        | none =>
          rw [e] at st
          exact ⟨_, loop_last st, by rw [readL_none hne e]; rfl⟩
        | some p =>
          obtain ⟨v, r⟩ := p
          rw [e] at st
          simp only at st
          have h2 := oneL_lt e
          rw [List.length_drop] at h2
          have hr : l.drop (l.length - r.length) = r := by
            obtain ⟨_, _, e2⟩ := oneL_inv e
            have : l.length - r.length = i + (kb v).length := by
              have := congrArg List.length e2
              rw [List.length_append, List.length_drop] at this; omega
            rw [this, ← List.drop_drop, e2, List.drop_left]
          obtain ⟨q, q1, q2⟩ := ih (acc ++ [v]) (l.length - r.length) (by omega) (by omega) (by simp; omega)
          refine ⟨q, by rw [loop_more st]; exact q1, ?_⟩
          rw [q2, hr, readL_some e]
          cases readL r with
          | none => rfl
          | some l' => simp [readOut]
      · refine ⟨Sum.inr acc, loop_last ?_, ?_⟩
        · unfold ref2_Read.st1
          rw [ite_df (by simp only; omega)]
        · rw [List.drop_of_length_le (by omega), readL_nil]; simp [readOut, ref2_Read.k1]
  obtain ⟨r, r1, r2⟩ := key _ [] 0 (Nat.lt_succ_self _) (Nat.zero_le _) (by simp)
  erw [r1]
  exact r2
end Go.Proofs.YtlokkdfiolfdnaaDoor
