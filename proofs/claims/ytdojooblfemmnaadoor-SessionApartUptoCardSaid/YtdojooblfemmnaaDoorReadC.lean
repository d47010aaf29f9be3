/- Layer 2: what the program reads, and the document. -/
import Derived.Test.YtdojooblfemmnaaDoorReadP
set_option linter.unusedVariables false
set_option linter.unusedSimpArgs false
namespace Go.Proofs.YtdojooblfemmnaaDoor
open Go Go.RowKit Go.Lib
theorem drop3' {l : List UInt8} {i : Nat} (h : i + 3 ≤ l.length) : l.drop i = l.getD i default :: l.getD (i + 1) default :: l.getD (i + 2) default :: l.drop (i + 3) := by
  rw [drop3 h, getD_el (by omega), getD_el (by omega), getD_el (by omega)]
theorem drop1' {l : List UInt8} {i : Nat} (h : i < l.length) : l.drop i = l.getD i default :: l.drop (i + 1) := by
  rw [List.drop_eq_getElem_cons h, getD_el h]
theorem ValidRune_is (c : Int) : utf8_ValidRune.impl c = some (decide (OkR c)) := by
  have k2 : ∀ b : Bool, utf8_ValidRune.k2 b = some b := fun b => by cases b <;> rfl
  have k1 : ∀ b : Bool, utf8_ValidRune.k1 c b = some (b || (decide (57343 < c) && decide (c ≤ 1114111))) := fun b => by
    unfold utf8_ValidRune.k1
    cases b with
    | true => rfl
    | false => by_cases h : 57343 < c <;> simp [h, k2]
  unfold utf8_ValidRune.impl
  simp only [k1]
  by_cases h : 0 ≤ c
  · rw [ite_dt h]
    congr 1
    rw [Bool.eq_iff_iff]
    simp only [decide_eq_true_eq, Bool.or_eq_true, Bool.and_eq_true, Bool.false_or]
    unfold OkR
    omega
  · rw [ite_df h]
    congr 1
    rw [Bool.eq_iff_iff]
    simp only [decide_eq_true_eq, Bool.or_eq_true, Bool.and_eq_true, Bool.false_or]
    unfold OkR
    omega
def textOut (len : Nat) (acc : List Int) : Option (List Int × List UInt8) → Vl × Int
  | some p => ((2, 0, ofRunes (acc ++ p.1)), ((len - p.2.length : Nat) : Int))
  | none => ((0, 0, []), 0)
def n3 (a b c : UInt8) : Nat := a.toNat * 65536 + b.toNat * 256 + c.toNat
theorem n3_lt (a b c : UInt8) : n3 a b c < 16777216 := by
  have := a.toNat_lt
  have := b.toNat_lt
  have := c.toNat_lt
  unfold n3; omega
theorem or3' (a b c : UInt8) : bitsOf .or .i32 (bitsOf .or .i32 (shlI .i32 (IntKind.i32.wrap (a.toNat : Int)) 16) (shlI .i32 (IntKind.i32.wrap (b.toNat : Int)) 8)) (IntKind.i32.wrap (c.toNat : Int)) = ((n3 a b c : Nat) : Int) := or3 a.toNat_lt b.toNat_lt c.toNat_lt
theorem txt_n3 (a b c : UInt8) (r : List UInt8) : txt (a :: b :: c :: r) = if n3 a b c = 0 then some ([], r)
    else if OkR ((n3 a b c : Int) - 1) then (txt r).map (fun p => (((n3 a b c : Int) - 1) :: p.1, p.2))
    else none := txt3 a b c r
theorem text_round {l : List UInt8} {acc : List Int} {i : Nat} (hi : i + 3 ≤ l.length) (hl : l.length ≤ 134217728) (ha : acc.length ≤ 134217728) :
    keys_text.st1 l (acc, (i : Int)) = if n3 (l.getD i default) (l.getD (i + 1) default) (l.getD (i + 2) default) = 0 then some (.inr (.inl ((2, 0, ofRunes acc), ((i + 3 : Nat) : Int))))
      else if OkR ((n3 (l.getD i default) (l.getD (i + 1) default) (l.getD (i + 2) default) : Int) - 1) then some (.inl (acc ++ [(n3 (l.getD i default) (l.getD (i + 1) default) (l.getD (i + 2) default) : Int) - 1], ((i + 3 : Nat) : Int)))
      else some (.inr (.inl ((0, 0, []), 0))) := by
  have w1 : IntKind.i64.wrap ((i : Int) + 1) = ((i + 1 : Nat) : Int) := by rw [i64_id (by omega)]; omega
  have w2 : IntKind.i64.wrap ((i : Int) + 2) = ((i + 2 : Nat) : Int) := by rw [i64_id (by omega)]; omega
  have w3 : IntKind.i64.wrap ((i : Int) + 3) = ((i + 3 : Nat) : Int) := by rw [i64_id (by omega)]; omega
  have hn := n3_lt (l.getD i default) (l.getD (i + 1) default) (l.getD (i + 2) default)
  unfold keys_text.st1
  simp only [w1, w2, w3, Int.toNat_natCast, or3', ValidRune_is, Option.bind_some]
  generalize n3 (l.getD i default) (l.getD (i + 1) default) (l.getD (i + 2) default) = n at *
  rw [ite_dt (by omega), chk_pos (by omega), chk_pos (by omega), chk_pos (by omega), i32_id (n := (n : Int) - 1) (by omega)]
  by_cases h0 : n = 0
  · rw [ite_dt (by omega), if_pos h0]
  rw [ite_df (by omega), if_neg h0]
  by_cases h1 : OkR ((n : Int) - 1)
  · rw [ite_nt h1, if_pos h1, chk_pos (by simp; omega)]
  · rw [ite_nf h1, if_neg h1]
theorem text_is {l : List UInt8} (hl : l.length ≤ 134217728) (h1 : 1 ≤ l.length) : keys_text.impl l = some (textOut l.length [] (txt (l.drop 1))) := by
  unfold keys_text.impl
  have key : ∀ n (acc : List Int) (i : Nat), l.length - i < n → 1 ≤ i → i ≤ l.length → acc.length ≤ i → ∃ r, loop (keys_text.st1 l) (acc, (i : Int)) = some r ∧ (match r with | .inl v => some v | .inr v => keys_text.k1 v) = some (textOut l.length acc (txt (l.drop i))) := by
    intro n
    induction n with
    | zero => intro acc i h; omega
    | succ n ih =>
      intro acc i h g1 hi ha
      by_cases hlt : i + 3 ≤ l.length
      · have st := text_round (acc := acc) hlt hl (by omega)
        rw [drop3' hlt, txt_n3]
        by_cases h0 : n3 (l.getD i default) (l.getD (i + 1) default) (l.getD (i + 2) default) = 0
        · rw [if_pos h0] at st ⊢
          refine ⟨_, loop_last st, ?_⟩
          simp only [textOut, List.length_drop, List.append_nil]
          rw [show l.length - (l.length - (i + 3)) = i + 3 by omega]
        rw [if_neg h0] at st ⊢
        by_cases hk : OkR ((n3 (l.getD i default) (l.getD (i + 1) default) (l.getD (i + 2) default) : Int) - 1)
        · rw [if_pos hk] at st ⊢
          obtain ⟨r, r1, r2⟩ := ih (acc ++ [(n3 (l.getD i default) (l.getD (i + 1) default) (l.getD (i + 2) default) : Int) - 1]) (i + 3) (by omega) (by omega) hlt (by simp; omega)
          refine ⟨r, by rw [loop_more st]; exact r1, ?_⟩
          rw [r2]
          cases txt (l.drop (i + 3)) with
          | none => rfl
          | some p => simp [textOut]
        · rw [if_neg hk] at st ⊢
          exact ⟨_, loop_last st, rfl⟩
      · refine ⟨Sum.inr (), loop_last ?_, ?_⟩
        · unfold keys_text.st1
          rw [i64_id (by simp only; omega), ite_df (by simp only; omega)]
        · rw [txt_short (by rw [List.length_drop]; omega)]; rfl
  obtain ⟨r, r1, r2⟩ := key _ [] 1 (Nat.lt_succ_self _) (Nat.le_refl _) h1 (by simp)
  erw [r1]
  exact r2
def oneOut (len : Nat) : Option (Vl × List UInt8) → Vl × Int
  | some p => (p.1, ((len - p.2.length : Nat) : Int))
  | none => ((0, 0, []), 0)
theorem one_int {l : List UInt8} (hl : 9 ≤ l.length) : loop (keys_one.st1 l) (0, 0) = some ((beV ((l.drop 1).take 8) : Nat) : Int) := by
  have hs : subl l 1 9 = (l.drop 1).take 8 := by
    unfold subl
    rw [List.drop_take]; rfl
  have h8 : ((l.drop 1).take 8).length = 8 := by simp; omega
  generalize hm : (l.drop 1).take 8 = m at *
  have := loop_up (step := keys_one.st1 l) (r := ((beV m : Nat) : Int)) (fun i => (((beV (m.take i) : Nat) : Int), (i : Int))) 8 (fun i hi => by
    have w1 : IntKind.i64.wrap ((i : Int) + 1) = ((i + 1 : Nat) : Int) := by rw [i64_id (by omega)]; omega
    have hlt := beV_lt (m.take i)
    have hle : 256 ^ (m.take i).length ≤ 256 ^ 7 := Nat.pow_le_pow_right (by decide) (by rw [List.length_take]; omega)
    rw [show (256 : Nat) ^ 7 = 72057594037927936 by decide] at hle
    have hg : m.getD i default = m[i] := getD_el (by omega)
    unfold keys_one.st1
    simp only [hs, Int.toNat_natCast, hg]
    rw [ite_dt (by omega), chk_pos (by omega), or8 (by omega) (UInt8.toNat_lt _), w1, ← beV_snoc, List.take_append_getElem (by omega)]) (by
    unfold keys_one.st1
    simp only [hs]
    rw [ite_df (by omega), List.take_of_length_le (by omega)])
  simpa [beV] using this
theorem one_is {l : List UInt8} (hl : l.length ≤ 134217728) (h1 : 1 ≤ l.length) : keys_one.impl l = some (oneOut l.length (oneL l)) := by
  obtain ⟨t, s, rfl⟩ : ∃ t s, l = t :: s := by cases l; simp at h1; exact ⟨_, _, rfl⟩
  have hd : ((t :: s).getD 0 default) = t := rfl
  have ht := t.toNat_lt
  unfold keys_one.impl keys_one.k2 keys_one.k3 keys_one.k1
  rw [oneL_cons]
  simp only [show (0 : Int).toNat = 0 from rfl, show (1 : Int).toNat = 1 from rfl, hd]
  rw [chk_pos (by omega)]
  by_cases a1 : t.toNat = 1
  · rw [ite_dt (by omega), if_pos a1]
    simp [oneOut]
  rw [ite_df (by omega), if_neg a1, chk_pos (by omega)]
  by_cases a4 : t.toNat = 4
  · rw [ite_dt (by omega), if_pos a4]
    have a2 : ¬ ((t.toNat : Int) = 2) := by omega
    have a3 : ¬ ((t.toNat : Int) = 3) := by omega
    cases s with
    | nil =>
      rw [ite_df (by simp)]
      simp only [Bool.false_eq_true, if_false]
      rw [chk_pos (by omega), ite_df a2, chk_pos (by omega), ite_df a3]
      rfl
    | cons c s' =>
      have hc : ((t :: c :: s').getD 1 default) = c := rfl
      change _ = some (oneOut _ (if c.toNat ≤ 1 then some (((3, (c.toNat : Int), []) : Vl), s') else none))
      have hl2 : (((t :: c :: s').length : Nat) : Int) = (s'.length : Int) + 2 := by simp; omega
      rw [ite_dt (by omega), hc, chk_pos (by omega)]
      by_cases g : c.toNat ≤ 1
      · rw [ite_dt (by omega), if_pos g, chk_pos (by omega), i64_id (by omega)]
        simp [oneOut]; omega
      · rw [ite_df (by omega), if_neg g]
        simp only [Bool.false_eq_true, if_false]
        rw [chk_pos (by omega), ite_df a2, chk_pos (by omega), ite_df a3]
        rfl
  rw [ite_df (by omega), if_neg a4]
  simp only [Bool.false_eq_true, if_false]
  rw [chk_pos (by omega)]
  by_cases a2 : t.toNat = 2
  · rw [ite_dt (by omega), if_pos a2]
    have a3 : ¬ ((t.toNat : Int) = 3) := by omega
    by_cases g : 8 ≤ s.length
    · have hi := one_int (l := t :: s) (by simp; omega)
      rw [ite_dt (by simp; omega), if_pos g, chk_pos (by simp; omega), hi]
      simp only [Option.bind_some, keys_one.k4]
      have hlt := beV_lt (s.take 8)
      rw [List.length_take, Nat.min_eq_left g, show (256 : Nat) ^ 8 = 18446744073709551616 by decide] at hlt
      simp only [List.drop_succ_cons, List.drop_zero]
      rw [nu_is hlt]
      simp only [oneOut, List.length_cons, List.length_drop]
      rw [show s.length + 1 - (s.length - 8) = 9 by omega]; rfl
    · rw [ite_df (by simp; omega), if_neg g, chk_pos (by omega), ite_df a3]
      rfl
  rw [ite_df (by omega), if_neg a2, chk_pos (by omega)]
  by_cases a3 : t.toNat = 3
  · rw [ite_dt (by omega), if_pos a3, text_is hl h1]
    simp only [Option.bind_some, List.drop_succ_cons, List.drop_zero]
    cases txt s with
    | none => rfl
    | some p => simp [textOut, oneOut]
  · rw [ite_df (by omega), if_neg a3]
    rfl
def readOut (acc : List Vl) : Option (List Vl) → List Vl × Int
  | some l => (acc ++ l, 0)
  | none => ([], 11)
theorem Read_is {l : List UInt8} (hl : l.length ≤ 134217728) : keys_Read.impl l = some (readOut [] (readL l)) := by
  unfold keys_Read.impl
  have key : ∀ n (m : List UInt8) (acc : List Vl), m.length < n → m.length + acc.length ≤ l.length → ∃ r, loop keys_Read.st1 (m, acc) = some r ∧ (match r with | .inl v => some v | .inr v => keys_Read.k1 v) = some (readOut acc (readL m)) := by
    intro n
    induction n with
    | zero => intro m acc h; omega
    | succ n ih =>
      intro m acc h hs
      by_cases hne : m = []
      · refine ⟨Sum.inr acc, loop_last ?_, ?_⟩
        · unfold keys_Read.st1
          rw [hne, ite_df (by simp)]
        · rw [hne, readL_nil]; simp [readOut, keys_Read.k1]
      · have hp : 0 < m.length := List.length_pos_iff.2 hne
        have ho := one_is (l := m) (by omega) hp
        cases e : oneL m with
        | none =>
          rw [e] at ho
          refine ⟨.inl ([], 11), loop_last ?_, ?_⟩
          · unfold keys_Read.st1
            simp only [ho, oneOut, Option.bind_some]
            rw [ite_dt (by omega), ite_dt trivial]
          · rw [readL_none hne e]; rfl
        | some p =>
          obtain ⟨v, r⟩ := p
          have hlt := oneL_lt e
          rw [e] at ho
          have hr : subl m ((m.length - r.length : Nat) : Int) (m.length : Int) = r := by
            obtain ⟨_, _, e2⟩ := oneL_inv e
            unfold subl
            rw [Int.toNat_natCast, Int.toNat_natCast, List.take_length]
            have : m.length - r.length = (kb v).length := by rw [e2, List.length_append]; omega
            rw [this]
            conv => lhs; rw [e2]
            exact List.drop_left
          have st : keys_Read.st1 (m, acc) = some (.inl (r, acc ++ [v])) := by
            unfold keys_Read.st1
            simp only [ho, oneOut, Option.bind_some]
            rw [ite_dt (by omega), ite_df (by omega), chk_pos (by simp; omega), chk_pos (by omega), hr]
          obtain ⟨q, q1, q2⟩ := ih r (acc ++ [v]) (by omega) (by simp; omega)
          refine ⟨q, by rw [loop_more st]; exact q1, ?_⟩
          rw [q2, readL_some e]
          cases readL r with
          | none => rfl
          | some l' => simp [readOut]
  obtain ⟨r, r1, r2⟩ := key _ l [] (Nat.lt_succ_self _) (by simp)
  erw [r1]
  exact r2
end Go.Proofs.YtdojooblfemmnaaDoor
