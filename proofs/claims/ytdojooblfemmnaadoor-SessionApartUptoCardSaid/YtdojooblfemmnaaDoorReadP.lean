/- Layer 2: bytes that are read, in plain terms. -/
import Derived.Test.YtdojooblfemmnaaDoorKey
import Derived.Test.YtdojooblfemmnaaDoorUtf
import Derived.Test.YtdojooblfemmnaaDoorOrd
set_option linter.unusedVariables false
set_option linter.unusedSimpArgs false
namespace Go.Proofs.YtdojooblfemmnaaDoor
open Go Go.RowKit Go.Lib
instance (c : Int) : Decidable (OkR c) := by unfold OkR; infer_instance
/-- Runes of three bytes each, up to their end; what stands behind it. -/
def txt : List UInt8 → Option (List Int × List UInt8)
  | a :: b :: c :: r =>
    if a.toNat * 65536 + b.toNat * 256 + c.toNat = 0 then some ([], r)
    else if OkR (((a.toNat * 65536 + b.toNat * 256 + c.toNat : Nat) : Int) - 1) then (txt r).map (fun p => ((((a.toNat * 65536 + b.toNat * 256 + c.toNat : Nat) : Int) - 1) :: p.1, p.2))
    else none
  | _ => none
theorem txt3 (a b c : UInt8) (r : List UInt8) : txt (a :: b :: c :: r) = if a.toNat * 65536 + b.toNat * 256 + c.toNat = 0 then some ([], r)
    else if OkR (((a.toNat * 65536 + b.toNat * 256 + c.toNat : Nat) : Int) - 1) then (txt r).map (fun p => ((((a.toNat * 65536 + b.toNat * 256 + c.toNat : Nat) : Int) - 1) :: p.1, p.2))
    else none := by rw [txt]
theorem txt_short {l : List UInt8} (h : l.length < 3) : txt l = none := by
  match l, h with
  | [], _ => rfl
  | [_], _ => rfl
  | [_, _], _ => rfl
  | _ :: _ :: _ :: _, h => exact absurd h (by simp)
theorem drop3 {l : List UInt8} {i : Nat} (h : i + 3 ≤ l.length) : l.drop i = l[i] :: l[i + 1] :: l[i + 2] :: l.drop (i + 3) := by
  rw [List.drop_eq_getElem_cons (by omega), List.drop_eq_getElem_cons (by omega), List.drop_eq_getElem_cons (by omega)]
theorem r3_txt {c : Int} (hok : OkR c) (r : List UInt8) : txt (r3 c ++ r) = (txt r).map fun p => (c :: p.1, p.2) := by
  obtain ⟨n, rfl, h1, h2⟩ := okNat hok
  have e : r3 (n : Int) ++ r = UInt8.ofNat ((n + 1) / 65536) :: UInt8.ofNat ((n + 1) / 256) :: UInt8.ofNat (n + 1) :: r := rfl
  have a0 : (UInt8.ofNat ((n + 1) / 65536)).toNat = (n + 1) / 65536 := ofNat_b _ (by omega)
  have a1 : (UInt8.ofNat ((n + 1) / 256)).toNat = (n + 1) / 256 % 256 := by simp [UInt8.toNat_ofNat']
  have a2 : (UInt8.ofNat (n + 1)).toNat = (n + 1) % 256 := by simp [UInt8.toNat_ofNat']
  have s : (n + 1) / 65536 * 65536 + (n + 1) / 256 % 256 * 256 + (n + 1) % 256 = n + 1 := by omega
  have e2 : ((n + 1 : Nat) : Int) - 1 = (n : Int) := by omega
  rw [e, txt3, a0, a1, a2, s, if_neg (by omega), e2, if_pos hok]
/-- What is written of a text is read as its runes. -/
theorem txt_runes {rs : List Int} (h : ∀ c ∈ rs, OkR c) (r : List UInt8) : txt (rs.flatMap r3 ++ ([0, 0, 0] ++ r)) = some (rs, r) := by
  induction rs with
  | nil =>
    show txt (0 :: 0 :: 0 :: r) = _
    rw [txt3, if_pos (by decide)]
  | cons c rs ih => rw [List.flatMap_cons, List.append_assoc, r3_txt (h c (by simp)), ih (fun d hd => h d (by simp [hd]))]; rfl
theorem txt_inv : ∀ n (l : List UInt8), l.length < n → ∀ rs r, txt l = some (rs, r) → (∀ c ∈ rs, OkR c) ∧ l = rs.flatMap r3 ++ ([0, 0, 0] ++ r)
  | 0, l, h, _, _, _ => by omega
  | n + 1, l, hn, rs, r, h => by
    match l, hn, h with
    | [], _, h => cases h
    | [_], _, h => cases h
    | [_, _], _, h => cases h
    | a :: b :: c :: t, hn, h =>
      rw [txt3] at h
      have ba := a.toNat_lt
      have bb := b.toNat_lt
      have bc := c.toNat_lt
      by_cases h0 : a.toNat * 65536 + b.toNat * 256 + c.toNat = 0
      · rw [if_pos h0] at h
        simp only [Option.some.injEq, Prod.mk.injEq] at h
        obtain ⟨rfl, rfl⟩ := h
        refine ⟨by simp, ?_⟩
        rw [show a = 0 from UInt8.toNat_inj.1 (by simp; omega), show b = 0 from UInt8.toNat_inj.1 (by simp; omega), show c = 0 from UInt8.toNat_inj.1 (by simp; omega)]
        rfl
      · rw [if_neg h0] at h
        split at h
        · rename_i hok
          cases e : txt t with
          | none => rw [e] at h; cases h
          | some p =>
            rw [e] at h
            simp only [Option.map_some, Option.some.injEq, Prod.mk.injEq] at h
            obtain ⟨rfl, rfl⟩ := h
            obtain ⟨k1, k2⟩ := txt_inv n t (by simp at hn; omega) p.1 p.2 e
            refine ⟨fun d hd => ?_, ?_⟩
            · rcases List.mem_cons.1 hd with rfl | hd
              · exact hok
              · exact k1 d hd
            · rw [List.flatMap_cons, List.append_assoc, ← k2]
              unfold r3
              have g : (((a.toNat * 65536 + b.toNat * 256 + c.toNat : Nat) : Int) - 1).toNat + 1 = a.toNat * 65536 + b.toNat * 256 + c.toNat := by omega
              rw [g, show UInt8.ofNat ((a.toNat * 65536 + b.toNat * 256 + c.toNat) / 65536) = a from UInt8.toNat_inj.1 (by simp only [UInt8.toNat_ofNat']; omega), show UInt8.ofNat ((a.toNat * 65536 + b.toNat * 256 + c.toNat) / 256) = b from UInt8.toNat_inj.1 (by simp only [UInt8.toNat_ofNat']; omega), show UInt8.ofNat (a.toNat * 65536 + b.toNat * 256 + c.toNat) = c from UInt8.toNat_inj.1 (by simp only [UInt8.toNat_ofNat']; omega)]
              rfl
        · cases h
/-! ### Eight bytes as a number -/
def beV : List UInt8 → Nat
  | [] => 0
  | a :: l => a.toNat * 256 ^ l.length + beV l
theorem beV_snoc (l : List UInt8) (c : UInt8) : beV (l ++ [c]) = beV l * 256 + c.toNat := by
  induction l with
  | nil => simp [beV]
  | cons a l ih =>
    rw [List.cons_append]
    unfold beV
    rw [ih, List.length_append, List.length_singleton, Nat.pow_succ, Nat.add_mul, Nat.mul_assoc, Nat.add_assoc]
theorem beV_lt (l : List UInt8) : beV l < 256 ^ l.length := by
  induction l with
  | nil => simp [beV]
  | cons a l ih =>
    unfold beV
    have := a.toNat_lt
    have h2 : (a.toNat + 1) * 256 ^ l.length ≤ 256 * 256 ^ l.length := Nat.mul_le_mul_right _ (by omega)
    rw [List.length_cons, Nat.pow_succ]
    rw [Nat.add_mul] at h2
    omega
theorem be8_beN (u : Nat) : be8 u = beN 8 u := rfl
theorem beV_be8 {u : Nat} (h : u < 18446744073709551616) : beV (be8 u) = u := by
  rw [be8_beN]
  simp only [beN, beV, List.length_cons, List.length_nil, UInt8.toNat_ofNat']
  omega
theorem be8_beV {l : List UInt8} (h : l.length = 8) : be8 (beV l) = l := by
  obtain ⟨a0, a1, a2, a3, a4, a5, a6, a7, rfl⟩ : ∃ a0 a1 a2 a3 a4 a5 a6 a7, l = [a0, a1, a2, a3, a4, a5, a6, a7] := by
    match l, h with
    | [a0, a1, a2, a3, a4, a5, a6, a7], _ => exact ⟨a0, a1, a2, a3, a4, a5, a6, a7, rfl⟩
  have b0 := a0.toNat_lt
  have b1 := a1.toNat_lt
  have b2 := a2.toNat_lt
  have b3 := a3.toNat_lt
  have b4 := a4.toNat_lt
  have b5 := a5.toNat_lt
  have b6 := a6.toNat_lt
  have b7 := a7.toNat_lt
  rw [be8_beN]
  simp only [beN, beV, List.length_cons, List.length_nil, List.cons.injEq, and_true]
  refine ⟨?_, ?_, ?_, ?_, ?_, ?_, ?_, ?_⟩ <;> exact UInt8.toNat_inj.1 (by simp only [UInt8.toNat_ofNat']; omega)
/-- The number that eight bytes keep. -/
def nu (u : Nat) : Int := (u : Int) - 9223372036854775808
theorem un_nu {u : Nat} (h : u < 18446744073709551616) : un (nu u) = u := by unfold un nu; omega
theorem nu_un {n : Int} (h : -9223372036854775808 ≤ n ∧ n ≤ 9223372036854775807) : nu (un n) = n := by unfold un nu; omega
theorem nu_is {u : Nat} (h : u < 18446744073709551616) : IntKind.i64.wrap (bitsOf .xor .u64 (u : Int) 9223372036854775808) = nu u := by
  have e : bitsOf .xor .u64 (u : Int) 9223372036854775808 = ((if u < 9223372036854775808 then u + 9223372036854775808 else u - 9223372036854775808 : Nat) : Int) := by
    show IntKind.u64.wrap ((BitVec.ofInt 64 (u : Int) ^^^ BitVec.ofInt 64 9223372036854775808).toNat : Nat) = _
    rw [BitVec.toNat_xor, BitVec.ofInt_natCast, BitVec.toNat_ofNat, Nat.mod_eq_of_lt (by omega), show (BitVec.ofInt 64 9223372036854775808).toNat = 9223372036854775808 by decide, xor_top h]
    split <;> rw [u64_id (by omega)]
  rw [e, IntKind.wrap_i64]
  unfold nu
  split <;> omega
theorem or8 {u c : Nat} (hu : u < 72057594037927936) (hc : c < 256) : bitsOf .or .u64 (shlI .u64 (u : Int) 8) (IntKind.u64.wrap (c : Int)) = ((u * 256 + c : Nat) : Int) := by
  have h1 : shlI .u64 (u : Int) 8 = ((u * 256 : Nat) : Int) := by
    unfold shlI
    rw [show min (8 : Int).toNat IntKind.u64.bits = 8 from rfl, u64_id (by omega)]; omega
  have h2 : (u <<< 8 ||| c) = u * 256 + c := by rw [← Nat.shiftLeft_add_eq_or_of_lt (by omega), Nat.shiftLeft_eq]
  rw [h1, u64_id (by omega)]
  show IntKind.u64.wrap ((BitVec.ofInt 64 ((u * 256 : Nat) : Int) ||| BitVec.ofInt 64 (c : Int)).toNat : Nat) = _
  rw [BitVec.ofInt_natCast, BitVec.ofInt_natCast, BitVec.toNat_or, BitVec.toNat_ofNat, BitVec.toNat_ofNat, Nat.mod_eq_of_lt (by omega), Nat.mod_eq_of_lt (by omega), show u * 256 = u <<< 8 by rw [Nat.shiftLeft_eq], h2, u64_id (by omega), Nat.shiftLeft_eq]
theorem or3 {a b c : Nat} (ha : a < 256) (hb : b < 256) (hc : c < 256) : bitsOf .or .i32 (bitsOf .or .i32 (shlI .i32 (IntKind.i32.wrap (a : Int)) 16) (shlI .i32 (IntKind.i32.wrap (b : Int)) 8)) (IntKind.i32.wrap (c : Int)) = ((a * 65536 + b * 256 + c : Nat) : Int) := by
  have h1 : shlI .i32 (a : Int) 16 = ((a * 65536 : Nat) : Int) := by
    unfold shlI
    rw [show min (16 : Int).toNat IntKind.i32.bits = 16 from rfl, i32_id (by omega)]; omega
  have h2 : shlI .i32 (b : Int) 8 = ((b * 256 : Nat) : Int) := by
    unfold shlI
    rw [show min (8 : Int).toNat IntKind.i32.bits = 8 from rfl, i32_id (by omega)]; omega
  have h3 : (a * 65536 ||| b * 256) = a * 65536 + b * 256 := by
    have : (a <<< 16 ||| b * 256) = a * 65536 + b * 256 := by rw [← Nat.shiftLeft_add_eq_or_of_lt (by omega), Nat.shiftLeft_eq]
    rwa [Nat.shiftLeft_eq] at this
  have h4 : (a * 65536 + b * 256 ||| c) = a * 65536 + b * 256 + c := by
    have : ((a * 256 + b) <<< 8 ||| c) = (a * 256 + b) * 256 + c := by rw [← Nat.shiftLeft_add_eq_or_of_lt (by omega), Nat.shiftLeft_eq]
    rw [Nat.shiftLeft_eq] at this
    rw [show a * 65536 + b * 256 = (a * 256 + b) * 2 ^ 8 by omega, this]
  have o1 : bitsOf .or .i32 ((a * 65536 : Nat) : Int) ((b * 256 : Nat) : Int) = ((a * 65536 + b * 256 : Nat) : Int) := by
    show IntKind.i32.wrap ((BitVec.ofInt 32 ((a * 65536 : Nat) : Int) ||| BitVec.ofInt 32 ((b * 256 : Nat) : Int)).toNat : Nat) = _
    rw [BitVec.ofInt_natCast, BitVec.ofInt_natCast, BitVec.toNat_or, BitVec.toNat_ofNat, BitVec.toNat_ofNat, Nat.mod_eq_of_lt (by omega), Nat.mod_eq_of_lt (by omega), h3, i32_id (by omega)]
  rw [i32_id (n := (a : Int)) (by omega), i32_id (n := (b : Int)) (by omega), i32_id (n := (c : Int)) (by omega), h1, h2, o1]
  show IntKind.i32.wrap ((BitVec.ofInt 32 ((a * 65536 + b * 256 : Nat) : Int) ||| BitVec.ofInt 32 (c : Int)).toNat : Nat) = _
  rw [BitVec.ofInt_natCast, BitVec.ofInt_natCast, BitVec.toNat_or, BitVec.toNat_ofNat, BitVec.toNat_ofNat, Nat.mod_eq_of_lt (by omega), Nat.mod_eq_of_lt (by omega), h4, i32_id (by omega)]
/-! ### One value; all of them -/
def oneL : List UInt8 → Option (Vl × List UInt8)
  | [] => none
  | t :: r =>
    if t.toNat = 1 then some ((0, 0, []), r)
    else if t.toNat = 4 then (match r with | c :: r' => if c.toNat ≤ 1 then some ((3, (c.toNat : Int), []), r') else none | [] => none)
    else if t.toNat = 2 then (if 8 ≤ r.length then some ((1, nu (beV (r.take 8)), []), r.drop 8) else none)
    else if t.toNat = 3 then (txt r).map fun p => ((2, 0, ofRunes p.1), p.2)
    else none
theorem oneL_cons (t : UInt8) (r : List UInt8) : oneL (t :: r) =
    (if t.toNat = 1 then some (((0, 0, []) : Vl), r)
    else if t.toNat = 4 then (match r with | c :: r' => if c.toNat ≤ 1 then some (((3, (c.toNat : Int), []) : Vl), r') else none | [] => none)
    else if t.toNat = 2 then (if 8 ≤ r.length then some (((1, nu (beV (r.take 8)), []) : Vl), r.drop 8) else none)
    else if t.toNat = 3 then (txt r).map fun p => (((2, 0, ofRunes p.1) : Vl), p.2)
    else none) := rfl
theorem txt_len {l r : List UInt8} {rs : List Int} (h : txt l = some (rs, r)) : l.length = 3 * rs.length + 3 + r.length := by
  obtain ⟨_, e⟩ := txt_inv _ l (Nat.lt_succ_self _) rs r h
  rw [e, List.length_append, flat3_length, List.length_append]; simp; omega
theorem oneL_lt {l r : List UInt8} {v : Vl} (h : oneL l = some (v, r)) : r.length < l.length := by
  match l, h with
  | [], h => cases h
  | t :: s, h =>
    rw [oneL_cons] at h
    split at h
    · simp only [Option.some.injEq, Prod.mk.injEq] at h; rw [← h.2]; simp
    split at h
    · match s, h with
      | [], h => cases h
      | c :: s', h =>
        simp only at h
        split at h
        · simp only [Option.some.injEq, Prod.mk.injEq] at h; rw [← h.2]; simp; omega
        · cases h
    split at h
    · split at h
      · simp only [Option.some.injEq, Prod.mk.injEq] at h; rw [← h.2]; simp; omega
      · cases h
    split at h
    · cases e : txt s with
      | none => rw [e] at h; cases h
      | some p =>
        rw [e] at h
        simp only [Option.map_some, Option.some.injEq, Prod.mk.injEq] at h
        have := txt_len (l := s) (r := p.2) (rs := p.1) e
        rw [← h.2]; simp; omega
    · cases h
def readL (l : List UInt8) : Option (List Vl) := if h : l = [] then some [] else match oneL l with
  | none => none
  | some (v, r) => if hlt : r.length < l.length then (readL r).map (v :: ·) else none
termination_by l.length
theorem readL_nil : readL [] = some [] := by rw [readL]; rfl
theorem readL_some {l r : List UInt8} {v : Vl} (h : oneL l = some (v, r)) : readL l = (readL r).map (v :: ·) := by
  have hne : l ≠ [] := by rintro rfl; cases h
  rw [readL, dif_neg hne, h]
  simp only
  rw [dif_pos (oneL_lt h)]
theorem readL_none {l : List UInt8} (hne : l ≠ []) (h : oneL l = none) : readL l = none := by rw [readL, dif_neg hne, h]
/-! ### What is written is read -/
theorem kind_of_right {v : Vl} (h : rightE v = 0) : v.1 = 0 ∨ v.1 = 1 ∨ v.1 = 2 ∨ v.1 = 3 := by
  unfold rightE at h
  by_cases h0 : v.1 = 0 <;> by_cases h1 : v.1 = 1 <;> by_cases h2 : v.1 = 2 <;> by_cases h3 : v.1 = 3 <;> simp_all
theorem kb0 (n : Int) (t : List UInt8) : kb (0, n, t) = [1] := rfl
theorem kb1 (n : Int) (t : List UInt8) : kb (1, n, t) = 2 :: be8 (un n) := rfl
theorem kb2 (n : Int) (t : List UInt8) : kb (2, n, t) = 3 :: ((runesOf t).flatMap r3 ++ [0, 0, 0]) := rfl
theorem kb3 (n : Int) (t : List UInt8) : kb (3, n, t) = [4, u8 (IntKind.u8.wrap n)] := rfl
theorem right0 {n : Int} {t : List UInt8} : rightE (0, n, t) = 0 ↔ n = 0 ∧ t = [] := by
  unfold rightE; by_cases h : n = 0 <;> by_cases h' : t = [] <;> simp [h, h']
theorem right1 {n : Int} {t : List UInt8} : rightE (1, n, t) = 0 ↔ t = [] := by
  unfold rightE; by_cases h' : t = [] <;> simp [h']
theorem right2 {n : Int} {t : List UInt8} : rightE (2, n, t) = 0 ↔ n = 0 ∧ validD t = true := by
  unfold rightE; by_cases h : n = 0 <;> by_cases h' : validD t = true <;> simp [h, h']
theorem right3 {n : Int} {t : List UInt8} : rightE (3, n, t) = 0 ↔ t = [] ∧ 0 ≤ n ∧ n ≤ 1 := by
  unfold rightE; by_cases h : t = [] <;> by_cases h' : 0 ≤ n <;> by_cases h'' : n ≤ 1 <;> simp [h, h', h'']
def In64 (n : Int) : Prop := -9223372036854775808 ≤ n ∧ n ≤ 9223372036854775807
theorem oneL_kb {v : Vl} (hr : rightE v = 0) (hn : In64 v.2.1) (r : List UInt8) : oneL (kb v ++ r) = some (v, r) := by
  have hk := kind_of_right hr
  obtain ⟨k, n, t⟩ := v
  simp only at hk
  rcases hk with rfl | rfl | rfl | rfl
  · obtain ⟨rfl, rfl⟩ := right0.1 hr
    rfl
  · obtain rfl := right1.1 hr
    have hl := be8_length (un n)
    rw [kb1, List.cons_append]
    rw [oneL_cons]
    rw [if_neg (by decide), if_neg (by decide), if_pos (by decide), if_pos (by rw [List.length_append]; omega), List.take_append_of_le_length (by omega), List.take_of_length_le (by omega), beV_be8 (un_lt hn), nu_un hn, List.drop_append_of_le_length (by omega), List.drop_of_length_le (by omega)]
    rfl
  · obtain ⟨rfl, hv⟩ := right2.1 hr
    rw [kb2, List.cons_append, List.append_assoc]
    rw [oneL_cons]
    rw [if_neg (by decide), if_neg (by decide), if_neg (by decide), if_pos (by decide), txt_runes (runesOf_ok t)]
    simp only [Option.map_some]
    rw [ofRunes_runesOf hv]
  · obtain ⟨rfl, h0, h1⟩ := right3.1 hr
    rw [kb3]
    have : n = 0 ∨ n = 1 := by omega
    rcases this with rfl | rfl <;> rfl
theorem oneL_inv {v : Vl} {l r : List UInt8} (h : oneL l = some (v, r)) : rightE v = 0 ∧ In64 v.2.1 ∧ l = kb v ++ r := by
  match l, h with
  | [], h => cases h
  | t :: s, h =>
    rw [oneL_cons] at h
    split at h
    · rename_i ht
      simp only [Option.some.injEq, Prod.mk.injEq] at h
      obtain ⟨rfl, rfl⟩ := h
      rw [show t = 1 from UInt8.toNat_inj.1 ht]
      exact ⟨rfl, by constructor <;> decide, rfl⟩
    split at h
    · rename_i ht
      match s, h with
      | [], h => cases h
      | c :: s', h =>
        simp only at h
        split at h
        · rename_i hc
          simp only [Option.some.injEq, Prod.mk.injEq] at h
          obtain ⟨rfl, rfl⟩ := h
          rw [show t = 4 from UInt8.toNat_inj.1 ht]
          refine ⟨right3.2 ⟨rfl, by omega, by omega⟩, by constructor <;> (simp only; omega), ?_⟩
          rw [kb3, u8_mod, UInt8.ofNat_toNat]; rfl
        · cases h
    split at h
    · rename_i ht
      split at h
      · rename_i h8
        simp only [Option.some.injEq, Prod.mk.injEq] at h
        obtain ⟨rfl, rfl⟩ := h
        have h2 : (s.take 8).length = 8 := by rw [List.length_take]; omega
        have hlt := beV_lt (s.take 8)
        rw [h2] at hlt
        have e : (256 : Nat) ^ 8 = 18446744073709551616 := by decide
        rw [e] at hlt
        rw [show t = 2 from UInt8.toNat_inj.1 ht]
        refine ⟨right1.2 rfl, by unfold In64 nu; simp only; omega, ?_⟩
        rw [kb1, un_nu hlt, be8_beV h2, List.cons_append, List.take_append_drop]
      · cases h
    split at h
    · rename_i ht
      cases e : txt s with
      | none => rw [e] at h; cases h
      | some p =>
        rw [e] at h
        simp only [Option.map_some, Option.some.injEq, Prod.mk.injEq] at h
        obtain ⟨rfl, rfl⟩ := h
        obtain ⟨k1, k2⟩ := txt_inv _ s (Nat.lt_succ_self _) p.1 p.2 e
        rw [show t = 3 from UInt8.toNat_inj.1 ht]
        refine ⟨right2.2 ⟨rfl, valid_ofRunes k1⟩, show In64 (0 : Int) from ⟨by decide, by decide⟩, ?_⟩
        rw [kb2, runesOf_ofRunes k1, List.cons_append, List.append_assoc, ← k2]
    · cases h
theorem kb_ne (v : Vl) : kb v ≠ [] := by
  unfold kb
  repeat' split
  all_goals simp
theorem readL_kb : ∀ l : List Vl, (∀ v ∈ l, rightE v = 0 ∧ In64 v.2.1) → readL (l.flatMap kb) = some l
  | [], _ => readL_nil
  | v :: l, h => by
    rw [List.flatMap_cons, readL_some (oneL_kb (h v (by simp)).1 (h v (by simp)).2 _), readL_kb l (fun x hx => h x (by simp [hx]))]; rfl
theorem readL_inv : ∀ n (b : List UInt8), b.length < n → ∀ l, readL b = some l → (∀ v ∈ l, rightE v = 0 ∧ In64 v.2.1) ∧ b = l.flatMap kb
  | 0, b, h, _, _ => by omega
  | n + 1, b, hn, l, h => by
    by_cases hne : b = []
    · rw [hne, readL_nil] at h
      cases h
      exact ⟨by simp, hne⟩
    · cases e : oneL b with
      | none => rw [readL_none hne e] at h; cases h
      | some p =>
        obtain ⟨v, r⟩ := p
        rw [readL_some e] at h
        cases e2 : readL r with
        | none => rw [e2] at h; cases h
        | some l' =>
          rw [e2] at h
          simp only [Option.map_some, Option.some.injEq] at h
          obtain ⟨k1, k2⟩ := readL_inv n r (by have := oneL_lt e; omega) l' e2
          obtain ⟨m1, m2, m3⟩ := oneL_inv e
          subst h
          refine ⟨fun x hx => ?_, ?_⟩
          · rcases List.mem_cons.1 hx with rfl | hx
            · exact ⟨m1, m2⟩
            · exact k1 x hx
          · rw [List.flatMap_cons, ← k2]; exact m3
end Go.Proofs.YtdojooblfemmnaaDoor
