/- Layer 2: a value's bytes, in plain terms. -/
import Derived.Test.YtdojooblfemmnaaDoorPlain
set_option linter.unusedVariables false
set_option linter.unusedSimpArgs false
namespace Go.Proofs.YtdojooblfemmnaaDoor
open Go Go.RowKit Go.Lib
theorem xor_top {x : Nat} (h : x < 18446744073709551616) : x ^^^ 9223372036854775808 = if x < 9223372036854775808 then x + 9223372036854775808 else x - 9223372036854775808 := by
  have h1 : (x ^^^ 9223372036854775808) % 2 ^ 63 = x % 2 ^ 63 := by rw [Nat.xor_mod_two_pow]; simp
  have h2 : (x ^^^ 9223372036854775808) / 2 ^ 63 = (x / 2 ^ 63) ^^^ 1 := by rw [Nat.xor_div_two_pow]
  have h3 := Nat.div_add_mod (x ^^^ 9223372036854775808) (2 ^ 63)
  have h4 := Nat.div_add_mod x (2 ^ 63)
  rw [h1, h2] at h3
  have e : (2 : Nat) ^ 63 = 9223372036854775808 := by decide
  rw [e] at h3 h4
  split
  · have : x / 9223372036854775808 = 0 := by omega
    rw [this] at h3 h4
    simp only [Nat.zero_xor] at h3
    omega
  · have : x / 9223372036854775808 = 1 := by omega
    rw [this] at h3 h4
    simp only [Nat.xor_self] at h3
    omega
/-- A number as eight bytes keep it. -/
def un (n : Int) : Nat := (n + 9223372036854775808).toNat
theorem xor63 {n : Int} (h : -9223372036854775808 ≤ n ∧ n ≤ 9223372036854775807) : bitsOf .xor .u64 (IntKind.u64.wrap n) 9223372036854775808 = (un n : Int) := by
  obtain ⟨x, hx, hx2⟩ : ∃ x : Nat, IntKind.u64.wrap n = (x : Int) ∧ x < 18446744073709551616 := ⟨(n % 18446744073709551616).toNat, by rw [u64_wrap]; omega, by omega⟩
  rw [hx]
  show IntKind.u64.wrap ((BitVec.ofInt 64 (x : Int) ^^^ BitVec.ofInt 64 9223372036854775808).toNat : Nat) = _
  rw [BitVec.toNat_xor, BitVec.ofInt_natCast, BitVec.toNat_ofNat, Nat.mod_eq_of_lt (by omega), show (BitVec.ofInt 64 9223372036854775808).toNat = 9223372036854775808 by decide, xor_top hx2]
  rw [u64_wrap] at hx
  unfold un
  split <;> (rw [u64_id (by omega)]; omega)
theorem un_lt {n : Int} (h : -9223372036854775808 ≤ n ∧ n ≤ 9223372036854775807) : un n < 18446744073709551616 := by unfold un; omega
/-- Eight bytes, the highest first. -/
def be8 (u : Nat) : List UInt8 := (List.range 8).map fun k => UInt8.ofNat (u / 256 ^ (7 - k))
/-- A rune's three bytes. -/
def r3 (c : Int) : List UInt8 := [UInt8.ofNat ((c.toNat + 1) / 65536), UInt8.ofNat ((c.toNat + 1) / 256), UInt8.ofNat (c.toNat + 1)]
/-- A Right value's bytes. -/
def kb (v : Vl) : List UInt8 :=
  if v.1 = 0 then [1] else if v.1 = 1 then 2 :: be8 (un v.2.1) else if v.1 = 2 then 3 :: ((runesOf v.2.2).flatMap r3 ++ [0, 0, 0]) else [4, u8 (IntKind.u8.wrap v.2.1)]
/-- What a list's bytes are, or what is wrong with it. -/
def keyL : List Vl → List UInt8 × Int
  | [] => ([], 0)
  | v :: l => if rightE v = 0 then (if (keyL l).2 = 0 then (kb v ++ (keyL l).1, 0) else ([], (keyL l).2)) else ([], rightE v)
theorem u64_shr (u k : Nat) (h : k ≤ 64) : shrI .u64 (u : Int) (k : Int) = ((u >>> k : Nat) : Int) := by
  rw [shr_nat .u64 u (by simpa [IntKind.bits] using h)]; simp
theorem u8_mod (x : Nat) : u8 (IntKind.u8.wrap (x : Int)) = UInt8.ofNat x := by
  rw [IntKind.wrap_u8]
  unfold u8
  have : ((x : Int) % 256).toNat = x % 256 := by omega
  rw [this]
  exact UInt8.toNat_inj.1 (by simp [UInt8.toNat_ofNat'])
theorem fill_set0 {α : Type} (u : List α) (z : α) {i : Nat} (h : i < u.length) : (u.take i ++ List.replicate (u.length - i) z).set i u[i] = u.take (i + 1) ++ List.replicate (u.length - (i + 1)) z := by
  rw [List.set_append_right _ _ (by simp; omega), show i - (u.take i).length = 0 by simp; omega, show u.length - i = (u.length - (i + 1)) + 1 by omega, List.replicate_succ, List.set_cons_zero, ← List.take_append_getElem h, List.append_assoc]
  rfl
theorem fill_setN {α : Type} (u : List α) (z : α) {i : Nat} (h : i < u.length) {n : Nat} (hn : u.length = n) : (u.take i ++ List.replicate (n - i) z).set i u[i] = u.take (i + 1) ++ List.replicate (n - (i + 1)) z := by
  subst hn
  exact fill_set0 u z h
theorem be8_length (u : Nat) : (be8 u).length = 8 := by simp [be8]
theorem eight_is (u : Nat) : keys_eight.impl (u : Int) = some (be8 u) := by
  unfold keys_eight.impl
  rw [chk_pos (by omega)]
  have hl := be8_length u
  have := loop_up (step := keys_eight.st1 (u : Int)) (r := be8 u) (fun i => ((be8 u).take i ++ List.replicate (8 - i) (0 : UInt8), (i : Int))) 8 (fun i hi => by
    have w1 : IntKind.i64.wrap (8 * (i : Int)) = ((8 * i : Nat) : Int) := by rw [i64_id (by omega)]; omega
    have w2 : IntKind.i64.wrap (56 - ((8 * i : Nat) : Int)) = ((56 - 8 * i : Nat) : Int) := by rw [i64_id (by omega)]; omega
    have w3 : IntKind.i64.wrap ((i : Int) + 1) = ((i + 1 : Nat) : Int) := by rw [i64_id (by omega)]; omega
    have hp : u >>> (56 - 8 * i) = u / 256 ^ (7 - i) := by rw [Nat.shiftRight_eq_div_pow, show 56 - 8 * i = 8 * (7 - i) by omega, Nat.pow_mul]
    have hg : (be8 u)[i]'(by omega) = UInt8.ofNat (u / 256 ^ (7 - i)) := by simp [be8]
    unfold keys_eight.st1
    simp only [w1, w2, w3, u64_shr u (56 - 8 * i) (by omega), hp, u8_mod, Int.toNat_natCast]
    rw [ite_dt (by simp; omega), chk_pos (by omega), chk_pos (by simp; omega), ← hg]
    rw [fill_setN (be8 u) (0 : UInt8) (i := i) (by omega) hl]) (by
    unfold keys_eight.st1
    rw [ite_df (by simp), List.take_of_length_le (by omega)]
    simp)
  simp only [List.take_zero, List.nil_append, Nat.sub_zero] at this
  erw [this]
  rfl
theorem i32_shr (c k : Nat) (h : k ≤ 32) : shrI .i32 (c : Int) (k : Int) = ((c >>> k : Nat) : Int) := shr_i32 c k h
/-- The three bytes, as the program makes them. -/
theorem three (c : Int) (h : 0 ≤ c ∧ c ≤ 1114111) : [(u8 (IntKind.u8.wrap (shrI .i32 (IntKind.i32.wrap (c + 1)) 16))), (u8 (IntKind.u8.wrap (shrI .i32 (IntKind.i32.wrap (c + 1)) 8))), (u8 (IntKind.u8.wrap (IntKind.i32.wrap (c + 1))))] = r3 c := by
  obtain ⟨n, rfl⟩ : ∃ n : Nat, c = (n : Int) := ⟨c.toNat, by omega⟩
  have w : IntKind.i32.wrap ((n : Int) + 1) = ((n + 1 : Nat) : Int) := by rw [i32_id (by omega)]; omega
  have s16 : shrI .i32 ((n + 1 : Nat) : Int) 16 = (((n + 1) / 65536 : Nat) : Int) := (shr_i32 (n + 1) 16 (by decide)).trans (by rw [Nat.shiftRight_eq_div_pow])
  have s8 : shrI .i32 ((n + 1 : Nat) : Int) 8 = (((n + 1) / 256 : Nat) : Int) := (shr_i32 (n + 1) 8 (by decide)).trans (by rw [Nat.shiftRight_eq_div_pow])
  rw [w, s16, s8, u8_mod, u8_mod, u8_mod]
  unfold r3
  rw [Int.toNat_natCast]
theorem foldl_flat {f : Int → List UInt8} : ∀ (rs : List Int) (acc : List UInt8), rs.foldl (fun a c => a ++ f c) acc = acc ++ rs.flatMap f
  | [], acc => by simp
  | r :: rs, acc => by rw [List.foldl_cons, foldl_flat rs]; simp
theorem r3_length (c : Int) : (r3 c).length = 3 := rfl
theorem flat3_length (rs : List Int) : (rs.flatMap r3).length = 3 * rs.length := by
  induction rs with
  | nil => rfl
  | cons r rs ih => rw [List.flatMap_cons, List.length_append, ih, r3_length, List.length_cons]; omega
theorem runes_is {l : List UInt8} (hl : l.length ≤ 4194304) : keys_runes.impl l = some ((runesOf l).flatMap r3 ++ [0, 0, 0]) := by
  unfold keys_runes.impl
  have := loop_runes (step := keys_runes.st1 l) (l := l) (f := fun a c => a ++ r3 c) (Q := fun a p => a.length ≤ 3 * p) (last := fun a => a) (fun a p h hp => by
      have hw := decodeL_width (l.drop p)
      have hr := decodeL_rune (l.drop p)
      rw [← runeAt_drop] at hw hr
      refine ⟨by rw [List.length_append, r3_length]; omega, ?_⟩
      unfold keys_runes.st1
      simp only
      rw [three _ ⟨by omega, by omega⟩, r3_length, ite_dt hp, chk_pos (by omega)]) (fun a p h hp => by
      unfold keys_runes.st1
      rw [ite_df hp]) [] (by simp)
  rw [this, foldl_flat]
  simp only [Option.bind_some, List.nil_append]
  unfold keys_runes.k1
  have h1 := flat3_length (runesOf l)
  have h2 := runesOf_le l
  rw [chk_pos (by rw [h1]; simp; omega)]
/-- A value that came in: a number of its kind, a text that is not too long. -/
def Fits (v : Vl) : Prop := (-9223372036854775808 ≤ v.2.1 ∧ v.2.1 ≤ 9223372036854775807) ∧ v.2.2.length ≤ 4194304
theorem kb_length {v : Vl} (h : Fits v) : (kb v).length ≤ 16777216 := by
  unfold kb
  have h1 := flat3_length (runesOf v.2.2)
  have h2 := runesOf_le v.2.2
  have h3 := h.2
  repeat' split
  · simp
  · rw [List.length_cons, be8_length]; omega
  · rw [List.length_cons, List.length_append, h1]; simp; omega
  · simp
/-- One value more. -/
theorem key_round {l : List Vl} {acc : List UInt8} {i : Nat} {v : Vl} (hi : i < l.length) (hl : l.length ≤ 4194304) (hv : l.getD i default = v) (hf : Fits v) (ha : acc.length ≤ 105553116266496) :
    keys_Key.st1 l (acc, (i : Int)) = if rightE v = 0 then some (.inl (acc ++ kb v, ((i + 1 : Nat) : Int))) else some (.inr (.inl ([], rightE v))) := by
  have w : IntKind.i64.wrap ((i : Int) + 1) = ((i + 1 : Nat) : Int) := by rw [i64_id (by omega)]; omega
  have hr := Right_is (v := v) hf.2
  obtain ⟨k, n, t⟩ := v
  unfold keys_Key.st1
  simp only [Int.toNat_natCast, hv, hr, Option.bind_some]
  rw [ite_dt (by omega), chk_pos (by omega)]
  by_cases hz : rightE (k, n, t) = 0
  · rw [if_pos hz, hz, ite_nt (by trivial)]
    have hk : k = 0 ∨ k = 1 ∨ k = 2 ∨ k = 3 := by
      unfold rightE at hz
      simp only at hz
      by_cases h0 : k = 0 <;> by_cases h1 : k = 1 <;> by_cases h2 : k = 2 <;> by_cases h3 : k = 3 <;> simp_all
    unfold keys_inside.impl
    simp only
    rcases hk with rfl | rfl | rfl | rfl
    · simp [Dy.isUnit, Dy.isBool, Dy.isInt, Dy.isStr, keys_Key.k2, keys_Key.k3, keys_Key.k4, kb, w]
      rw [chk_pos (by omega)]
    · have hx := xor63 hf.1
      simp only at hx
      simp [Dy.isUnit, Dy.isBool, Dy.isInt, Dy.isStr, Dy.asInt, keys_Key.k2, keys_Key.k3, keys_Key.k4, kb, w, hx, eight_is, be8_length]
      rw [chk_pos (by omega), chk_pos (by omega)]
    · have h1 := flat3_length (runesOf t)
      have h2 := runesOf_le t
      have h3 : t.length ≤ 4194304 := hf.2
      simp [Dy.isUnit, Dy.isBool, Dy.isInt, Dy.isStr, Dy.asStr, keys_Key.k2, keys_Key.k3, keys_Key.k4, kb, w, runes_is h3, h1]
      rw [chk_pos (by omega), chk_pos (by omega)]
    · have hv' : l[i]?.getD default = (3, n, t) := by rw [← List.getD_eq_getElem?_getD]; exact hv
      simp [Dy.isUnit, Dy.isBool, Dy.isInt, Dy.isStr, keys_Key.k2, keys_Key.k3, keys_Key.k4, kb, w, hv']
      rw [chk_pos (by omega)]
  · rw [if_neg hz, ite_nf hz]
theorem keyL_cons (v : Vl) (l : List Vl) : keyL (v :: l) = if rightE v = 0 then (if (keyL l).2 = 0 then (kb v ++ (keyL l).1, 0) else ([], (keyL l).2)) else ([], rightE v) := rfl
theorem keyL_bad {l : List Vl} (h : (keyL l).2 ≠ 0) : (keyL l).1 = [] := by
  induction l with
  | nil => simp [keyL] at h
  | cons v l ih =>
    unfold keyL at h ⊢
    repeat' split at h
    all_goals simp_all
theorem Key_is {l : List Vl} (hl : l.length ≤ 4194304) (hf : ∀ v ∈ l, Fits v) : keys_Key.impl l = some (keyL l) := by
  unfold keys_Key.impl
  have key : ∀ n (acc : List UInt8) (i : Nat), l.length - i < n → i ≤ l.length → acc.length ≤ 16777216 * i → ∃ r, loop (keys_Key.st1 l) (acc, (i : Int)) = some r ∧ (match r with | .inl v => some v | .inr v => keys_Key.k1 v) = some (if (keyL (l.drop i)).2 = 0 then (acc ++ (keyL (l.drop i)).1, 0) else ([], (keyL (l.drop i)).2)) := by
    intro n
    induction n with
    | zero => intro acc i h; omega
    | succ n ih =>
      intro acc i h hi ha
      by_cases hlt : i < l.length
      · have hm : l[i] ∈ l := List.getElem_mem hlt
        have st := key_round (acc := acc) (v := l[i]) hlt hl (by rw [List.getD_eq_getElem?_getD, List.getElem?_eq_getElem hlt]; rfl) (hf _ hm) (by omega)
        rw [List.drop_eq_getElem_cons hlt]
        have hk := kb_length (hf _ hm)
        by_cases hz : rightE l[i] = 0
        · rw [if_pos hz] at st
          obtain ⟨r, h1, h2⟩ := ih (acc ++ kb l[i]) (i + 1) (by omega) (by omega) (by rw [List.length_append]; omega)
          refine ⟨r, by rw [loop_more st]; exact h1, ?_⟩
          rw [h2, keyL_cons, if_pos hz]
          by_cases hz2 : (keyL (l.drop (i + 1))).2 = 0
          · rw [if_pos hz2, if_pos hz2, if_pos rfl]; simp
          · rw [if_neg hz2, if_neg hz2, if_neg hz2]
        · rw [if_neg hz] at st
          refine ⟨_, loop_last st, ?_⟩
          rw [keyL_cons, if_neg hz]
          simp only
          rw [if_neg hz]
      · refine ⟨Sum.inr acc, loop_last ?_, ?_⟩
        · unfold keys_Key.st1
          rw [ite_df (by simp only; omega)]
        · rw [List.drop_of_length_le (by omega)]; simp [keyL, keys_Key.k1]
  obtain ⟨r, h1, h2⟩ := key _ [] 0 (Nat.lt_succ_self _) (Nat.zero_le _) (by simp)
  erw [h1]
  refine h2.trans ?_
  rw [List.drop_zero]
  by_cases hz : (keyL l).2 = 0
  · rw [if_pos hz, List.nil_append, ← hz]
  · rw [if_neg hz, ← keyL_bad hz]
end Go.Proofs.YtdojooblfemmnaaDoor
