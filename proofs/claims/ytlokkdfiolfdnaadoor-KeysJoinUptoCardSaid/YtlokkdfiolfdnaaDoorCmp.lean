/- Layer 2: the order of values, in plain terms. -/
import Derived.Test.YtlokkdfiolfdnaaDoorReadR
set_option linter.unusedVariables false
set_option linter.unusedSimpArgs false
namespace Go.Proofs.YtlokkdfiolfdnaaDoor
open Go Go.RowKit Go.Lib
theorem lexB_vals : ∀ l m : List UInt8, lexB l m = -1 ∨ lexB l m = 0 ∨ lexB l m = 1
  | [], [] => .inr (.inl rfl)
  | [], _ :: _ => .inl rfl
  | _ :: _, [] => .inr (.inr rfl)
  | a :: l, b :: m => by
    rw [lexB_cons]
    split
    · exact lexB_vals l m
    · exact cmpZ_vals _ _
theorem cmpInt_is (a b : Int) : cmp_Compare_int_.impl a b = some (cmpZ a b) := by
  unfold cmp_Compare_int_.impl cmp_isNaN_int_.impl cmpZ
  simp only [decide_true, Bool.not_true, Option.bind_some, Bool.false_eq_true, if_false]
  by_cases h : a < b
  · simp [h]
  · by_cases h' : b < a <;> simp [h, h']
theorem sign_is (a b : Int) : ref2_sign.impl a b = some (cmpZ a b) := by
  unfold ref2_sign.impl cmpZ
  by_cases h : a < b
  · simp [h]
  · by_cases h' : b < a <;> simp [h, h']
theorem cmpStr_is (l m : List UInt8) : cmp_Compare_string_.impl l m = some (lexB l m) := by
  unfold cmp_Compare_string_.impl cmp_isNaN_string_.impl
  simp only [decide_true, Bool.not_true, Option.bind_some, Bool.false_eq_true, if_false, lexB_less]
  rcases lexB_vals l m with h | h | h
  · rw [ite_dt (by omega), h]
  · rw [ite_df (by omega), h]
    have := lexB_zero h
    simp [this]
  · rw [ite_df (by omega), h]
    have hne : l ≠ m := fun e => by rw [e, lexB_self] at h; omega
    simp [hne]
/-- Two values held against each other. -/
def heldP (v w : Vl) : Int := if v.1 = w.1 then (if v.1 = 2 then lexB v.2.2 w.2.2 else cmpZ v.2.1 w.2.1) else cmpZ v.1 w.1
theorem inside_is (v : Vl) : keys_inside.impl v = some (if v.1 = 3 then Dy.bool (!decide (v.2.1 = 0)) else if v.1 = 1 then Dy.int v.2.1 else if v.1 = 2 then Dy.str v.2.2 else Dy.unit) := by
  unfold keys_inside.impl
  by_cases h3 : v.1 = 3
  · rw [ite_dt h3, if_pos h3]
  rw [ite_df h3, if_neg h3]
  by_cases h1 : v.1 = 1
  · rw [ite_dt h1, if_pos h1]
  rw [ite_df h1, if_neg h1]
  by_cases h2 : v.1 = 2
  · rw [ite_dt h2, if_pos h2]
  · rw [ite_df h2, if_neg h2]
theorem held_is (v w : Vl) : keys_held.impl v w = some (heldP v w) := by
  obtain ⟨k, n, s⟩ := v
  obtain ⟨k', n', s'⟩ := w
  unfold keys_held.impl heldP
  simp only [cmpInt_is, cmpStr_is, inside_is, Option.bind_some]
  by_cases h : k = k'
  · subst h
    rw [ite_nt rfl, if_pos rfl]
    by_cases h2 : k = 2
    · subst h2; simp [Dy.isStr, Dy.asStr]
    · rw [if_neg h2]
      by_cases h3 : k = 3
      · subst h3; simp [Dy.isStr]
      by_cases h1 : k = 1
      · subst h1; simp [Dy.isStr]
      · simp [h3, h1, h2, Dy.isStr]
  · rw [ite_nf h, if_neg h]
/-- A loop that holds two lists against each other. -/
theorem loop_lex {α : Type} [Inhabited α] {c : α → α → Int} {l m : List α} {step : Int → Option (Int ⊕ (Int ⊕ Unit))}
    (hs : ∀ i : Nat, i < l.length → i < m.length → step (i : Int) = if c (l.getD i default) (m.getD i default) = 0 then some (.inl ((i + 1 : Nat) : Int)) else some (.inr (.inl (c (l.getD i default) (m.getD i default)))))
    (he : ∀ i : Nat, i ≤ l.length → i ≤ m.length → ¬ (i < l.length ∧ i < m.length) → step (i : Int) = some (.inr (.inr ()))) :
    loop step 0 = some (.inl (lexBy c l m)) ∨ (loop step 0 = some (.inr ()) ∧ lexBy c l m = cmpZ (l.length : Int) (m.length : Int)) := by
  have key : ∀ n (i : Nat), l.length - i < n → i ≤ l.length → i ≤ m.length → loop step (i : Int) = some (.inl (lexBy c (l.drop i) (m.drop i))) ∨ (loop step (i : Int) = some (.inr ()) ∧ lexBy c (l.drop i) (m.drop i) = cmpZ (l.length : Int) (m.length : Int)) := by
    intro n
    induction n with
    | zero => intro i h; omega
    | succ n ih =>
      intro i h hl hm
      by_cases hb : i < l.length ∧ i < m.length
      · have e1 : l.drop i = l.getD i default :: l.drop (i + 1) := by rw [List.drop_eq_getElem_cons hb.1, getD_el hb.1]
        have e2 : m.drop i = m.getD i default :: m.drop (i + 1) := by rw [List.drop_eq_getElem_cons hb.2, getD_el hb.2]
        have st := hs i hb.1 hb.2
        rw [e1, e2]
        unfold lexBy
        by_cases g : c (l.getD i default) (m.getD i default) = 0
        · rw [if_pos g] at st ⊢
          rw [loop_more st]
          exact ih (i + 1) (by omega) (by omega) (by omega)
        · rw [if_neg g] at st ⊢
          exact .inl (loop_last st)
      · refine .inr ⟨loop_last (he i hl hm hb), ?_⟩
        by_cases g : i < l.length
        · have e2 : m.drop i = [] := List.drop_of_length_le (by omega)
          rw [e2, List.drop_eq_getElem_cons g, cmpZ_gt (by omega)]; rfl
        · have e1 : l.drop i = [] := List.drop_of_length_le (by omega)
          rw [e1]
          by_cases g2 : i < m.length
          · rw [List.drop_eq_getElem_cons g2, cmpZ_lt (by omega)]; rfl
          · rw [List.drop_of_length_le (by omega), show (l.length : Int) = (m.length : Int) by omega, cmpZ_self]; rfl
  have := key _ 0 (Nat.lt_succ_self _) (Nat.zero_le _) (Nat.zero_le _)
  simpa using this
theorem Compare_is {l m : List Vl} (hl : l.length ≤ 4194304) (hm : m.length ≤ 4194304) : keys_Compare.impl l m = some (lexBy heldP l m) := by
  unfold keys_Compare.impl
  have := loop_lex (c := heldP) (l := l) (m := m) (step := keys_Compare.st1 l m) (fun i h1 h2 => by
    have w : IntKind.i64.wrap ((i : Int) + 1) = ((i + 1 : Nat) : Int) := by rw [i64_id (by omega)]; omega
    unfold keys_Compare.st1
    simp only [Int.toNat_natCast, held_is, Option.bind_some, w]
    rw [ite_dt (by omega), chk_pos (by omega), chk_pos (by omega)]
    by_cases g : heldP (l.getD i default) (m.getD i default) = 0
    · rw [ite_nt g, if_pos g]
    · rw [ite_nf g, if_neg g]) (fun i h1 h2 h3 => by
    unfold keys_Compare.st1
    rw [ite_df (by omega)])
  rcases this with h | ⟨h, e⟩
  · erw [h]; rfl
  · erw [h]
    simp only [Option.bind_some, keys_Compare.k1, cmpInt_is]
    rw [e]
/-! ### Runes and their bytes keep one order -/
theorem cmpU_b {p q : Nat} (hp : p < 256) (hq : q < 256) : cmpU (UInt8.ofNat p) (UInt8.ofNat q) = cmpZ (p : Int) (q : Int) := by rw [cmpU_of, Nat.mod_eq_of_lt hp, Nat.mod_eq_of_lt hq]
theorem lexB_b {p q : Nat} (hp : p < 256) (hq : q < 256) (l m : List UInt8) : lexB (UInt8.ofNat p :: l) (UInt8.ofNat q :: m) = if p = q then lexB l m else if p < q then -1 else 1 := by
  rw [lexB_cons, cmpU_b hp hq]
  by_cases h : p = q
  · rw [if_pos h, if_pos (by rw [h]; exact cmpZ_self _)]
  · rw [if_neg h, if_neg (fun g => h (by have := cmpZ_zero.1 g; omega))]
    by_cases g : p < q
    · rw [if_pos g, cmpZ_lt (by omega)]
    · rw [if_neg g, cmpZ_gt (by omega)]
theorem cmpZ_nat (a b : Nat) : cmpZ (a : Int) (b : Int) = if a = b then 0 else if a < b then -1 else 1 := by
  by_cases h : a = b
  · rw [h, cmpZ_self, if_pos rfl]
  · rw [if_neg h]
    by_cases g : a < b
    · rw [if_pos g, cmpZ_lt (by omega)]
    · rw [if_neg g, cmpZ_gt (by omega)]
theorem ord_same {a b : Nat} {X : Int} {E : Int} (h1 : a = b → E = X) (h2 : a < b → E = -1) (h3 : b < a → E = 1) : E = if cmpZ (a : Int) (b : Int) = 0 then X else cmpZ (a : Int) (b : Int) := by
  rcases Nat.lt_trichotomy a b with h | h | h
  · rw [cmpZ_lt (by omega), if_neg (by omega)]; exact h2 h
  · subst h; rw [cmpZ_self, if_pos rfl]; exact h1 rfl
  · rw [cmpZ_gt (by omega), if_neg (by omega)]; exact h3 h
inductive Enc (a : Nat) : List UInt8 → Prop
  | e1 (h : a < 128) : Enc a [UInt8.ofNat a]
  | e2 (h0 : 128 ≤ a) (h : a < 2048) : Enc a [UInt8.ofNat (192 + a / 64), UInt8.ofNat (128 + a % 64)]
  | e3 (h0 : 2048 ≤ a) (h : a < 65536) : Enc a [UInt8.ofNat (224 + a / 4096), UInt8.ofNat (128 + a / 64 % 64), UInt8.ofNat (128 + a % 64)]
  | e4 (h0 : 65536 ≤ a) (h : a ≤ 1114111) : Enc a [UInt8.ofNat (240 + a / 262144), UInt8.ofNat (128 + a / 4096 % 64), UInt8.ofNat (128 + a / 64 % 64), UInt8.ofNat (128 + a % 64)]
theorem enc_of {a : Nat} (h : a ≤ 1114111) (hs : a < 55296 ∨ 57344 ≤ a) : Enc a (encodeRune (a : Int)) := by
  by_cases h1 : a < 128
  · rw [encode1 h1]; exact .e1 h1
  by_cases h2 : a < 2048
  · rw [encode2 h1 h2]; exact .e2 (by omega) h2
  by_cases h3 : a < 65536
  · rw [encode3 h2 h3 hs]; exact .e3 (by omega) h3
  · rw [encode4 h3 h]; exact .e4 (by omega) h
set_option maxHeartbeats 2000000 in
theorem enc_ord {a b : Nat} {s t : List UInt8} (ha : Enc a s) (hb : Enc b t) (x y : List UInt8) : lexB (s ++ x) (t ++ y) = if cmpZ (a : Int) (b : Int) = 0 then lexB x y else cmpZ (a : Int) (b : Int) := by
  refine ord_same ?_ ?_ ?_
  · rintro rfl
    cases ha <;> cases hb <;> first | (exfalso; omega) | exact lexB_left _ _ _
  · intro h
    cases ha <;> cases hb <;> simp only [List.cons_append, List.nil_append] <;> rw [lexB_b (by omega) (by omega)] <;> first | (rw [if_neg (by omega), if_pos (by omega)]; done) | (exfalso; omega) | skip
    · by_cases g : 192 + a / 64 = 192 + b / 64
      · rw [if_pos g, lexB_b (by omega) (by omega), if_neg (by omega), if_pos (by omega)]
      · rw [if_neg g, if_pos (by omega)]
    · by_cases g : 224 + a / 4096 = 224 + b / 4096
      · rw [if_pos g, lexB_b (by omega) (by omega)]
        by_cases g2 : 128 + a / 64 % 64 = 128 + b / 64 % 64
        · rw [if_pos g2, lexB_b (by omega) (by omega), if_neg (by omega), if_pos (by omega)]
        · rw [if_neg g2, if_pos (by omega)]
      · rw [if_neg g, if_pos (by omega)]
    · by_cases g : 240 + a / 262144 = 240 + b / 262144
      · rw [if_pos g, lexB_b (by omega) (by omega)]
        by_cases g2 : 128 + a / 4096 % 64 = 128 + b / 4096 % 64
        · rw [if_pos g2, lexB_b (by omega) (by omega)]
          by_cases g3 : 128 + a / 64 % 64 = 128 + b / 64 % 64
          · rw [if_pos g3, lexB_b (by omega) (by omega), if_neg (by omega), if_pos (by omega)]
          · rw [if_neg g3, if_pos (by omega)]
        · rw [if_neg g2, if_pos (by omega)]
      · rw [if_neg g, if_pos (by omega)]
  · intro h
    cases ha <;> cases hb <;> simp only [List.cons_append, List.nil_append] <;> rw [lexB_b (by omega) (by omega)] <;> first | (rw [if_neg (by omega), if_neg (by omega)]; done) | (exfalso; omega) | skip
    · by_cases g : 192 + a / 64 = 192 + b / 64
      · rw [if_pos g, lexB_b (by omega) (by omega), if_neg (by omega), if_neg (by omega)]
      · rw [if_neg g, if_neg (by omega)]
    · by_cases g : 224 + a / 4096 = 224 + b / 4096
      · rw [if_pos g, lexB_b (by omega) (by omega)]
        by_cases g2 : 128 + a / 64 % 64 = 128 + b / 64 % 64
        · rw [if_pos g2, lexB_b (by omega) (by omega), if_neg (by omega), if_neg (by omega)]
        · rw [if_neg g2, if_neg (by omega)]
      · rw [if_neg g, if_neg (by omega)]
    · by_cases g : 240 + a / 262144 = 240 + b / 262144
      · rw [if_pos g, lexB_b (by omega) (by omega)]
        by_cases g2 : 128 + a / 4096 % 64 = 128 + b / 4096 % 64
        · rw [if_pos g2, lexB_b (by omega) (by omega)]
          by_cases g3 : 128 + a / 64 % 64 = 128 + b / 64 % 64
          · rw [if_pos g3, lexB_b (by omega) (by omega), if_neg (by omega), if_neg (by omega)]
          · rw [if_neg g3, if_neg (by omega)]
        · rw [if_neg g2, if_neg (by omega)]
      · rw [if_neg g, if_neg (by omega)]
theorem enc_code {a b : Int} (ha : OkR a) (hb : OkR b) (x y : List UInt8) : lexB (encodeRune a ++ x) (encodeRune b ++ y) = if cmpZ a b = 0 then lexB x y else cmpZ a b := by
  obtain ⟨n, rfl, h1, h2⟩ := okNat ha
  obtain ⟨m, rfl, h3, h4⟩ := okNat hb
  exact enc_ord (enc_of h1 h2) (enc_of h3 h4) x y
theorem ofRunes_flat (l : List Int) : ofRunes l = l.flatMap encodeRune := by
  induction l with
  | nil => rfl
  | cons c l ih => rw [ofRunes_cons, List.flatMap_cons, ih]
theorem text_ord {s t : List UInt8} (hs : validD s = true) (ht : validD t = true) : lexBy cmpZ (runesOf s) (runesOf t) = lexB s t := by
  have := lex_code (c := cmpZ) (f := encodeRune) (P := OkR) (fun a b ha hb x y => enc_code ha hb x y) (fun a _ => enc_ne) (runesOf s) (runesOf t) (runesOf_ok s) (runesOf_ok t)
  rw [← ofRunes_flat, ← ofRunes_flat, ofRunes_runesOf hs, ofRunes_runesOf ht] at this
  exact this.symm
theorem r3_be (n : Nat) : r3 (n : Int) = beN 3 (n + 1) := by
  unfold r3
  rw [Int.toNat_natCast]
  simp [beN]
theorem r3_code {a b : Int} (ha : OkR a) (hb : OkR b) (x y : List UInt8) : lexB (r3 a ++ x) (r3 b ++ y) = if cmpZ a b = 0 then lexB x y else cmpZ a b := by
  obtain ⟨n, rfl, h1, h2⟩ := okNat ha
  obtain ⟨m, rfl, h3, h4⟩ := okNat hb
  rw [r3_be, r3_be, lex_beN, show (256 : Nat) ^ 3 = 16777216 by decide, Nat.mod_eq_of_lt (by omega), Nat.mod_eq_of_lt (by omega)]
  refine ord_same (fun h => ?_) (fun h => ?_) (fun h => ?_)
  · rw [if_pos (by omega)]
  · rw [if_neg (by omega), cmpZ_lt (by omega)]
  · rw [if_neg (by omega), cmpZ_gt (by omega)]
theorem r3_end {b : Int} (hb : OkR b) (x y : List UInt8) : lexB ([0, 0, 0] ++ x) (r3 b ++ y) = -1 := by
  obtain ⟨m, rfl, h3, h4⟩ := okNat hb
  rw [r3_be, show ([0, 0, 0] : List UInt8) = beN 3 0 by decide, lex_beN, show (256 : Nat) ^ 3 = 16777216 by decide, Nat.mod_eq_of_lt (by omega), Nat.mod_eq_of_lt (by omega), if_neg (by omega), cmpZ_lt (by omega)]
/-! ### Values' bytes keep their order -/
def Good (v : Vl) : Prop := rightE v = 0 ∧ In64 v.2.1
theorem tag_ord {p q : Nat} (hp : p < 256) (hq : q < 256) (hne : p ≠ q) (l m : List UInt8) : lexB (UInt8.ofNat p :: l) (UInt8.ofNat q :: m) = cmpZ (p : Int) (q : Int) := by
  rw [lexB_b hp hq, if_neg hne, cmpZ_nat, if_neg hne]
theorem kb_tag {v : Vl} (h : rightE v = 0) : ∃ l, kb v = UInt8.ofNat (v.1.toNat + 1) :: l ∧ 0 ≤ v.1 ∧ v.1 ≤ 3 := by
  have hk := kind_of_right h
  obtain ⟨k, n, t⟩ := v
  simp only at hk
  rcases hk with rfl | rfl | rfl | rfl
  · exact ⟨_, kb0 n t, (by decide : (0 : Int) ≤ 0), (by decide : (0 : Int) ≤ 3)⟩
  · exact ⟨_, kb1 n t, (by decide : (0 : Int) ≤ 1), (by decide : (1 : Int) ≤ 3)⟩
  · exact ⟨_, kb2 n t, (by decide : (0 : Int) ≤ 2), (by decide : (2 : Int) ≤ 3)⟩
  · exact ⟨_, kb3 n t, (by decide : (0 : Int) ≤ 3), (by decide : (3 : Int) ≤ 3)⟩
theorem heldP_same (k n n' : Int) (s s' : List UInt8) : heldP (k, n, s) (k, n', s') = if k = 2 then lexB s s' else cmpZ n n' := by unfold heldP; rw [if_pos rfl]
theorem heldP_n {k : Int} (h : k ≠ 2) (n n' : Int) (s s' : List UInt8) : heldP (k, n, s) (k, n', s') = cmpZ n n' := by rw [heldP_same, if_neg h]
theorem heldP_t (n n' : Int) (s s' : List UInt8) : heldP (2, n, s) (2, n', s') = lexB s s' := by rw [heldP_same, if_pos rfl]
theorem kb_code {v w : Vl} (hv : Good v) (hw : Good w) (x y : List UInt8) : lexB (kb v ++ x) (kb w ++ y) = if heldP v w = 0 then lexB x y else heldP v w := by
  by_cases hk : v.1 = w.1
  · have h4 := kind_of_right hv.1
    obtain ⟨k, n, s⟩ := v
    obtain ⟨k', n', s'⟩ := w
    simp only at hk h4
    subst hk
    rcases h4 with rfl | rfl | rfl | rfl
    · obtain ⟨rfl, rfl⟩ := right0.1 hv.1
      obtain ⟨rfl, rfl⟩ := right0.1 hw.1
      rw [heldP_n (by decide), cmpZ_self, if_pos rfl, lexB_left]
    · rw [heldP_n (by decide), kb1, kb1, List.cons_append, List.cons_append, lexB_cons, if_pos (cmpU_self _), be8_beN, be8_beN, lex_beN, show (256 : Nat) ^ 8 = 18446744073709551616 by decide, Nat.mod_eq_of_lt (un_lt hv.2), Nat.mod_eq_of_lt (un_lt hw.2)]
      have h1 := hv.2
      have h2 := hw.2
      unfold In64 at h1 h2
      dsimp only at h1 h2 ⊢
      unfold un
      rcases Int.lt_trichotomy n n' with h | h | h
      · rw [if_neg (by omega), cmpZ_lt (a := n) h, cmpZ_lt (by omega), if_neg (by omega)]
      · rw [if_pos (by omega), h, cmpZ_self, if_pos rfl]
      · rw [if_neg (by omega), cmpZ_gt (b := n') h, cmpZ_gt (by omega), if_neg (by omega)]
    · obtain ⟨_, hs⟩ := right2.1 hv.1
      obtain ⟨_, ht⟩ := right2.1 hw.1
      rw [heldP_t, kb2, kb2, List.cons_append, List.cons_append, lexB_cons, if_pos (cmpU_self _), List.append_assoc, List.append_assoc,
        lex_code_end (c := cmpZ) (f := r3) (P := OkR) [0, 0, 0] (fun a b ha hb x y => r3_code ha hb x y) (fun b hb x y => r3_end hb x y) x y (runesOf s) (runesOf s') (runesOf_ok s) (runesOf_ok s'), text_ord hs ht]
    · obtain ⟨rfl, h0, h1⟩ := right3.1 hv.1
      obtain ⟨rfl, h0', h1'⟩ := right3.1 hw.1
      rw [heldP_n (by decide), kb3, kb3]
      have a1 : n = 0 ∨ n = 1 := by omega
      have a2 : n' = 0 ∨ n' = 1 := by omega
      rcases a1 with rfl | rfl <;> rcases a2 with rfl | rfl <;> rfl
  · obtain ⟨l, e1, b1, b2⟩ := kb_tag hv.1
    obtain ⟨m, e2, b3, b4⟩ := kb_tag hw.1
    unfold heldP
    rw [if_neg hk, e1, e2, List.cons_append, List.cons_append, tag_ord (by omega) (by omega) (by omega)]
    have hz : cmpZ v.1 w.1 ≠ 0 := fun g => hk (cmpZ_zero.1 g)
    rw [if_neg hz]
    rcases Int.lt_trichotomy v.1 w.1 with h | h | h
    · rw [cmpZ_lt h, cmpZ_lt (by omega)]
    · exact absurd h hk
    · rw [cmpZ_gt h, cmpZ_gt (by omega)]
theorem key_ord {l m : List Vl} (hl : ∀ v ∈ l, Good v) (hm : ∀ v ∈ m, Good v) : lexB (l.flatMap kb) (m.flatMap kb) = lexBy heldP l m :=
  lex_code (fun a b ha hb x y => kb_code ha hb x y) (fun a _ => kb_ne a) l m hl hm
/-! ### The document's order -/
theorem ref_texts {r s : List Int × Bool} (h1 : r.1.length ≤ 4194304) (h2 : s.1.length ≤ 4194304) (o1 : ∀ c ∈ r.1, OkR c) (o2 : ∀ c ∈ s.1, OkR c) :
    ((loop (ref2_one.st1 r s) 0).bind fun e1 => match e1 with | .inl v => some v | .inr v => ref2_one.k1 r s v) = some (lexBy cmpZ r.1 s.1) := by
  have := loop_lex (c := cmpZ) (l := r.1) (m := s.1) (step := ref2_one.st1 r s) (fun i g1 g2 => by
    have w : IntKind.i64.wrap ((i : Int) + 1) = ((i + 1 : Nat) : Int) := by rw [i64_id (by omega)]; omega
    have m1 := o1 _ (List.getElem_mem g1)
    have m2 := o2 _ (List.getElem_mem g2)
    rw [← getD_el g1] at m1
    rw [← getD_el g2] at m2
    unfold OkR at m1 m2
    unfold ref2_one.st1 ref2_one.k2
    simp only [Int.toNat_natCast, sign_is, Option.bind_some, w]
    rw [ite_dt (by omega), ite_dt (by omega), chk_pos (by omega), chk_pos (by omega), i64_id (n := r.1.getD i default) (by omega), i64_id (n := s.1.getD i default) (by omega)]
    by_cases g : r.1.getD i default = s.1.getD i default
    · rw [ite_nt g, if_pos (cmpZ_zero.2 g)]
    · rw [ite_nf g, if_neg (fun e => g (cmpZ_zero.1 e)), chk_pos (by omega), chk_pos (by omega)]) (fun i g1 g2 g3 => by
    unfold ref2_one.st1 ref2_one.k2
    by_cases g : i < r.1.length
    · rw [ite_dt (by omega), ite_df (by omega)]
    · rw [ite_df (by omega)]; rfl)
  rcases this with h | ⟨h, e⟩
  · erw [h]; rfl
  · erw [h]
    simp only [Option.bind_some, ref2_one.k1, sign_is]
    rw [e]
theorem ref_one_is {v w : Vl} (hv : rightE v = 0) (hw : rightE w = 0) (l1 : v.2.2.length ≤ 4194304) (l2 : w.2.2.length ≤ 4194304) : ref2_one.impl v w = some (heldP v w) := by
  unfold ref2_one.impl heldP
  simp only [sign_is, Option.bind_some]
  by_cases hk : v.1 = w.1
  · rw [ite_nt hk, if_pos hk]
    by_cases h2 : v.1 = 2
    · obtain ⟨k, n, s⟩ := v
      obtain ⟨k', n', s'⟩ := w
      simp only at hk h2
      subst h2
      subst hk
      obtain ⟨_, hs⟩ := right2.1 hv
      obtain ⟨_, ht⟩ := right2.1 hw
      rw [ite_nt rfl, if_pos rfl, RefDecode_is l1, RefDecode_is l2, if_pos hs, if_pos ht]
      simp only [Option.bind_some]
      have r1 := runesOf_le s
      have r2 := runesOf_le s'
      simp only at l1 l2
      have := ref_texts (r := (runesOf s, true)) (s := (runesOf s', true)) (by simp only; omega) (by simp only; omega) (runesOf_ok s) (runesOf_ok s')
      rw [← text_ord hs ht]
      exact this
    · rw [ite_nf h2, if_neg h2]
  · rw [ite_nf hk, if_neg hk]
theorem RefCompare_is {l m : List Vl} (hl : l.length ≤ 4194304) (hm : m.length ≤ 4194304) (gl : ∀ v ∈ l, rightE v = 0 ∧ v.2.2.length ≤ 4194304) (gm : ∀ v ∈ m, rightE v = 0 ∧ v.2.2.length ≤ 4194304) : ref2_Compare.impl l m = some (lexBy heldP l m) := by
  unfold ref2_Compare.impl
  have := loop_lex (c := heldP) (l := l) (m := m) (step := ref2_Compare.st1 l m) (fun i h1 h2 => by
    have w : IntKind.i64.wrap ((i : Int) + 1) = ((i + 1 : Nat) : Int) := by rw [i64_id (by omega)]; omega
    have m1 := gl _ (List.getElem_mem h1)
    have m2 := gm _ (List.getElem_mem h2)
    rw [← getD_el h1] at m1
    rw [← getD_el h2] at m2
    unfold ref2_Compare.st1 ref2_Compare.k2
    simp only [Int.toNat_natCast, ref_one_is m1.1 m2.1 m1.2 m2.2, Option.bind_some, w]
    rw [ite_dt (by omega), ite_dt (by omega), chk_pos (by omega), chk_pos (by omega)]
    by_cases g : heldP (l.getD i default) (m.getD i default) = 0
    · rw [ite_nt g, if_pos g]
    · rw [ite_nf g, if_neg g]) (fun i h1 h2 h3 => by
    unfold ref2_Compare.st1 ref2_Compare.k2
    by_cases g : i < l.length
    · rw [ite_dt (by omega), ite_df (by omega)]
    · rw [ite_df (by omega)]; rfl)
  rcases this with h | ⟨h, e⟩
  · erw [h]; rfl
  · erw [h]
    simp only [Option.bind_some, ref2_Compare.k1, sign_is]
    rw [e]
theorem RefSame_is {l m : List Vl} (hl : l.length ≤ 4194304) : ref2_Same.impl l m = some (decide (l = m)) := by
  unfold ref2_Same.impl
  by_cases hlen : l.length = m.length
  · rw [ite_nt (by omega)]
    have key : ∀ n (i : Nat), l.length - i < n → i ≤ l.length → ∃ r, loop (ref2_Same.st1 l m) (i : Int) = some r ∧ (match r with | .inl v => some v | .inr v => ref2_Same.k1 v) = some (decide (l.drop i = m.drop i)) := by
      intro n
      induction n with
      | zero => intro i h; omega
      | succ n ih =>
        intro i h hi
        by_cases g : i < l.length
        · have w : IntKind.i64.wrap ((i : Int) + 1) = ((i + 1 : Nat) : Int) := by rw [i64_id (by omega)]; omega
          have e1 : l.drop i = l.getD i default :: l.drop (i + 1) := by rw [List.drop_eq_getElem_cons g, getD_el g]
          have e2 : m.drop i = m.getD i default :: m.drop (i + 1) := by rw [List.drop_eq_getElem_cons (by omega), getD_el (by omega)]
          by_cases q : l.getD i default = m.getD i default
          · have st : ref2_Same.st1 l m (i : Int) = some (.inl ((i + 1 : Nat) : Int)) := by
              unfold ref2_Same.st1
              simp only [Int.toNat_natCast, w]
              rw [ite_dt (by omega), chk_pos (by omega), chk_pos (by omega), ite_nt q]
            obtain ⟨r, r1, r2⟩ := ih (i + 1) (by omega) (by omega)
            refine ⟨r, by rw [loop_more st]; exact r1, ?_⟩
            rw [r2, e1, e2, q]
            simp
          · have st : ref2_Same.st1 l m (i : Int) = some (.inr (.inl false)) := by
              unfold ref2_Same.st1
              simp only [Int.toNat_natCast]
              rw [ite_dt (by omega), chk_pos (by omega), chk_pos (by omega), ite_nf q]
            refine ⟨_, loop_last st, ?_⟩
            rw [e1, e2, decide_eq_false (fun e => q (List.cons.inj e).1)]
        · refine ⟨.inr (), loop_last ?_, ?_⟩
          · unfold ref2_Same.st1
            rw [ite_df (by omega)]
          · rw [List.drop_of_length_le (by omega), List.drop_of_length_le (by omega)]; rfl
    obtain ⟨r, r1, r2⟩ := key _ 0 (Nat.lt_succ_self _) (Nat.zero_le _)
    erw [r1]
    exact r2
  · rw [ite_nf (by omega)]
    have : l ≠ m := fun e => hlen (by rw [e])
    simp [this]
end Go.Proofs.YtlokkdfiolfdnaaDoor
