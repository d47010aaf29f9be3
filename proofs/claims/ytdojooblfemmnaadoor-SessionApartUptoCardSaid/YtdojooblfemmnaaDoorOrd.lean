/- The order of lists; the order of bytes; numbers as bytes keep their order. -/
import Derived.Test.YtdojooblfemmnaaDoorRunes
set_option linter.unusedVariables false
set_option linter.unusedSimpArgs false
namespace Go.Proofs.YtdojooblfemmnaaDoor
open Go Go.RowKit Go.Lib
/-- The order of two lists: by the first place where they are not alike, else the shorter one. -/
def lexBy {α : Type} (c : α → α → Int) : List α → List α → Int
  | [], [] => 0
  | [], _ :: _ => -1
  | _ :: _, [] => 1
  | a :: l, b :: m => if c a b = 0 then lexBy c l m else c a b
def cmpZ (a b : Int) : Int := if a < b then -1 else if b < a then 1 else 0
theorem cmpZ_zero {a b : Int} : cmpZ a b = 0 ↔ a = b := by
  unfold cmpZ
  by_cases h : a < b
  · rw [if_pos h]; omega
  · rw [if_neg h]
    by_cases h' : b < a
    · rw [if_pos h']; omega
    · rw [if_neg h']; omega
theorem cmpZ_lt {a b : Int} (h : a < b) : cmpZ a b = -1 := by unfold cmpZ; rw [if_pos h]
theorem cmpZ_gt {a b : Int} (h : b < a) : cmpZ a b = 1 := by unfold cmpZ; rw [if_neg (by omega), if_pos h]
theorem cmpZ_self (a : Int) : cmpZ a a = 0 := cmpZ_zero.2 rfl
theorem cmpZ_anti (a b : Int) : cmpZ b a = - cmpZ a b := by
  rcases Int.lt_trichotomy a b with h | h | h
  · rw [cmpZ_lt h, cmpZ_gt h]; rfl
  · rw [h, cmpZ_self]; rfl
  · rw [cmpZ_lt h, cmpZ_gt h]
theorem cmpZ_vals (a b : Int) : cmpZ a b = -1 ∨ cmpZ a b = 0 ∨ cmpZ a b = 1 := by
  rcases Int.lt_trichotomy a b with h | h | h
  · exact .inl (cmpZ_lt h)
  · rw [h, cmpZ_self]; exact .inr (.inl rfl)
  · exact .inr (.inr (cmpZ_gt h))
section
variable {α : Type} {c : α → α → Int}
theorem lexBy_self (h : ∀ a, c a a = 0) : ∀ l, lexBy c l l = 0
  | [] => rfl
  | a :: l => by unfold lexBy; rw [if_pos (h a)]; exact lexBy_self h l
theorem lexBy_anti (h : ∀ a b, c b a = - c a b) : ∀ l m, lexBy c m l = - lexBy c l m
  | [], [] => rfl
  | [], _ :: _ => rfl
  | _ :: _, [] => rfl
  | a :: l, b :: m => by
    unfold lexBy
    rw [h a b]
    by_cases e : c a b = 0
    · rw [if_pos e, if_pos (by omega)]; exact lexBy_anti h l m
    · rw [if_neg e, if_neg (by omega)]
theorem lexBy_zero (h : ∀ a b, c a b = 0 → a = b) : ∀ l m, lexBy c l m = 0 → l = m
  | [], [], _ => rfl
  | [], _ :: _, e => by simp [lexBy] at e
  | _ :: _, [], e => by simp [lexBy] at e
  | a :: l, b :: m, e => by
    unfold lexBy at e
    by_cases g : c a b = 0
    · rw [if_pos g] at e; rw [h a b g, lexBy_zero h l m e]
    · rw [if_neg g] at e; exact absurd e g
/-- A list against one that it begins. -/
theorem lexBy_pre (h : ∀ a, c a a = 0) : ∀ l m, lexBy c l (l ++ m) = if m = [] then 0 else -1
  | [], [] => rfl
  | [], _ :: _ => rfl
  | a :: l, m => by
    rw [List.cons_append]; unfold lexBy; rw [if_pos (h a)]; exact lexBy_pre h l m
end
/-! ### Bytes -/
def cmpU (a b : UInt8) : Int := cmpZ a.toNat b.toNat
abbrev lexB := lexBy cmpU
theorem cmpU_zero {a b : UInt8} : cmpU a b = 0 ↔ a = b := by
  unfold cmpU; rw [cmpZ_zero]
  constructor
  · intro h; exact UInt8.toNat_inj.1 (by omega)
  · intro h; rw [h]
theorem cmpU_self (a : UInt8) : cmpU a a = 0 := cmpU_zero.2 rfl
theorem cmpU_anti (a b : UInt8) : cmpU b a = - cmpU a b := cmpZ_anti _ _
theorem lexB_self (l : List UInt8) : lexB l l = 0 := lexBy_self cmpU_self l
theorem lexB_anti (l m : List UInt8) : lexB m l = - lexB l m := lexBy_anti cmpU_anti l m
theorem lexB_zero {l m : List UInt8} (h : lexB l m = 0) : l = m := lexBy_zero (fun _ _ => cmpU_zero.1) l m h
theorem lexB_less : ∀ l m : List UInt8, Op.bytesLess l m = decide (lexB l m < 0)
  | _, [] => by
    rename_i l
    cases l <;> simp [Op.bytesLess, lexBy]
  | [], _ :: _ => by simp [Op.bytesLess, lexBy]
  | a :: l, b :: m => by
    have ih := lexB_less l m
    unfold Op.bytesLess lexB lexBy
    rcases Int.lt_trichotomy (a.toNat : Int) (b.toNat : Int) with h | h | h
    · have e : cmpU a b = -1 := cmpZ_lt h
      have g : decide (a < b) = true := decide_eq_true (UInt8.lt_iff_toNat_lt.2 (by omega))
      rw [e, g, Bool.true_or, if_neg (by omega)]; rfl
    · have hab : a = b := UInt8.toNat_inj.1 (by omega)
      subst hab
      rw [if_pos (cmpU_self a), ih]
      have g : decide (a < a) = false := decide_eq_false (by simp)
      rw [g]; simp
    · have e : cmpU a b = 1 := cmpZ_gt h
      have g : decide (a < b) = false := decide_eq_false (fun g => by have := UInt8.lt_iff_toNat_lt.1 g; omega)
      have g2 : (a == b) = false := by
        rw [beq_eq_false_iff_ne]; intro e; rw [e] at h; omega
      rw [e, g, g2, if_neg (by omega)]; rfl
theorem lexB_cons (a b : UInt8) (l m : List UInt8) : lexB (a :: l) (b :: m) = if cmpU a b = 0 then lexB l m else cmpU a b := rfl
theorem lexB_trans : ∀ l m n : List UInt8, lexB l m ≤ 0 → lexB m n ≤ 0 → lexB l n ≤ 0 ∧ (lexB l m < 0 → lexB l n < 0) ∧ (lexB m n < 0 → lexB l n < 0)
  | [], [], [], _, _ => by simp [lexBy]
  | [], [], _ :: _, _, _ => by simp [lexBy]
  | [], _ :: _, [], _, h => by simp [lexBy] at h
  | [], _ :: _, _ :: _, _, _ => by simp [lexBy]
  | _ :: _, [], _, h, _ => by simp [lexBy] at h
  | _ :: _, _ :: _, [], _, h => by simp [lexBy] at h
  | a :: l, b :: m, d :: n, h1, h2 => by
    rw [lexB_cons] at h1 h2 ⊢
    rw [lexB_cons, lexB_cons]
    by_cases e1 : cmpU a b = 0
    · rw [if_pos e1] at h1
      have e1' := cmpU_zero.1 e1
      subst e1'
      by_cases e2 : cmpU a d = 0
      · rw [if_pos e2] at h2
        have := lexB_trans l m n h1 h2
        simp only [cmpU_self, e2, if_true]; exact this
      · rw [if_neg e2] at h2
        simp only [cmpU_self, if_true, if_neg e2]
        exact ⟨h2, fun _ => by omega, fun h => h⟩
    · rw [if_neg e1] at h1 ⊢
      by_cases e2 : cmpU b d = 0
      · have e2' := cmpU_zero.1 e2
        subst e2'
        rw [if_neg e1]
        exact ⟨h1, fun h => h, fun _ => by omega⟩
      · rw [if_neg e2] at h2
        have g1 : a.toNat < b.toNat := by
          rcases Int.lt_trichotomy (a.toNat : Int) (b.toNat : Int) with h | h | h
          · omega
          · exact absurd (show cmpU a b = 0 by unfold cmpU; rw [h, cmpZ_self]) e1
          · have : cmpU a b = 1 := cmpZ_gt h
            omega
        have g2 : b.toNat < d.toNat := by
          rcases Int.lt_trichotomy (b.toNat : Int) (d.toNat : Int) with h | h | h
          · omega
          · exact absurd (show cmpU b d = 0 by unfold cmpU; rw [h, cmpZ_self]) e2
          · have : cmpU b d = 1 := cmpZ_gt h
            omega
        have e3 : cmpU a d = -1 := cmpZ_lt (by omega)
        rw [e3, if_neg (by omega)]
        exact ⟨by omega, fun _ => by omega, fun _ => by omega⟩
theorem lexB_left (u x y : List UInt8) : lexB (u ++ x) (u ++ y) = lexB x y := by
  induction u with
  | nil => rfl
  | cons a u ih => rw [List.cons_append, List.cons_append, lexB_cons, if_pos (cmpU_self a)]; exact ih
theorem lexB_nil_l {m : List UInt8} (h : m ≠ []) : lexB [] m = -1 := by cases m; exact absurd rfl h; rfl
theorem lexB_nil_r {m : List UInt8} (h : m ≠ []) : lexB m [] = 1 := by cases m; exact absurd rfl h; rfl
/-- Pieces that keep an order, none of which begins another one: what is made of them keeps the lists' order. -/
theorem lex_code {α : Type} {c : α → α → Int} {f : α → List UInt8} {P : α → Prop} (h : ∀ a b, P a → P b → ∀ x y, lexB (f a ++ x) (f b ++ y) = if c a b = 0 then lexB x y else c a b) (hne : ∀ a, P a → f a ≠ []) :
    ∀ l m : List α, (∀ a ∈ l, P a) → (∀ a ∈ m, P a) → lexB (l.flatMap f) (m.flatMap f) = lexBy c l m
  | [], [], _, _ => rfl
  | [], b :: m, _, hm => by
    rw [List.flatMap_cons]; exact lexB_nil_l (fun e => hne b (hm b (by simp)) (List.append_eq_nil_iff.1 e).1)
  | a :: l, [], hl, _ => by
    rw [List.flatMap_cons]; exact lexB_nil_r (fun e => hne a (hl a (by simp)) (List.append_eq_nil_iff.1 e).1)
  | a :: l, b :: m, hl, hm => by
    rw [List.flatMap_cons, List.flatMap_cons, h a b (hl a (by simp)) (hm b (by simp)), lex_code h hne l m (fun x hx => hl x (by simp [hx])) (fun x hx => hm x (by simp [hx]))]
    rfl
/-- The same with an end behind the lists that comes ahead of all pieces. -/
theorem lex_code_end {α : Type} {c : α → α → Int} {f : α → List UInt8} {P : α → Prop} (e : List UInt8) (h : ∀ a b, P a → P b → ∀ x y, lexB (f a ++ x) (f b ++ y) = if c a b = 0 then lexB x y else c a b) (h1 : ∀ b, P b → ∀ x y, lexB (e ++ x) (f b ++ y) = -1) (x y : List UInt8) :
    ∀ l m : List α, (∀ a ∈ l, P a) → (∀ a ∈ m, P a) → lexB (l.flatMap f ++ (e ++ x)) (m.flatMap f ++ (e ++ y)) = if lexBy c l m = 0 then lexB x y else lexBy c l m
  | [], [], _, _ => by
    rw [List.flatMap_nil, List.nil_append, List.nil_append, lexB_left]; rfl
  | [], b :: m, _, hm => by
    rw [List.flatMap_nil, List.nil_append, List.flatMap_cons, List.append_assoc, h1 b (hm b (by simp))]; rfl
  | a :: l, [], hl, _ => by
    rw [List.flatMap_nil, List.nil_append, List.flatMap_cons, List.append_assoc, lexB_anti, h1 a (hl a (by simp))]; rfl
  | a :: l, b :: m, hl, hm => by
    rw [List.flatMap_cons, List.flatMap_cons, List.append_assoc, List.append_assoc, h a b (hl a (by simp)) (hm b (by simp)), lex_code_end e h h1 x y l m (fun x hx => hl x (by simp [hx])) (fun x hx => hm x (by simp [hx]))]
    show _ = if (if c a b = 0 then lexBy c l m else c a b) = 0 then lexB x y else (if c a b = 0 then lexBy c l m else c a b)
    by_cases g : c a b = 0
    · rw [if_pos g, if_pos g]
    · rw [if_neg g, if_neg g, if_neg g]
/-! ### Numbers as bytes, the highest first -/
def beN : Nat → Nat → List UInt8
  | 0, _ => []
  | k + 1, u => UInt8.ofNat (u / 256 ^ k) :: beN k u
theorem cmpU_of (p q : Nat) : cmpU (UInt8.ofNat p) (UInt8.ofNat q) = cmpZ ((p % 256 : Nat) : Int) ((q % 256 : Nat) : Int) := by
  unfold cmpU; simp [UInt8.toNat_ofNat']
theorem lex_beN (x y : List UInt8) (u v : Nat) : ∀ k, lexB (beN k u ++ x) (beN k v ++ y) = if u % 256 ^ k = v % 256 ^ k then lexB x y else cmpZ ((u % 256 ^ k : Nat) : Int) ((v % 256 ^ k : Nat) : Int)
  | 0 => by simp [beN, Nat.mod_one]
  | k + 1 => by
    have ih := lex_beN x y u v k
    have hp : 0 < 256 ^ k := Nat.pow_pos (by decide)
    have e : ∀ w : Nat, w % 256 ^ (k + 1) = 256 ^ k * (w / 256 ^ k % 256) + w % 256 ^ k := fun w => by
      rw [Nat.pow_succ, Nat.mod_mul, Nat.add_comm]
    have ru := Nat.mod_lt u hp
    have rv := Nat.mod_lt v hp
    unfold beN
    rw [List.cons_append, List.cons_append, lexB_cons, cmpU_of, ih, e u, e v]
    generalize u / 256 ^ k % 256 = a
    generalize v / 256 ^ k % 256 = b
    generalize u % 256 ^ k = r at *
    generalize v % 256 ^ k = s at *
    generalize 256 ^ k = q at *
    rcases Nat.lt_trichotomy a b with h | h | h
    · have : q * (a + 1) ≤ q * b := Nat.mul_le_mul_left q h
      rw [Nat.mul_add, Nat.mul_one] at this
      rw [cmpZ_lt (a := (a : Int)) (by omega), if_neg (by omega), if_neg (by omega), cmpZ_lt (by omega)]
    · subst h
      rw [cmpZ_self, if_pos rfl]
      by_cases g : r = s
      · rw [if_pos g, if_pos (by omega)]
      · rw [if_neg g, if_neg (by omega)]
        rcases Nat.lt_or_ge r s with h | h
        · rw [cmpZ_lt (by omega), cmpZ_lt (by omega)]
        · rw [cmpZ_gt (by omega), cmpZ_gt (by omega)]
    · have : q * (b + 1) ≤ q * a := Nat.mul_le_mul_left q h
      rw [Nat.mul_add, Nat.mul_one] at this
      rw [cmpZ_gt (a := (a : Int)) (by omega), if_neg (by omega), if_neg (by omega), cmpZ_gt (by omega)]
end Go.Proofs.YtdojooblfemmnaaDoor
