/- Layer 14: schemas as bytes, in plain terms. -/
import Derived.Test.YtdfbknkgmhddcaaDoorSchF
set_option linter.unusedVariables false
set_option linter.unusedSimpArgs false
namespace Go.Proofs.YtdfbknkgmhddcaaDoor
open Go Go.RowKit Go.Lib
/-! ### Written -/
theorem uint_small {n : Nat} (h : n < 128) : uint n = [UInt8.ofNat n] := by
  unfold uint
  rw [show n / 128 = 0 by omega, hi_zero, Nat.mod_eq_of_lt h]; rfl
def bI (n : Int) : UInt8 := u8 (IntKind.u8.wrap n)
def encC (c : Col) : List UInt8 := UInt8.ofNat c.1.length :: (c.1 ++ [bI c.2.1, bI c.2.2])
def encI (x : Ix) : List UInt8 := [bI x.1, if x.2 = true then 1 else 0]
def encS (s : Sch) : List UInt8 := UInt8.ofNat s.1.length :: (s.1 ++ (UInt8.ofNat s.2.1.length :: (s.2.1.flatMap encC ++ (UInt8.ofNat s.2.2.length :: s.2.2.flatMap encI))))
theorem name_len {l : List UInt8} (h : nameP l = true) : 1 ≤ l.length ∧ l.length ≤ 8 := by
  unfold nameP at h
  simp only [Bool.and_eq_true, decide_eq_true_eq] at h
  exact h.1
theorem col_of {s : Sch} (h : rightS s = true) : ∀ c ∈ s.2.1, colP c = true := fun c hc => by
  unfold rightS at h
  simp only [Bool.and_eq_true, List.all_eq_true, List.mem_range] at h
  obtain ⟨i, hi, rfl⟩ := List.getElem_of_mem hc
  have := h.1.2 i hi
  unfold okC at this
  simp only [Bool.and_eq_true] at this
  rw [getD_el hi] at this
  exact this.2
theorem idx_of {s : Sch} (h : rightS s = true) : ∀ x ∈ s.2.2, 1 ≤ x.1 ∧ x.1 < (s.2.1.length : Int) := fun x hx => by
  unfold rightS at h
  simp only [Bool.and_eq_true, List.all_eq_true, List.mem_range] at h
  obtain ⟨i, hi, rfl⟩ := List.getElem_of_mem hx
  have := h.2 i hi
  unfold okI at this
  simp only [Bool.and_eq_true, decide_eq_true_eq] at this
  rw [getD_el hi] at this
  exact this.2
theorem name_of {s : Sch} (h : rightS s = true) : nameP s.1 = true := by
  unfold rightS at h
  simp only [Bool.and_eq_true] at h
  exact h.1.1.1
theorem colP_name {c : Col} (h : colP c = true) : 1 ≤ c.1.length ∧ c.1.length ≤ 8 := by
  unfold colP at h
  simp only [Bool.and_eq_true] at h
  exact name_len h.1
theorem colP_nums {c : Col} (h : colP c = true) : 0 ≤ c.2.1 ∧ c.2.1 ≤ 3 ∧ 0 ≤ c.2.2 ∧ c.2.2 ≤ 8 := by
  unfold colP at h
  simp only [Bool.and_eq_true] at h
  obtain ⟨_, h⟩ := h
  by_cases g : c.2.1 = 2
  · rw [if_pos g] at h
    simp only [Bool.and_eq_true, decide_eq_true_eq] at h
    omega
  · rw [if_neg g] at h
    simp only [Bool.and_eq_true, Bool.or_eq_true, decide_eq_true_eq] at h
    omega
theorem Bytes_small {l : List UInt8} (h : l.length ≤ 8) : wire_Bytes.impl l = some (UInt8.ofNat l.length :: l) := by
  rw [Bytes_is (by omega), uint_small (by omega)]; rfl
theorem encC_len (c : Col) : (encC c).length = c.1.length + 3 := by unfold encC; simp
theorem flatC_len {l : List Col} (h : ∀ c ∈ l, colP c = true) : (l.flatMap encC).length ≤ 11 * l.length := by
  induction l with
  | nil => simp
  | cons c l ih =>
    have := ih (fun x hx => h x (by simp [hx]))
    have h2 := colP_name (h c (by simp))
    rw [List.flatMap_cons, List.length_append, List.length_cons, encC_len]
    omega
theorem flatI_len (l : List Ix) : (l.flatMap encI).length = 2 * l.length := by
  induction l with
  | nil => simp
  | cons c l ih =>
    rw [List.flatMap_cons, List.length_append, List.length_cons, ih]
    simp only [encI, List.length_cons, List.length_nil]; omega
theorem encS_len {s : Sch} (h : rightS s = true) : (encS s).length ≤ 80 := by
  have h1 := len3 h
  have h2 := flatC_len (col_of h)
  have h3 := flatI_len s.2.2
  have h4 := name_len (name_of h)
  unfold encS
  simp only [List.length_cons, List.length_append]
  omega
theorem Encode_is {s : Sch} (hn : NamesS s) : schema_Encode.impl s = some (if rightS s = true then (encS s, 0) else ([], 61)) := by
  unfold schema_Encode.impl
  rw [SRight_is (s := (s.1, s.2.1, s.2.2)) hn]
  simp only [Option.bind_some]
  by_cases h : rightS s = true
  · have h3 := len3 h
    have hnm := name_len (name_of h)
    have hc := col_of h
    rw [if_pos h, if_pos h]
    simp only [decide_true, Bool.not_true, Bool.false_eq_true, if_false]
    rw [Bytes_small hnm.2]
    simp only [Option.bind_some]
    have e1 : u8 (IntKind.u8.wrap (s.2.1.length : Int)) = UInt8.ofNat s.2.1.length := u8_mod _
    have e2 : u8 (IntKind.u8.wrap (s.2.2.length : Int)) = UInt8.ofNat s.2.2.length := u8_mod _
    rw [chk_pos (by simp; omega), e1]
    unfold schema_Encode.k1
    generalize hb : (UInt8.ofNat s.1.length :: s.1) ++ [UInt8.ofNat s.2.1.length] = b0
    have lb0 : b0.length ≤ 10 := by rw [← hb]; simp; omega
    have l2 := loop_up (step := schema_Encode.st2 s) (r := b0 ++ s.2.1.flatMap encC) (fun i => (b0 ++ (s.2.1.take i).flatMap encC, (i : Int))) s.2.1.length (fun i hi => by
      have w : IntKind.i64.wrap ((i : Int) + 1) = ((i + 1 : Nat) : Int) := by rw [i64_id (by omega)]; omega
      have hm := hc _ (List.getElem_mem hi)
      rw [← getD_el hi] at hm
      have hl := flatC_len (l := s.2.1.take i) (fun c hc' => hc c (List.mem_of_mem_take hc'))
      rw [List.length_take] at hl
      have hq := (colP_name hm).2
      unfold schema_Encode.st2
      simp only [Int.toNat_natCast, w]
      rw [ite_dt (by omega), chk_pos (by omega), Bytes_small hq]
      simp only [Option.bind_some]
      rw [chk_pos (by simp only [List.length_append, List.length_cons]; omega), chk_pos (by simp only [List.length_append, List.length_cons, List.length_nil]; omega), ← List.take_append_getElem hi, List.flatMap_append, List.flatMap_cons, List.flatMap_nil, List.append_nil, ← getD_el hi]
      unfold encC bI
      simp [List.append_assoc]) (by
      unfold schema_Encode.st2
      rw [ite_df (by simp), List.take_length])
    simp only [List.take_zero, List.flatMap_nil, List.append_nil] at l2
    erw [l2]
    simp only [Option.bind_some, schema_Encode.k2, e2]
    have lc := flatC_len hc
    rw [chk_pos (by simp only [List.length_append, List.length_cons, List.length_nil]; omega)]
    generalize hb1 : b0 ++ s.2.1.flatMap encC ++ [UInt8.ofNat s.2.2.length] = b1
    have lb1 : b1.length ≤ 100 := by rw [← hb1]; simp only [List.length_append, List.length_cons, List.length_nil]; omega
    have l1 := loop_up (step := schema_Encode.st1 s) (r := b1 ++ s.2.2.flatMap encI) (fun i => (b1 ++ (s.2.2.take i).flatMap encI, (i : Int))) s.2.2.length (fun i hi => by
      have w : IntKind.i64.wrap ((i : Int) + 1) = ((i + 1 : Nat) : Int) := by rw [i64_id (by omega)]; omega
      have hl := flatI_len (s.2.2.take i)
      rw [List.length_take] at hl
      have k4 : ∀ z : Nat, z < 2 → schema_Encode.k4 (b1 ++ (s.2.2.take i).flatMap encI, (i : Int)) s (z : Int) = some (.inl ((b1 ++ (s.2.2.take i).flatMap encI) ++ [bI (s.2.2.getD i default).1, u8 (z : Int)], ((i + 1 : Nat) : Int))) := fun z hz => by
        unfold schema_Encode.k4
        simp only [Int.toNat_natCast, w]
        rw [chk_pos (by omega), chk_pos (by simp only [List.length_append, List.length_cons, List.length_nil]; omega)]
        rfl
      have k0 := k4 0 (by omega)
      have k1 := k4 1 (by omega)
      have he : (s.2.2.take (i + 1)).flatMap encI = (s.2.2.take i).flatMap encI ++ [bI (s.2.2.getD i default).1, if (s.2.2.getD i default).2 = true then 1 else 0] := by
        rw [← List.take_append_getElem hi, List.flatMap_append, List.flatMap_cons, List.flatMap_nil, List.append_nil, ← getD_el hi]; rfl
      unfold schema_Encode.st1
      simp only [Int.toNat_natCast]
      rw [ite_dt (by omega), chk_pos (by omega), he]
      by_cases hu : (s.2.2.getD i default).2 = true
      · rw [if_pos hu, if_pos hu, ← List.append_assoc]; exact k1
      · rw [if_neg hu, if_neg hu, ← List.append_assoc]; exact k0) (by
      unfold schema_Encode.st1
      rw [ite_df (by simp), List.take_length])
    simp only [List.take_zero, List.flatMap_nil, List.append_nil] at l1
    erw [l1]
    simp only [Option.bind_some, schema_Encode.k3]
    rw [← hb1, ← hb]
    unfold encS
    simp [List.append_assoc]
  · rw [if_neg h, if_neg h]; rfl
/-! ### Read -/
def pN : List UInt8 → Option (List UInt8 × List UInt8)
  | [] => none
  | n :: r => if n.toNat ≤ 8 ∧ n.toNat ≤ r.length then some (r.take n.toNat, r.drop n.toNat) else none
def pB (most : Nat) : List UInt8 → Option (Nat × List UInt8)
  | [] => none
  | b :: r => if b.toNat ≤ most then some (b.toNat, r) else none
theorem pN_cons (n : UInt8) (r : List UInt8) : pN (n :: r) = if n.toNat ≤ 8 ∧ n.toNat ≤ r.length then some (r.take n.toNat, r.drop n.toNat) else none := rfl
theorem pB_cons (most : Nat) (b : UInt8) (r : List UInt8) : pB most (b :: r) = if b.toNat ≤ most then some (b.toNat, r) else none := rfl
def pC (m : List UInt8) : Option (Col × List UInt8) := (pN m).bind fun a => (pB 3 a.2).bind fun k => (pB 8 k.2).bind fun x => some ((a.1, (k.1 : Int), (x.1 : Int)), x.2)
def pI (m : List UInt8) : Option (Ix × List UInt8) := (pB 3 m).bind fun k => (pB 1 k.2).bind fun x => some (((k.1 : Int), decide ((x.1 : Int) = 1)), x.2)
def pMany {α : Type} (p : List UInt8 → Option (α × List UInt8)) : Nat → List UInt8 → Option (List α × List UInt8)
  | 0, m => some ([], m)
  | n + 1, m => (p m).bind fun a => (pMany p n a.2).bind fun l => some (a.1 :: l.1, l.2)
def pS (m : List UInt8) : Option (Sch × List UInt8) := (pN m).bind fun a => (pB 3 a.2).bind fun k => (pMany pC k.1 k.2).bind fun c => (pB 3 c.2).bind fun j => (pMany pI j.1 j.2).bind fun x => some ((a.1, c.1, x.1), x.2)
def decS (m : List UInt8) : Option Sch := (pS m).bind fun q => if q.2 = [] ∧ rightS q.1 = true then some q.1 else none
/-! What is written is read. -/
theorem pN_enc {l : List UInt8} (h : l.length ≤ 8) (m : List UInt8) : pN (UInt8.ofNat l.length :: (l ++ m)) = some (l, m) := by
  have e : (UInt8.ofNat l.length).toNat = l.length := ofNat_b _ (by omega)
  rw [pN_cons, e, if_pos (by refine ⟨h, ?_⟩; rw [List.length_append]; omega), List.take_left, List.drop_left]
theorem pB_enc {k most : Nat} (h : k ≤ most) (h2 : k < 256) (m : List UInt8) : pB most (UInt8.ofNat k :: m) = some (k, m) := by
  have e : (UInt8.ofNat k).toNat = k := ofNat_b _ h2
  rw [pB_cons, e, if_pos h]
theorem bI_nat {n : Int} (h : 0 ≤ n) : bI n = UInt8.ofNat n.toNat := by
  obtain ⟨k, rfl⟩ := Int.eq_ofNat_of_zero_le h
  exact u8_mod k
theorem pC_enc {c : Col} (h : colP c = true) (m : List UInt8) : pC (encC c ++ m) = some (c, m) := by
  have h1 := colP_name h
  have h2 := colP_nums h
  obtain ⟨l, k, x⟩ := c
  simp only at h1 h2
  unfold pC encC
  simp only [List.cons_append, List.append_assoc, List.nil_append]
  rw [pN_enc h1.2, bI_nat h2.1, bI_nat h2.2.2.1]
  simp only [Option.bind_some]
  rw [pB_enc (by omega) (by omega)]
  simp only [Option.bind_some]
  rw [pB_enc (by omega) (by omega)]
  simp only [Option.bind_some]
  rw [show ((k.toNat : Nat) : Int) = k by omega, show ((x.toNat : Nat) : Int) = x by omega]
theorem pI_enc {x : Ix} (h : 0 ≤ x.1 ∧ x.1 ≤ 3) (m : List UInt8) : pI (encI x ++ m) = some (x, m) := by
  obtain ⟨k, u⟩ := x
  simp only at h
  unfold pI encI
  simp only [List.cons_append, List.nil_append]
  rw [bI_nat h.1, pB_enc (by omega) (by omega)]
  simp only [Option.bind_some]
  have e : pB 1 ((if u = true then 1 else 0) :: m) = some (if u = true then 1 else 0, m) := by cases u <;> rfl
  rw [e]
  simp only [Option.bind_some]
  rw [show ((k.toNat : Nat) : Int) = k by omega]
  cases u <;> rfl
theorem pMany_enc {α : Type} {p : List UInt8 → Option (α × List UInt8)} {e : α → List UInt8} : ∀ (l : List α) (m : List UInt8), (∀ a ∈ l, ∀ m, p (e a ++ m) = some (a, m)) → pMany p l.length (l.flatMap e ++ m) = some (l, m)
  | [], m, _ => rfl
  | a :: l, m, h => by
    rw [List.length_cons, List.flatMap_cons, List.append_assoc]
    unfold pMany
    rw [h a (by simp)]
    simp only [Option.bind_some]
    rw [pMany_enc l m (fun b hb => h b (by simp [hb]))]; rfl
theorem decS_enc {s : Sch} (h : rightS s = true) : decS (encS s) = some s := by
  have h1 := name_len (name_of h)
  have h3 := len3 h
  obtain ⟨n, c, x⟩ := s
  have hc := col_of h
  have hx := idx_of h
  simp only at h1 h3 hc hx
  unfold decS pS encS
  simp only
  rw [pN_enc h1.2]
  simp only [Option.bind_some]
  rw [pB_enc (by omega) (by omega)]
  simp only [Option.bind_some]
  rw [pMany_enc c _ (fun a ha m => pC_enc (hc a ha) m)]
  simp only [Option.bind_some]
  rw [pB_enc (by omega) (by omega)]
  simp only [Option.bind_some]
  have hq := pMany_enc (p := pI) (e := encI) x [] (fun a ha m => pI_enc (by have := hx a ha; omega) m)
  rw [List.append_nil] at hq
  rw [hq]
  simp only [Option.bind_some]
  rw [if_pos ⟨trivial, h⟩]
/-! What is read was written so. -/
theorem pN_inv {m l r : List UInt8} (h : pN m = some (l, r)) : l.length ≤ 8 ∧ m = UInt8.ofNat l.length :: (l ++ r) := by
  match m, h with
  | [], h => cases h
  | n :: t, h =>
    rw [pN_cons] at h
    by_cases g : n.toNat ≤ 8 ∧ n.toNat ≤ t.length
    · rw [if_pos g] at h
      simp only [Option.some.injEq, Prod.mk.injEq] at h
      obtain ⟨rfl, rfl⟩ := h
      have : (t.take n.toNat).length = n.toNat := by rw [List.length_take]; omega
      refine ⟨by omega, ?_⟩
      rw [this, List.take_append_drop, UInt8.ofNat_toNat]
    · rw [if_neg g] at h; cases h
theorem pB_inv {most k : Nat} {m r : List UInt8} (h : pB most m = some (k, r)) : k ≤ most ∧ k < 256 ∧ m = UInt8.ofNat k :: r := by
  match m, h with
  | [], h => cases h
  | b :: t, h =>
    rw [pB_cons] at h
    by_cases g : b.toNat ≤ most
    · rw [if_pos g] at h
      simp only [Option.some.injEq, Prod.mk.injEq] at h
      obtain ⟨rfl, rfl⟩ := h
      exact ⟨g, b.toNat_lt, by rw [UInt8.ofNat_toNat]⟩
    · rw [if_neg g] at h; cases h
theorem bind_inv {α β : Type} {x : Option α} {f : α → Option β} {b : β} (h : x.bind f = some b) : ∃ a, x = some a ∧ f a = some b := by
  cases x with
  | none => cases h
  | some a => exact ⟨a, rfl, h⟩
theorem pC_inv {m r : List UInt8} {c : Col} (h : pC m = some (c, r)) : m = encC c ++ r := by
  unfold pC at h
  obtain ⟨a, h1, h⟩ := bind_inv h
  obtain ⟨k, h2, h⟩ := bind_inv h
  obtain ⟨x, h3, h⟩ := bind_inv h
  simp only [Option.some.injEq, Prod.mk.injEq] at h
  obtain ⟨rfl, rfl⟩ := h
  obtain ⟨_, e1⟩ := pN_inv (l := a.1) (r := a.2) h1
  obtain ⟨_, _, e2⟩ := pB_inv (k := k.1) (r := k.2) h2
  obtain ⟨_, _, e3⟩ := pB_inv (k := x.1) (r := x.2) h3
  unfold encC
  rw [bI_nat (by simp only; omega), bI_nat (by simp only; omega), e1, e2, e3]
  simp [List.append_assoc]
theorem pI_inv {m r : List UInt8} {x : Ix} (h : pI m = some (x, r)) : m = encI x ++ r := by
  unfold pI at h
  obtain ⟨k, h2, h⟩ := bind_inv h
  obtain ⟨y, h3, h⟩ := bind_inv h
  simp only [Option.some.injEq, Prod.mk.injEq] at h
  obtain ⟨rfl, rfl⟩ := h
  obtain ⟨_, _, e2⟩ := pB_inv (k := k.1) (r := k.2) h2
  obtain ⟨b1, _, e3⟩ := pB_inv (k := y.1) (r := y.2) h3
  unfold encI
  rw [bI_nat (by simp only; omega), e2, e3]
  have : y.1 = 0 ∨ y.1 = 1 := by omega
  rcases this with g | g <;> rw [g] <;> simp
theorem pMany_inv {α : Type} {p : List UInt8 → Option (α × List UInt8)} {e : α → List UInt8} (hp : ∀ m a r, p m = some (a, r) → m = e a ++ r) : ∀ (n : Nat) (m : List UInt8) (l : List α) (r : List UInt8), pMany p n m = some (l, r) → l.length = n ∧ m = l.flatMap e ++ r
  | 0, m, l, r, h => by
    unfold pMany at h
    simp only [Option.some.injEq, Prod.mk.injEq] at h
    obtain ⟨rfl, rfl⟩ := h
    exact ⟨rfl, rfl⟩
  | n + 1, m, l, r, h => by
    unfold pMany at h
    obtain ⟨a, h1, h⟩ := bind_inv h
    obtain ⟨q, h2, h⟩ := bind_inv h
    simp only [Option.some.injEq, Prod.mk.injEq] at h
    obtain ⟨rfl, rfl⟩ := h
    obtain ⟨k1, k2⟩ := pMany_inv hp n a.2 q.1 q.2 h2
    refine ⟨by rw [List.length_cons, k1], ?_⟩
    rw [hp m a.1 a.2 h1, k2, List.flatMap_cons, List.append_assoc]
theorem decS_inv {b : List UInt8} {s : Sch} (h : decS b = some s) : rightS s = true ∧ encS s = b := by
  unfold decS at h
  obtain ⟨q, hq, h⟩ := bind_inv h
  by_cases g : q.2 = [] ∧ rightS q.1 = true
  · rw [if_pos g] at h
    cases h
    refine ⟨g.2, ?_⟩
    unfold pS at hq
    obtain ⟨a, h1, hq⟩ := bind_inv hq
    obtain ⟨k, h2, hq⟩ := bind_inv hq
    obtain ⟨c, h3, hq⟩ := bind_inv hq
    obtain ⟨j, h4, hq⟩ := bind_inv hq
    obtain ⟨x, h5, hq⟩ := bind_inv hq
    simp only [Option.some.injEq] at hq
    subst hq
    simp only at g
    obtain ⟨_, e1⟩ := pN_inv (l := a.1) (r := a.2) h1
    obtain ⟨_, _, e2⟩ := pB_inv (k := k.1) (r := k.2) h2
    obtain ⟨n1, e3⟩ := pMany_inv (e := encC) (fun m a r h => pC_inv h) _ _ c.1 c.2 h3
    obtain ⟨_, _, e4⟩ := pB_inv (k := j.1) (r := j.2) h4
    obtain ⟨n2, e5⟩ := pMany_inv (e := encI) (fun m a r h => pI_inv h) _ _ x.1 x.2 h5
    unfold encS
    simp only
    rw [g.1, List.append_nil] at e5
    rw [e1, e2, e3, e4, e5, n1, n2]
  · rw [if_neg g] at h; cases h
end Go.Proofs.YtdfbknkgmhddcaaDoor
