/- The lease in plain terms. -/
import Derived.Test.YtodijocajcohjaaLease
import Derived.Test.YtodijocajcohjaaDraftL
set_option linter.unusedVariables false
set_option linter.unusedSimpArgs false
namespace Go.Proofs.Ytodijocajcohjaa
open Go Go.RowKit
abbrev Lea := Int × Int × Int
theorem or2 {d h : Nat} (hd : d ≤ 1048576) (hh : h < 4) : bitsOf .or .i64 (shlI .i64 (d : Int) 2) (h : Int) = ((d * 4 + h : Nat) : Int) := by
  have h1 : shlI .i64 (d : Int) 2 = ((d * 4 : Nat) : Int) := by
    unfold shlI
    rw [show min (2 : Int).toNat IntKind.i64.bits = 2 from rfl, i64_id (by omega)]; omega
  have h2 : (d <<< 2 ||| h) = d * 4 + h := by rw [← Nat.shiftLeft_add_eq_or_of_lt (by omega), Nat.shiftLeft_eq]
  rw [h1]
  show IntKind.i64.wrap ((BitVec.ofInt 64 ((d * 4 : Nat) : Int) ||| BitVec.ofInt 64 (h : Int)).toNat : Nat) = _
  rw [BitVec.ofInt_natCast, BitVec.ofInt_natCast, BitVec.toNat_or, BitVec.toNat_ofNat, BitVec.toNat_ofNat, Nat.mod_eq_of_lt (by omega), Nat.mod_eq_of_lt (by omega), show d * 4 = d <<< 2 by rw [Nat.shiftLeft_eq], h2, i64_id (by omega), Nat.shiftLeft_eq]
def kl : List UInt8 := [1]
theorem okl : okK 5 kl := ⟨⟨by omega, by omega⟩, by simp [kl], by simp [kl]⟩
/-- What the changes say of the lease. -/
def LInv (l : List Chg) (L : Lea) (n : Nat) : Prop := l.length ≤ n ∧ (∀ c ∈ l, c.1.2.2.length ≤ 1800) ∧
  (getL l 5 kl = none ∧ L = (-1, 0, 0) ∨ ∃ h d g : Nat, L = ((h : Int), (d : Int), (g : Int)) ∧ h < 4 ∧ d ≤ 1048576 ∧ g < 9223372036854775808 ∧ getL l 5 kl = some (uint (d * 4 + h) ++ uint g))
theorem LInv.nil : LInv [] (-1, 0, 0) 0 := ⟨by simp, fun c h => (List.not_mem_nil h).elim, .inl ⟨rfl, rfl⟩⟩
theorem LInv.up {l : List Chg} {L : Lea} {n m : Nat} (h : LInv l L n) (hm : n ≤ m) : LInv l L m := ⟨by have := h.1; omega, h.2⟩
theorem isK_kl (v : List UInt8) (g : Bool) : isK 5 kl ((5, kl, v), g) = true := by simp [isK]
theorem LInv.put {l : List Chg} {L : Lea} {n : Nat} (hI : LInv l L n) {h d g : Nat} (hh : h < 4) (hd : d ≤ 1048576) (hg : g < 9223372036854775808) : LInv (l ++ [((5, kl, uint (d * 4 + h) ++ uint g), false)]) ((h : Int), (d : Int), (g : Int)) (n + 1) := by
  have l1 := uint_le (n := d * 4 + h) (by omega)
  have l2 := uint_le hg
  refine ⟨by simp; exact hI.1, fun c hc => ?_, .inr ⟨h, d, g, rfl, hh, hd, hg, ?_⟩⟩
  · rcases List.mem_append.1 hc with q | q
    · exact hI.2.1 c q
    · rw [List.mem_singleton.1 q]; simp; omega
  · unfold getL; rw [lastC_add, if_pos (isK_kl _ _)]; simp
theorem LInv.del {l : List Chg} {L : Lea} {n : Nat} (hI : LInv l L n) : LInv (l ++ [((5, kl, []), true)]) (-1, 0, 0) (n + 1) := by
  refine ⟨by simp; exact hI.1, fun c hc => ?_, .inl ⟨?_, rfl⟩⟩
  · rcases List.mem_append.1 hc with q | q
    · exact hI.2.1 c q
    · rw [List.mem_singleton.1 q]; simp
  · unfold getL; rw [lastC_add, if_pos (isK_kl _ _)]; simp
theorem Now_is {l : List Chg} {L : Lea} {n : Nat} (hI : LInv l L n) (hn : n ≤ 1000) : lease_Now.impl loc0 tre0 pag0 [] dsk0 [] [] [] [] l = some (L, 0) := by
  obtain ⟨h1, h2, h3⟩ := hI
  obtain ⟨v, e1, e2⟩ := Get_is l (by omega) h2 okl
  unfold lease_Now.impl lease_key.impl
  simp only [Option.bind_some]
  simp only [loc0, tre0, pag0, dsk0, kl] at e1 ⊢
  rw [e1]
  simp only [Option.bind_some, decide_true, Bool.not_true, Bool.false_eq_true, if_false]
  rcases h3 with ⟨g, rfl⟩ | ⟨h, d, g, rfl, hh, hd, hg, e3⟩
  · simp only [kl] at g
    rw [g]; simp [lease_nobody.impl]
  · simp only [kl] at e2 e3
    have hv := e2 _ e3
    rw [e3]
    have l1 := uint_le (n := d * 4 + h) (by omega)
    have l2 := uint_le hg
    have r1 := RU_uint (n := d * 4 + h) [] (uint g) (by omega) (by simp; omega)
    have r2 := RU_uint (n := g) (uint (d * 4 + h)) [] hg (by simp; omega)
    simp only [List.nil_append, List.length_nil, List.append_nil, Nat.zero_add] at r1 r2
    rw [show (((0 : Nat) : Int)) = (0 : Int) from rfl] at r1
    simp only [Option.isSome_some, Bool.not_true, Bool.false_eq_true, if_false, hv, r1, Option.bind_some, decide_true, r2]
    congr 2
    refine Prod.ext ?_ (Prod.ext ?_ rfl)
    · show bitsOf .and .i64 ((d * 4 + h : Nat) : Int) 3 = (h : Int)
      rw [i64_mask 2 (by omega) _ 3 (by decide)]; omega
    · show shrI .i64 ((d * 4 + h : Nat) : Int) 2 = (d : Int)
      rw [shr_nat .i64 _ (by decide), show (2 : Int).toNat = 2 from rfl, Nat.shiftRight_eq_div_pow]
      congr 1; omega
def mayL (L : Lea) (s : Int) : Bool := decide (L.1 = -1) || decide (L.1 = s)
theorem May_is (L : Lea) (s : Int) : lease_May.impl L s = some (mayL L s) := by
  unfold lease_May.impl mayL
  by_cases h : L.1 = -1
  · rw [ite_dt h]; simp [h]
  · rw [ite_df h]; simp [h]
theorem Grant_bad {l : List Chg} {s d g : Int} (hb : s < 0 ∨ s > 3 ∨ d < 1 ∨ d > 1048576 ∨ g < 0) : lease_Grant.impl loc0 tre0 pag0 [] dsk0 [] [] [] [] l s d g = some (false, 1, l) := by
  have key : lease_Grant.k1 l loc0 tre0 pag0 [] dsk0 [] [] [] [] s d g true = some (false, 1, l) := by unfold lease_Grant.k1; simp only [if_true]
  unfold lease_Grant.impl
  by_cases h1 : s < 0
  · rw [ite_dt h1, key]
  rw [ite_df h1]
  by_cases h2 : (4 : Int) ≤ s
  · rw [ite_dt h2, key]
  rw [ite_df h2]
  by_cases h3 : d < 1
  · rw [ite_dt h3, key]
  rw [ite_df h3]
  by_cases h4 : (1048576 : Int) < d
  · rw [ite_dt h4, key]
  rw [ite_df h4, decide_eq_true (show g < 0 by omega), key]
theorem Grant_is {l : List Chg} {L : Lea} {n : Nat} (hI : LInv l L n) (hn : n ≤ 1000) {s d g : Nat} (hs : s < 4) (hd : 1 ≤ d ∧ d ≤ 1048576) (hg : g < 9223372036854775808) :
    ∃ l', lease_Grant.impl loc0 tre0 pag0 [] dsk0 [] [] [] [] l (s : Int) (d : Int) (g : Int) = some (mayL L s, 0, l') ∧ LInv l' (if mayL L s = true then ((s : Int), (d : Int), (g : Int)) else L) (n + 1) := by
  have e0 := Now_is hI hn
  have e2 := May_is L s
  unfold lease_Grant.impl
  rw [ite_df (by omega), ite_df (by omega), ite_df (by omega), ite_df (by omega), decide_eq_false (by omega)]
  unfold lease_Grant.k1
  simp only [Bool.false_eq_true, if_false]
  simp only [loc0, tre0, pag0, dsk0] at e0 ⊢
  rw [e0]
  simp only [Option.bind_some, decide_true, if_true]
  rw [e2]
  simp only [Option.bind_some]
  unfold lease_Grant.k2
  cases hm : mayL L s with
  | false => exact ⟨l, rfl, hI.up (by omega)⟩
  | true =>
    have hp := Put_is l (by have := hI.1; omega) (v := uint (d * 4 + s) ++ uint g) okl (by
      have l1 := uint_le (n := d * 4 + s) (by omega)
      have l2 := uint_le hg
      simp; omega)
    refine ⟨l ++ [((5, kl, uint (d * 4 + s) ++ uint g), false)], ?_, hI.put hs hd.2 hg⟩
    have l1 := uint_le (n := d * 4 + s) (by omega)
    have l2 := uint_le hg
    simp only [Bool.not_true, Bool.false_eq_true, if_false, lease_key.impl, lease_bytes.impl, Option.bind_some, or2 hd.2 hs, Uint_is (show d * 4 + s < 9223372036854775808 by omega), Uint_is hg]
    rw [chk_true (by omega)]
    simp only [Option.bind_some, loc0, tre0, pag0, dsk0, kl] at hp ⊢
    rw [hp]
    simp
def endsL (L : Lea) (g : Int) : Bool := !decide (L.1 < 0) && decide (L.2.2 = g)
theorem End_is {l : List Chg} {L : Lea} {n : Nat} (hI : LInv l L n) (hn : n ≤ 1000) (g : Int) :
    ∃ l', lease_End.impl loc0 tre0 pag0 [] dsk0 [] [] [] [] l g = some (endsL L g, 0, l') ∧ LInv l' (if endsL L g = true then (-1, 0, 0) else L) (n + 1) := by
  have e0 := Now_is hI hn
  have hp := Delete_is l (by have := hI.1; omega) okl
  unfold lease_End.impl
  simp only [loc0, tre0, pag0, dsk0, kl] at e0 hp ⊢
  rw [e0]
  simp only [Option.bind_some, decide_true, if_true]
  unfold lease_End.k1 endsL
  by_cases h1 : L.1 < 0
  · rw [ite_dt h1]; simp only [if_true, h1, decide_true, Bool.not_true, Bool.false_and]
    exact ⟨l, rfl, by simpa using hI.up (by omega)⟩
  · rw [ite_df h1]
    by_cases h2 : L.2.2 = g
    · simp only [h1, h2, decide_true, decide_false, Bool.not_true, Bool.not_false, Bool.and_true, Bool.false_eq_true, if_false, if_true, lease_key.impl, Option.bind_some]
      rw [hp]
      exact ⟨_, rfl, hI.del⟩
    · simp only [h1, h2, decide_true, decide_false, Bool.not_true, Bool.not_false, Bool.and_false, Bool.false_eq_true, if_false, if_true]
      exact ⟨l, rfl, hI.up (by omega)⟩
end Go.Proofs.Ytodijocajcohjaa
