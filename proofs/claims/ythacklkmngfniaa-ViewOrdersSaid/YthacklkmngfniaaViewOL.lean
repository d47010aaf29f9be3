/- ViewOrders in plain terms. -/
import Derived.Test.YthacklkmngfniaaViewO
import Derived.Test.YthacklkmngfniaaViewL
set_option linter.unusedVariables false
set_option linter.unusedSimpArgs false
namespace Go.Proofs.Ythacklkmngfniaa
open Go Go.RowKit
abbrev R0 : Unit × (Int × Int × Int × Int × Int × Int × Int × Int × Int × Int × Int × Int × Int × Int × Int × Int × Int) × (Int × Int × Int × Int) × (Int × Int × Int × Int) × (List (Int × Int)) × (Int × Bool × Int × Int × Int × Int × Int) × (List (Int × (List UInt8))) × (List (Int × (List UInt8))) × (List (Int × Int)) × (List (Int × Int)) × (List Chg) := ((), loc0, tre0, pag0, [], dsk0, [], [], [], [], [])
/-- What is noted behind an act, wrong or not. -/
def noteA (nt : Nat → Option Nat) (a : Int × Int × Int) : Nat → Option Nat := if a.2.1 < 0 ∨ a.2.1 > 3 ∨ a.2.2 < 0 ∨ a.2.2 > 2147483647 then nt else noteN nt a.2.1.toNat a.2.2.toNat
theorem noteN_comm (nt : Nat → Option Nat) (s p t q : Nat) : noteN (noteN nt s p) t q = noteN (noteN nt t q) s p := by
  funext i
  unfold noteN
  by_cases h1 : i = s <;> by_cases h2 : i = t
  · subst h1; subst h2; simp; omega
  · subst h1; simp [h2, Ne.symm h2]
  · subst h2; simp [h1, Ne.symm h1]
  · simp [h1, h2]
theorem noteA_comm (nt : Nat → Option Nat) (a b : Int × Int × Int) : noteA (noteA nt a) b = noteA (noteA nt b) a := by
  unfold noteA
  split <;> split <;> first | rfl | exact noteN_comm _ _ _ _ _
theorem fold_out (l : List (Int × Int × Int)) : ∀ nt a, l.foldl noteA (noteA nt a) = noteA (l.foldl noteA nt) a := by
  induction l with
  | nil => intro nt a; rfl
  | cons b l ih => intro nt a; simp only [List.foldl_cons]; rw [noteA_comm, ih]
theorem fold_rev (l : List (Int × Int × Int)) (nt : Nat → Option Nat) : l.reverse.foldl noteA nt = l.foldl noteA nt := by
  induction l with
  | nil => rfl
  | cons a l ih => rw [List.reverse_cons, List.foldl_append, ih]; show noteA (List.foldl noteA nt l) a = List.foldl noteA (noteA nt a) l; rw [fold_out]
theorem Note_a {l : List Chg} {nt : Nat → Option Nat} {ver : Option Nat} {n : Nat} (h : VInv l nt ver n) (hn : n ≤ 1000) (a : Int × Int × Int) :
    ∃ e l', view_Note.impl loc0 tre0 pag0 [] dsk0 [] [] [] [] l a.2.1 a.2.2 = some (e, l') ∧ VInv l' (noteA nt a) ver (n + 1) := by
  unfold noteA
  by_cases hb : a.2.1 < 0 ∨ a.2.1 > 3 ∨ a.2.2 < 0 ∨ a.2.2 > 2147483647
  · rw [if_pos hb]; exact ⟨1, l, Note_bad hb, h.up (by omega)⟩
  · rw [if_neg hb]
    obtain ⟨s, hs⟩ := Int.eq_ofNat_of_zero_le (show 0 ≤ a.2.1 by omega)
    obtain ⟨p, hp⟩ := Int.eq_ofNat_of_zero_le (show 0 ≤ a.2.2 by omega)
    obtain ⟨l', e, i⟩ := Note_v h hn (s := s) (p := p) (by omega) (by omega)
    refine ⟨0, l', ?_, ?_⟩
    · rw [hs, hp]; exact e
    · rw [hs, hp]; exact i
theorem orders_is (l0 : List (Int × Int × Int)) : law20_ViewOrders.impl l0 = some true := by
  unfold law20_ViewOrders.impl
  rw [New_0]
  simp only [Option.bind_some]
  obtain ⟨L, hL⟩ : ∃ L, L = l0.take 30 := ⟨_, rfl⟩
  have hlen : L.length = min l0.length 30 := by rw [hL, List.length_take, Nat.min_comm]
  have hmin : (min ((l0.length : Int)) 30) = (L.length : Int) := by omega
  have hget : ∀ i : Nat, i < L.length → ∃ a, l0.getD i default = a ∧ L[i]? = some a := by
    intro i hi
    refine ⟨l0.getD i default, rfl, ?_⟩
    rw [hL, List.getElem?_take_of_lt (by omega)]
    simp [List.getD, show i < l0.length by omega]
  let I : (List Chg × List Chg × Int) → Prop := fun s => ∃ la lb, ∃ i : Nat, s = (la, lb, (i : Int)) ∧ i ≤ L.length ∧ VInv la ((L.take i).foldl noteA (fun _ => none)) none i ∧ VInv lb ((L.reverse.take i).foldl noteA (fun _ => none)) none i
  have key := loop_inv (step := law20_ViewOrders.st2 l0 R0 R0) (I := I) (Q := fun r => VInv r.1 (L.foldl noteA (fun _ => none)) none 30 ∧ VInv r.2 (L.foldl noteA (fun _ => none)) none 30) (fun s => L.length - s.2.2.toNat) (by
    rintro s ⟨la, lb, i, rfl, hi, ha, hb⟩
    unfold law20_ViewOrders.st2
    simp only [hmin]
    by_cases g : i < L.length
    · right
      rw [ite_dt (show (i : Int) < L.length by omega)]
      rw [i64_id (n := (L.length : Int) - 1) (by omega), i64_id (n := (L.length : Int) - 1 - (i : Int)) (by omega)]
      rw [chk_true (by omega), chk_true (by omega)]
      have hj : (L.length : Int) - 1 - (i : Int) = ((L.length - 1 - i : Nat) : Int) := by omega
      obtain ⟨a, ea, la'⟩ := hget i g
      obtain ⟨b, eb, lb'⟩ := hget (L.length - 1 - i) (by omega)
      obtain ⟨e1, l1, n1, i1⟩ := Note_a ha (by omega) a
      obtain ⟨e2, l2, n2, i2⟩ := Note_a hb (by omega) b
      refine ⟨(l1, l2, ((i + 1 : Nat) : Int)), ?_, ⟨l1, l2, i + 1, rfl, by omega, ?_, ?_⟩, by simp; omega⟩
      · unfold law20_ViewOrders.k4
        simp only [hmin]
        rw [i64_id (n := (L.length : Int) - 1) (by omega), i64_id (n := (L.length : Int) - 1 - (i : Int)) (by omega), hj]
        simp only [Int.toNat_natCast, ea, eb]
        simp only [R0, loc0, tre0, pag0, dsk0] at n1 n2 ⊢
        rw [n1]
        simp only [Option.bind_some]
        rw [n2]
        simp only [Option.bind_some]
        rw [i64_id (by omega)]; rfl
      · have : L.take (i + 1) = L.take i ++ [a] := by rw [List.take_add_one, la']; rfl
        rw [this, List.foldl_append]; exact i1
      · have : L.reverse.take (i + 1) = L.reverse.take i ++ [b] := by
          rw [List.take_add_one, List.getElem?_reverse (by omega), lb']; rfl
        rw [this, List.foldl_append]; exact i2
    · left
      rw [ite_df (show ¬ (i : Int) < L.length by omega)]
      have hiL : i = L.length := by omega
      subst hiL
      refine ⟨_, rfl, ?_, ?_⟩
      · rw [List.take_length] at ha; exact ha.up (by omega)
      · rw [List.take_of_length_le (by simp), fold_rev] at hb; exact hb.up (by omega))
  obtain ⟨⟨la, lb⟩, h1, ha, hb⟩ := key ([], [], 0) ⟨[], [], 0, rfl, by omega, VInv.nil, VInv.nil⟩
  simp only [R0, loc0, tre0, pag0, dsk0] at h1 ⊢
  rw [h1]
  simp only [Option.bind_some]
  unfold law20_ViewOrders.k1
  have lp : loop (law20_ViewOrders.st1 R0 (la, lb) R0) ((0 : Nat) : Int) = some (.inr ()) := by
    refine loop_up (fun i : Nat => (i : Int)) 4 (fun i hi => ?_) (by unfold law20_ViewOrders.st1; rw [ite_df (by decide)])
    have e1 := Get_v ha (by omega) hi
    have e2 := Get_v hb (by omega) hi
    unfold law20_ViewOrders.st1
    rw [ite_dt (by omega)]
    simp only [R0, loc0, tre0, pag0, dsk0] at e1 e2 ⊢
    rw [e1]
    simp only [Option.bind_some]
    rw [e2]
    simp only [Option.bind_some, decide_true, if_true, Bool.not_true]
    unfold law20_ViewOrders.k3
    simp only [Bool.false_eq_true, if_false]
    rw [i64_id (by omega)]; rfl
  simp only [R0, loc0, tre0, pag0, dsk0] at lp
  have lp' : loop (law20_ViewOrders.st1 _ (la, lb) _) 0 = some (.inr ()) := lp
  rw [lp']
  simp only [Option.bind_some]
  unfold law20_ViewOrders.k2
  have e1 := Least_v ha (by omega)
  have e2 := Least_v hb (by omega)
  simp only [loc0, tre0, pag0, dsk0] at e1 e2 ⊢
  rw [e1]
  simp only [Option.bind_some]
  rw [e2]
  simp [told_is]
end Go.Proofs.Ythacklkmngfniaa
