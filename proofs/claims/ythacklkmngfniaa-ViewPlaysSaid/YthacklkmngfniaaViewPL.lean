/- ViewPlays in plain terms. -/
import Derived.Test.YthacklkmngfniaaViewP
import Derived.Test.YthacklkmngfniaaViewL
set_option linter.unusedVariables false
set_option linter.unusedSimpArgs false
namespace Go.Proofs.Ythacklkmngfniaa
open Go Go.RowKit
abbrev P0 : Unit × (Int × Int × Int × Int × Int × Int × Int × Int × Int × Int × Int × Int × Int × Int × Int × Int × Int) × (Int × Int × Int × Int) × (Int × Int × Int × Int) × (List (Int × Int)) × (Int × Bool × Int × Int × Int × Int × Int) × (List (Int × (List UInt8))) × (List (Int × (List UInt8))) × (List (Int × Int)) × (List (Int × Int)) × (List Chg) := ((), loc0, tre0, pag0, [], dsk0, [], [], [], [], [])
abbrev Bas := Int × Int × Int × Int × Int × Int × Int × Bool × Bool × Bool × Bool × Int × Int
/-- The document's base for these notes. -/
def bas (nt : Nat → Option Nat) (ver : Option Nat) : Bas := (-1, 0, 0, ((nt 0).getD 0 : Nat), ((nt 1).getD 0 : Nat), ((nt 2).getD 0 : Nat), ((nt 3).getD 0 : Nat), (nt 0).isSome, (nt 1).isSome, (nt 2).isSome, (nt 3).isSome, ((ver.getD 1 : Nat) : Int), 0)
theorem four {P : Nat → Prop} (h0 : P 0) (h1 : P 1) (h2 : P 2) (h3 : P 3) : ∀ s < 4, P s := by
  intro s hs
  match s, hs with
  | 0, _ => exact h0
  | 1, _ => exact h1
  | 2, _ => exact h2
  | 3, _ => exact h3
  | n + 4, h => omega
theorem getD_note (nt : Nat → Option Nat) (s p i : Nat) : (noteN nt s p i).getD 0 = if i = s then max ((nt s).getD 0) p else (nt i).getD 0 := by
  unfold noteN; split <;> rfl
theorem isSome_note (nt : Nat → Option Nat) (s p i : Nat) : (noteN nt s p i).isSome = if i = s then true else (nt i).isSome := by
  unfold noteN; split <;> rfl
theorem rNote_is (nt : Nat → Option Nat) (ver : Option Nat) (p : Nat) : ∀ s < 4, ref21_Base_Note.impl (bas nt ver) ((s : Nat) : Int) (p : Int) = some (bas (noteN nt s p) ver) := by
  refine four ?_ ?_ ?_ ?_ <;>
  · unfold ref21_Base_Note.impl bas
    simp only [getD_note, isSome_note, chk]
    simp
    try omega
theorem rRaise_is (nt : Nat → Option Nat) (ver : Option Nat) (v : Int) : ref21_Base_Raise.impl (bas nt ver) v = some (decide (ver.getD 1 = 1 ∧ v = 2), bas nt (if ver.getD 1 = 1 ∧ v = 2 then some 2 else ver)) := by
  unfold ref21_Base_Raise.impl ref21_Base_Raise.k1 bas
  by_cases h1 : v = 2
  · rw [ite_dt h1]
    by_cases h2 : ver.getD 1 = 1
    · simp [h1, h2]
    · have : ¬ ((ver.getD 1 : Nat) : Int) = 1 := by omega
      simp [h1, h2, this]
  · rw [ite_df h1]; simp [h1]
def nx (o : Option Nat) (u : Nat × Bool) : Nat × Bool := match o with
  | none => u
  | some x => if u.2 = true then (if x < u.1 then (x, true) else u) else (x, true)
theorem leastS_nx (nt : Nat → Option Nat) (i : Nat) : leastS nt (i + 1) = nx (nt i) (leastS nt i) := rfl
theorem st_g (nt : Nat → Option Nat) (ver : Option Nat) (u : Nat × Bool) : ∀ i < 4, ref21_Base_Least.st1 (bas nt ver) ((u.1 : Int), u.2, ((i : Nat) : Int)) = some (.inl (((nx (nt i) u).1 : Int), (nx (nt i) u).2, ((i + 1 : Nat) : Int))) := by
  obtain ⟨a, b⟩ := u
  have w0 : IntKind.i64.wrap 1 = 1 := by decide
  have w1 : IntKind.i64.wrap 2 = 2 := by decide
  have w2 : IntKind.i64.wrap 3 = 3 := by decide
  have w3 : IntKind.i64.wrap 4 = 4 := by decide
  refine four ?_ ?_ ?_ ?_
  · unfold ref21_Base_Least.st1 ref21_Base_Least.k3 ref21_Base_Least.k2 bas nx
    cases nt 0 with
    | none => cases b <;> simp [chk, w0]
    | some x => cases b with
      | false => simp [chk, w0]
      | true => by_cases g : x < a <;> simp [chk, w0, g]
  · unfold ref21_Base_Least.st1 ref21_Base_Least.k3 ref21_Base_Least.k2 bas nx
    cases nt 1 with
    | none => cases b <;> simp [chk, w1]
    | some x => cases b with
      | false => simp [chk, w1]
      | true => by_cases g : x < a <;> simp [chk, w1, g]
  · unfold ref21_Base_Least.st1 ref21_Base_Least.k3 ref21_Base_Least.k2 bas nx
    cases nt 2 with
    | none => cases b <;> simp [chk, w2]
    | some x => cases b with
      | false => simp [chk, w2]
      | true => by_cases g : x < a <;> simp [chk, w2, g]
  · unfold ref21_Base_Least.st1 ref21_Base_Least.k3 ref21_Base_Least.k2 bas nx
    cases nt 3 with
    | none => cases b <;> simp [chk, w3]
    | some x => cases b with
      | false => simp [chk, w3]
      | true => by_cases g : x < a <;> simp [chk, w3, g]
theorem rLeast_is (nt : Nat → Option Nat) (ver : Option Nat) : ref21_Base_Least.impl (bas nt ver) = some (((leastS nt 4).1 : Int), (leastS nt 4).2) := by
  unfold ref21_Base_Least.impl
  have st : ∀ i < 4, ref21_Base_Least.st1 (bas nt ver) (((leastS nt i).1 : Int), (leastS nt i).2, ((i : Nat) : Int)) = some (.inl (((leastS nt (i + 1)).1 : Int), (leastS nt (i + 1)).2, ((i + 1 : Nat) : Int))) := fun i hi => by
    rw [leastS_nx]; exact st_g nt ver (leastS nt i) i hi
  have key : loop (ref21_Base_Least.st1 (bas nt ver)) (((leastS nt 0).1 : Int), (leastS nt 0).2, ((0 : Nat) : Int)) = some (((leastS nt 4).1 : Int), (leastS nt 4).2) :=
    loop_up (fun i : Nat => (((leastS nt i).1 : Int), (leastS nt i).2, (i : Int))) 4 (fun i hi => st i hi) (by unfold ref21_Base_Least.st1; rw [ite_df (show ¬ (((4 : Nat) : Int) < 4) by omega)])
  have k' : loop (ref21_Base_Least.st1 (bas nt ver)) (0, false, 0) = some (((leastS nt 4).1 : Int), (leastS nt 4).2) := key
  rw [k']
  rfl
abbrev Stt := List Chg × Int × Int × Int × Int × Int × Int × Int × Bool × Bool × Bool × Bool × Int × Int × Int
def stOf (l : List Chg) (b : Bas) (i : Int) : Stt := (l, b.1, b.2.1, b.2.2.1, b.2.2.2.1, b.2.2.2.2.1, b.2.2.2.2.2.1, b.2.2.2.2.2.2.1, b.2.2.2.2.2.2.2.1, b.2.2.2.2.2.2.2.2.1, b.2.2.2.2.2.2.2.2.2.1, b.2.2.2.2.2.2.2.2.2.2.1, b.2.2.2.2.2.2.2.2.2.2.2.1, b.2.2.2.2.2.2.2.2.2.2.2.2, i)
theorem pl_k4 {l : List Chg} {nt : Nat → Option Nat} {ver : Option Nat} {n i : Nat} (h : VInv l nt ver n) (hn : n ≤ 1000) (hi : i ≤ 60) (p : Stt) (hp : p.2.2.2.2.2.2.2.2.2.2.2.2.2.2 = (i : Int)) :
    law20_ViewPlays.k4 P0 p (l, bas nt ver) = some (.inl (stOf l (bas nt ver) ((i + 1 : Nat) : Int))) := by
  have e0 := Least_v h hn
  have e1 := rLeast_is nt ver
  have e2 := Version_v h hn
  unfold law20_ViewPlays.k4
  simp only [P0, loc0, tre0, pag0, dsk0] at e0 e1 e2 ⊢
  rw [e0]
  simp only [Option.bind_some]
  rw [e1]
  simp only [Option.bind_some]
  rw [e2]
  have hv : (bas nt ver).2.2.2.2.2.2.2.2.2.2.2.1 = ((ver.getD 1 : Nat) : Int) := rfl
  simp only [Option.bind_some, decide_true, if_true, hv, Bool.not_true]
  unfold law20_ViewPlays.k5
  simp only [Bool.false_eq_true, if_false, hp]
  rw [i64_id (by omega)]; rfl
theorem plays_is (l0 : List (Int × Int × Int)) : law20_ViewPlays.impl l0 = some true := by
  unfold law20_ViewPlays.impl
  rw [New_0]
  simp only [Option.bind_some, ref21_New.impl, ref19_None.impl]
  let I : Stt → Prop := fun s => ∃ l nt ver, ∃ i : Nat, s = stOf l (bas nt ver) (i : Int) ∧ i ≤ 60 ∧ VInv l nt ver i ∧ (ver = none ∨ ver = some 2)
  have key := loop_inv (step := law20_ViewPlays.st1 l0 P0) (I := I) (Q := fun r => r = .inr ()) (fun s => 60 - s.2.2.2.2.2.2.2.2.2.2.2.2.2.2.toNat) (by
    rintro s ⟨l, nt, ver, i, rfl, hi, hI, hver⟩
    have stop : law20_ViewPlays.k2 (stOf l (bas nt ver) (i : Int)) l0 P0 false = some (.inr (.inr ())) := by unfold law20_ViewPlays.k2; simp
    have pi : (stOf l (bas nt ver) (i : Int)).2.2.2.2.2.2.2.2.2.2.2.2.2.2 = (i : Int) := rfl
    have pl : (stOf l (bas nt ver) (i : Int)).1 = l := rfl
    have pb : (stOf l (bas nt ver) (i : Int)).2 = ((bas nt ver).1, (bas nt ver).2.1, (bas nt ver).2.2.1, (bas nt ver).2.2.2.1, (bas nt ver).2.2.2.2.1, (bas nt ver).2.2.2.2.2.1, (bas nt ver).2.2.2.2.2.2.1, (bas nt ver).2.2.2.2.2.2.2.1, (bas nt ver).2.2.2.2.2.2.2.2.1, (bas nt ver).2.2.2.2.2.2.2.2.2.1, (bas nt ver).2.2.2.2.2.2.2.2.2.2.1, (bas nt ver).2.2.2.2.2.2.2.2.2.2.2.1, (bas nt ver).2.2.2.2.2.2.2.2.2.2.2.2, (i : Int)) := rfl
    unfold law20_ViewPlays.st1
    rw [pi]
    by_cases g : (i : Int) < l0.length
    · rw [ite_dt g]
      by_cases g2 : (i : Int) < 60
      · right
        suffices h : ∃ l' nt' ver', law20_ViewPlays.k2 (stOf l (bas nt ver) (i : Int)) l0 P0 true = some (.inl (stOf l' (bas nt' ver') ((i + 1 : Nat) : Int))) ∧ VInv l' nt' ver' (i + 1) ∧ (ver' = none ∨ ver' = some 2) by
          obtain ⟨l', nt', ver', h1, h2, h3⟩ := h
          exact ⟨_, by rw [decide_eq_true g2]; exact h1, ⟨l', nt', ver', i + 1, rfl, by omega, h2, h3⟩, by show 60 - ((i + 1 : Nat) : Int).toNat < 60 - (i : Int).toNat; omega⟩
        unfold law20_ViewPlays.k2
        simp only [if_true, pi, Int.toNat_natCast]
        rw [chk_true (by omega)]
        obtain ⟨a, hA⟩ : ∃ a, l0.getD i default = a := ⟨_, rfl⟩
        simp only [hA]
        have same : ∀ l' : List Chg, VInv l' nt ver (i + 1) → law20_ViewPlays.k4 P0 (stOf l (bas nt ver) (i : Int)) (l', bas nt ver) = some (.inl (stOf l' (bas nt ver) ((i + 1 : Nat) : Int))) := fun l' h => pl_k4 h (by omega) hi _ rfl
        suffices k3 : ∃ l' nt' ver', law20_ViewPlays.k3 l0 (stOf l (bas nt ver) (i : Int)) P0 (decide (a.2.1 < 0 ∨ a.2.1 > 3)) = some (.inl (stOf l' (bas nt' ver') ((i + 1 : Nat) : Int))) ∧ VInv l' nt' ver' (i + 1) ∧ (ver' = none ∨ ver' = some 2) by
          by_cases h1 : a.2.1 < 0
          · rw [ite_dt h1]; rw [decide_eq_true (show a.2.1 < 0 ∨ a.2.1 > 3 from .inl h1)] at k3; exact k3
          · rw [ite_df h1]
            rw [show decide (a.2.1 < 0 ∨ a.2.1 > 3) = decide ((3 : Int) < a.2.1) by simp [h1]] at k3; exact k3
        unfold law20_ViewPlays.k3
        simp only [pi, pl, Int.toNat_natCast, hA]
        by_cases c0 : a.1 = 0
        · rw [ite_dt c0]
          by_cases hb : a.2.1 < 0 ∨ a.2.1 > 3 ∨ a.2.2 < 0 ∨ a.2.2 > 2147483647
          · have e1 := Note_bad (l := l) hb
            refine ⟨l, nt, ver, ?_, hI.up (by omega), hver⟩
            have kk : law20_ViewPlays.k6 (1, l) P0 (stOf l (bas nt ver) (i : Int)) l0 true = some (.inl (stOf l (bas nt ver) ((i + 1 : Nat) : Int))) := by
              unfold law20_ViewPlays.k6
              simp only [if_true, decide_true, Bool.not_true, Bool.false_eq_true, if_false]
              exact same l (hI.up (by omega))
            simp only [P0, loc0, tre0, pag0, dsk0] at e1 kk ⊢
            rw [e1]
            simp only [Option.bind_some, decide_eq_true_eq]
            by_cases h1 : a.2.1 < 0 ∨ a.2.1 > 3
            · rw [if_pos h1]; exact kk
            · rw [if_neg h1]
              by_cases h2 : a.2.2 < 0
              · rw [if_pos h2]; exact kk
              · rw [if_neg h2, decide_eq_true (show 2147483647 < a.2.2 by omega)]; exact kk
          · obtain ⟨s, hs⟩ := Int.eq_ofNat_of_zero_le (show 0 ≤ a.2.1 by omega)
            obtain ⟨p, hp⟩ := Int.eq_ofNat_of_zero_le (show 0 ≤ a.2.2 by omega)
            obtain ⟨l', e1, hI'⟩ := Note_v hI (by omega) (s := s) (p := p) (by omega) (by omega)
            have e2 := rNote_is nt ver p s (by omega)
            refine ⟨l', _, ver, ?_, hI', hver⟩
            rw [hs, hp]
            simp only [P0, loc0, tre0, pag0, dsk0] at e1 ⊢
            rw [e1]
            simp only [Option.bind_some]
            rw [ite_df (show ¬ ((s : Int) < 0 ∨ (s : Int) > 3) by omega), ite_df (by omega), decide_eq_false (show ¬ (2147483647 < (p : Int)) by omega)]
            unfold law20_ViewPlays.k6
            simp only [Bool.false_eq_true, if_false, pi, Int.toNat_natCast, hA, hs, hp]
            have e2' : ref21_Base_Note.impl _ (s : Int) (p : Int) = some (bas (noteN nt s p) ver) := e2
            simp only [stOf] at e2' ⊢
            rw [e2']
            simp only [Option.bind_some, decide_true, Bool.not_true, Bool.false_eq_true, if_false]
            exact pl_k4 hI' (by omega) hi _ rfl
        · rw [ite_df c0]
          by_cases c1 : a.1 = 1
          · rw [ite_dt c1]
            refine ⟨l, nt, ver, ?_, hI.up (by omega), hver⟩
            have kk : law20_ViewPlays.k7 P0 (stOf l (bas nt ver) (i : Int)) false = some (.inl (stOf l (bas nt ver) ((i + 1 : Nat) : Int))) := by
              unfold law20_ViewPlays.k7
              simp only [Bool.false_eq_true, if_false]
              exact same l (hI.up (by omega))
            by_cases hb : a.2.1 < 0 ∨ a.2.1 > 3
            · have e1 : view_Get.impl loc0 tre0 pag0 [] dsk0 [] [] [] [] l a.2.1 = some (0, false, 1) := by
                have e1 := right_v l a.2.1
                unfold view_Get.impl
                simp only [loc0, tre0, pag0, dsk0] at e1 ⊢
                rw [e1, decide_eq_false (by omega)]; rfl
              simp only [P0, loc0, tre0, pag0, dsk0] at e1 kk ⊢
              rw [e1]
              simp only [Option.bind_some, hb, decide_true, if_true, Bool.false_eq_true, if_false]
              exact kk
            · obtain ⟨s, hs⟩ := Int.eq_ofNat_of_zero_le (show 0 ≤ a.2.1 by omega)
              have e1 := Get_v hI (by omega) (s := s) (by omega)
              rw [hs]
              simp only [P0, loc0, tre0, pag0, dsk0] at e1 kk ⊢
              rw [e1]
              simp only [Option.bind_some]
              rw [ite_df (show ¬ ((s : Int) < 0 ∨ (s : Int) > 3) by omega)]
              simp only [decide_true, if_true]
              have hs4 : s < 4 := by omega
              clear e1 hb hs
              revert s
              refine four ?_ ?_ ?_ ?_
              all_goals
                simp only [stOf, bas, chk]
                simp
                exact kk
          · rw [ite_df c1]
            have e0 := Version_v hI (by omega)
            obtain ⟨l', e1, hI'⟩ := Raise_v hI (by omega) a.2.2
            have e2 := rRaise_is nt ver a.2.2
            refine ⟨l', nt, _, ?_, hI', ?_⟩
            · simp only [P0, loc0, tre0, pag0, dsk0] at e0 e1 ⊢
              rw [e0]
              simp only [Option.bind_some]
              rw [e1]
              simp only [Option.bind_some, decide_true, if_true]
              have e2' : ref21_Base_Raise.impl _ a.2.2 = some (decide (ver.getD 1 = 1 ∧ a.2.2 = 2), bas nt (if ver.getD 1 = 1 ∧ a.2.2 = 2 then some 2 else ver)) := e2
              simp only [stOf] at e2' ⊢
              rw [e2']
              simp only [Option.bind_some, decide_true, if_true]
              by_cases hr : ver.getD 1 = 1 ∧ a.2.2 = 2
              · simp only [hr, decide_true, if_true, and_self]
                unfold law20_ViewPlays.k8
                simp only [Bool.not_true]
                have := pl_k4 hI' (by omega) hi (stOf l (bas nt ver) (i : Int)) rfl
                simp only [hr, and_self, if_true] at this
                exact this
              · simp only [hr, decide_false, if_false, Bool.false_eq_true]
                unfold law20_ViewPlays.k8
                simp only [Bool.false_eq_true, if_false]
                have := pl_k4 hI' (by omega) hi (stOf l (bas nt ver) (i : Int)) rfl
                simp only [hr, if_false] at this
                exact this
            · split
              · exact .inr rfl
              · exact hver
      · left; rw [show decide ((i : Int) < 60) = false by simpa using g2]; exact ⟨_, stop, rfl⟩
    · left; rw [ite_df g]; exact ⟨_, stop, rfl⟩)
  obtain ⟨r, h1, rfl⟩ := key (stOf [] (bas (fun _ => none) none) 0) ⟨[], fun _ => none, none, 0, rfl, by omega, VInv.nil, .inl rfl⟩
  have h1' : loop (law20_ViewPlays.st1 l0 P0) ([], -1, 0, 0, 0, 0, 0, 0, false, false, false, false, 1, 0, 0) = some (.inr ()) := h1
  rw [h1']
  simp [law20_ViewPlays.k1, told_is]
end Go.Proofs.Ythacklkmngfniaa
