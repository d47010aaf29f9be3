/- SessionPlays in plain terms. -/
import Derived.Test.YtdojooblfemmnaaDoorSessP
import Derived.Test.YtdojooblfemmnaaDoorSessL
set_option linter.unusedVariables false
set_option linter.unusedSimpArgs false
namespace Go.Proofs.YtdojooblfemmnaaDoor
open Go Go.RowKit Go.Lib
/-- The law's own tables. -/
def seqOf (st : Nat → Ses) : List Int := (List.range 8).map fun s => ((sd (st s)).1 : Int)
def keptOf (st : Nat → Ses) : List Rep := (List.range 8).map fun s => (sd (st s)).2
theorem seq_len (st : Nat → Ses) : (seqOf st).length = 8 := by simp [seqOf]
theorem kept_len (st : Nat → Ses) : (keptOf st).length = 8 := by simp [keptOf]
theorem seq_get (st : Nat → Ses) {s : Nat} (hs : s < 8) : (seqOf st).getD s default = ((sd (st s)).1 : Int) := by simp [seqOf, List.getD, hs]
theorem kept_get (st : Nat → Ses) {s : Nat} (hs : s < 8) : (keptOf st).getD s default = (sd (st s)).2 := by simp [keptOf, List.getD, hs]
theorem set_ran {α : Type} (f g : Nat → α) {n s : Nat} (x : α) (h : ∀ i, g i = if i = s then x else f i) : ((List.range n).map f).set s x = (List.range n).map g := by
  refine List.ext_getElem (by simp) fun i h1 h2 => ?_
  rw [List.getElem_set]
  simp only [List.getElem_map, List.getElem_range, h i]
  by_cases e : s = i
  · rw [if_pos e, if_pos e.symm]
  · rw [if_neg e, if_neg (fun z => e z.symm)]
theorem seq_set (st : Nat → Ses) (s q : Nat) (r : Rep) : (seqOf st).set s (q : Int) = seqOf (updS st s (some (q, r))) :=
  set_ran _ _ _ fun i => by
    unfold updS
    by_cases e : i = s
    · rw [if_pos e, if_pos e]; rfl
    · rw [if_neg e, if_neg e]
theorem kept_set (st : Nat → Ses) (s q : Nat) (r : Rep) : (keptOf st).set s r = keptOf (updS st s (some (q, r))) :=
  set_ran _ _ _ fun i => by
    unfold updS
    by_cases e : i = s
    · rw [if_pos e, if_pos e]; rfl
    · rw [if_neg e, if_neg e]
abbrev St18 := List Chg × List Int × List Rep × Int
theorem pl_k3 {p : St18} {i : Nat} (hp : p.2.2.2 = (i : Int)) (hi : i ≤ 60) (l : List Chg) (sq : List Int) (kp : List Rep) : law18_SessionPlays.k3 p (l, sq, kp) = some (.inl (l, sq, kp, ((i + 1 : Nat) : Int))) := by
  unfold law18_SessionPlays.k3
  rw [hp, i64_id (by omega)]; rfl
theorem plays_is (l0 : List Act18) (h0 : ∀ a ∈ l0, FitsRep a.2.2.2) : law18_SessionPlays.impl l0 = some true := by
  unfold law18_SessionPlays.impl
  rw [New_0]
  simp only [Option.bind_some]
  let I : St18 → Prop := fun p => ∃ l st, ∃ i : Nat, p = (l, seqOf st, keptOf st, (i : Int)) ∧ i ≤ 60 ∧ SInv l st i
  have key := loop_inv (step := law18_SessionPlays.st1 l0 R0) (I := I) (Q := fun r => r = .inr ()) (fun p => 60 - p.2.2.2.toNat) (by
    rintro p ⟨l, st, i, rfl, hi, hI⟩
    obtain ⟨p, hp⟩ : ∃ p : St18, p = (l, seqOf st, keptOf st, (i : Int)) := ⟨_, rfl⟩
    rw [← hp]
    have p1 : p.1 = l := by rw [hp]
    have p2 : p.2.1 = seqOf st := by rw [hp]
    have p3 : p.2.2.1 = keptOf st := by rw [hp]
    have pi : p.2.2.2 = (i : Int) := by rw [hp]
    have stop : law18_SessionPlays.k2 p l0 R0 false = some (.inr (.inr ())) := by unfold law18_SessionPlays.k2; simp
    unfold law18_SessionPlays.st1
    rw [pi]
    by_cases g : (i : Int) < l0.length
    · rw [ite_dt g]
      by_cases g2 : (i : Int) < 60
      · right
        suffices h : ∃ l' st', law18_SessionPlays.k2 p l0 R0 true = some (.inl (l', seqOf st', keptOf st', ((i + 1 : Nat) : Int))) ∧ SInv l' st' (i + 1) by
          obtain ⟨l', st', e1, h2⟩ := h
          exact ⟨_, by rw [decide_eq_true g2]; exact e1, ⟨l', st', i + 1, rfl, by omega, h2⟩, by show 60 - ((i + 1 : Nat) : Int).toNat < 60 - (i : Int).toNat; omega⟩
        unfold law18_SessionPlays.k2
        simp only [if_true, pi, Int.toNat_natCast]
        rw [chk_pos (by omega)]
        have hF := h0 _ (mem_getD (l := l0) (i := i) (by omega))
        obtain ⟨a, hA⟩ : ∃ a, l0.getD i default = a := ⟨_, rfl⟩
        rw [hA] at hF
        simp only [hA]
        have same : law18_SessionPlays.k3 p (l, seqOf st, keptOf st) = some (.inl (l, seqOf st, keptOf st, ((i + 1 : Nat) : Int))) := pl_k3 pi hi _ _ _
        suffices k5 : ∃ l' st', law18_SessionPlays.k5 l0 p R0 (decide (a.2.1 < 0 ∨ a.2.1 > 7)) (decide (a.2.2.1 < 1 ∨ a.2.2.1 > 2147483647)) = some (.inl (l', seqOf st', keptOf st', ((i + 1 : Nat) : Int))) ∧ SInv l' st' (i + 1) by
          have k4 : law18_SessionPlays.k4 l0 p R0 (decide (a.2.1 < 0 ∨ a.2.1 > 7)) = law18_SessionPlays.k5 l0 p R0 (decide (a.2.1 < 0 ∨ a.2.1 > 7)) (decide (a.2.2.1 < 1 ∨ a.2.2.1 > 2147483647)) := by
            unfold law18_SessionPlays.k4
            simp only [pi, Int.toNat_natCast, hA]
            by_cases h1 : a.2.2.1 < 1
            · rw [ite_dt h1, decide_eq_true (show a.2.2.1 < 1 ∨ a.2.2.1 > 2147483647 from .inl h1)]
            · rw [ite_df h1]; congr 1; simp [h1]
          rw [← k4] at k5
          by_cases h1 : a.2.1 < 0
          · rw [ite_dt h1]; rw [decide_eq_true (show a.2.1 < 0 ∨ a.2.1 > 7 from .inl h1)] at k5; exact k5
          · rw [ite_df h1]
            rw [show decide (a.2.1 < 0 ∨ a.2.1 > 7) = decide ((7 : Int) < a.2.1) by simp [h1]] at k5; exact k5
        unfold law18_SessionPlays.k5
        simp only [pi, p1, p2, Int.toNat_natCast, hA]
        have hR : ((a.2.2.2.1, a.2.2.2.2.1, a.2.2.2.2.2) : Rep) = a.2.2.2 := rfl
        by_cases c0 : a.1 = 0
        · rw [ite_dt c0]
          by_cases hb : a.2.1 < 0 ∨ a.2.1 > 7 ∨ a.2.2.1 < 1 ∨ a.2.2.1 > 2147483647
          · have e1 := Keep_bad (l := l) a.2.2.2 hb
            refine ⟨l, st, ?_, hI.up (by omega)⟩
            have kk : law18_SessionPlays.k6 (1, l) p l0 true = some (.inl (l, seqOf st, keptOf st, ((i + 1 : Nat) : Int))) := by
              unfold law18_SessionPlays.k6
              simp only [if_true, decide_true, Bool.not_true, Bool.false_eq_true, if_false, p2, p3]
              exact same
            simp only [R0, loc0, tre0, pag0, dsk0] at e1 ⊢
            rw [e1]
            simp only [Option.bind_some, decide_eq_true_eq]
            by_cases h1 : a.2.1 < 0 ∨ a.2.1 > 7
            · rw [if_pos h1]; exact kk
            · rw [if_neg h1, decide_eq_true (show a.2.2.1 < 1 ∨ a.2.2.1 > 2147483647 by omega)]; exact kk
          · obtain ⟨s, hs⟩ := Int.eq_ofNat_of_zero_le (show 0 ≤ a.2.1 by omega)
            obtain ⟨q, hq⟩ := Int.eq_ofNat_of_zero_le (show 0 ≤ a.2.2.1 by omega)
            have hs8 : s < 8 := by omega
            obtain ⟨l', e1, hI'⟩ := Keep_v hI (by omega) (s := s) (q := q) hs8 (by omega) hF
            refine ⟨l', keepS st s q a.2.2.2, ?_, hI'⟩
            rw [hs, hq]
            simp only [R0, loc0, tre0, pag0, dsk0] at e1 ⊢
            rw [e1]
            simp only [Option.bind_some]
            rw [ite_df (show ¬ ((s : Int) < 0 ∨ (s : Int) > 7) by omega), decide_eq_false (show ¬ ((q : Int) < 1 ∨ (q : Int) > 2147483647) by omega)]
            unfold law18_SessionPlays.k6
            simp only [Bool.false_eq_true, if_false, pi, Int.toNat_natCast, hA, hs, hq, p2, p3, Nat.zero_add, Nat.mul_one]
            rw [chk_pos (by omega), chk_pos (by rw [seq_len]; exact hs8), seq_get st hs8]
            unfold keepE keepS
            by_cases g1 : q ≤ (sd (st s)).1
            · rw [ite_dt (by omega), if_pos g1, if_pos g1, ite_nt (by decide)]
              exact pl_k3 pi hi _ _ _
            · rw [ite_df (by omega), if_neg g1, if_neg g1, ReplyRight_is hF]
              simp only [Option.bind_some]
              by_cases hp' : replyP a.2.2.2 = true
              · rw [hp']
                simp only [Bool.not_true, Bool.false_eq_true, if_false, if_true, decide_true]
                rw [chk_pos (by omega), chk_pos (by rw [seq_len]; exact hs8), chk_pos (by rw [kept_len]; omega), seq_set st s q a.2.2.2]
                have := kept_set st s q a.2.2.2
                rw [this]
                exact pl_k3 pi hi _ _ _
              · simp only [Bool.not_eq_true] at hp'
                rw [hp']
                simp only [Bool.not_false, Bool.false_eq_true, if_false, if_true, decide_true, Bool.not_true]
                exact pl_k3 pi hi _ _ _
        · rw [ite_df c0]
          by_cases c1 : a.1 = 1
          · rw [ite_dt c1]
            refine ⟨l, st, ?_, hI.up (by omega)⟩
            by_cases hb : a.2.1 < 0 ∨ a.2.1 > 7 ∨ a.2.2.1 < 1 ∨ a.2.2.1 > 2147483647
            · have e1 := Look_bad (l := l) hb
              have kk : law18_SessionPlays.k7 (0, (0, 0, []), 1) p l0 true = some (.inl (l, seqOf st, keptOf st, ((i + 1 : Nat) : Int))) := by
                unfold law18_SessionPlays.k7 law18_SessionPlays.k8
                have e2 : ref16_Same.impl ((0, 0, []) : Rep) (0, 0, []) = some true := Same_self (by simp) (by simp)
                simp only [if_true, decide_true, e2, Option.bind_some, Bool.not_true, Bool.false_eq_true, if_false, p1, p2, p3]
                exact same
              simp only [R0, loc0, tre0, pag0, dsk0] at e1 ⊢
              rw [e1]
              simp only [Option.bind_some, decide_eq_true_eq]
              by_cases h1 : a.2.1 < 0 ∨ a.2.1 > 7
              · rw [if_pos h1]; exact kk
              · rw [if_neg h1, decide_eq_true (show a.2.2.1 < 1 ∨ a.2.2.1 > 2147483647 by omega)]; exact kk
            · obtain ⟨s, hs⟩ := Int.eq_ofNat_of_zero_le (show 0 ≤ a.2.1 by omega)
              obtain ⟨q, hq⟩ := Int.eq_ofNat_of_zero_le (show 0 ≤ a.2.2.1 by omega)
              have hs8 : s < 8 := by omega
              have e1 := Look_v hI (by omega) (s := s) (q := q) hs8 (by omega)
              have hsm := look_small hI hs8 q
              rw [hs, hq]
              simp only [R0, loc0, tre0, pag0, dsk0] at e1 ⊢
              rw [e1]
              simp only [Option.bind_some]
              rw [ite_df (show ¬ ((s : Int) < 0 ∨ (s : Int) > 7) by omega), decide_eq_false (show ¬ ((q : Int) < 1 ∨ (q : Int) > 2147483647) by omega)]
              unfold law18_SessionPlays.k7
              simp only [Bool.false_eq_true, if_false, pi, Int.toNat_natCast, hA, hs, hq, p2, Nat.zero_add, Nat.mul_one]
              rw [chk_pos (by omega), chk_pos (by rw [seq_len]; exact hs8), seq_get st hs8]
              have k11 : law18_SessionPlays.k11 p false = some (.inl (l, seqOf st, keptOf st, ((i + 1 : Nat) : Int))) := by
                unfold law18_SessionPlays.k11
                simp only [Bool.false_eq_true, if_false, p1, p2, p3]
                exact same
              have k10 : law18_SessionPlays.k10 (stateL (st s) q, replyL (st s) q, 0) p (stateL (st s) q, replyL (st s) q) = some (.inl (l, seqOf st, keptOf st, ((i + 1 : Nat) : Int))) := by
                unfold law18_SessionPlays.k10
                simp only [decide_true, if_true]
                rw [Same_self hsm.1 hsm.2]
                simp only [Option.bind_some, Bool.not_true]
                exact k11
              have k9 : ∀ z : Int, (¬ q = (sd (st s)).1 → z = stateL (st s) q) → law18_SessionPlays.k9 l0 p (stateL (st s) q, replyL (st s) q, 0) z = some (.inl (l, seqOf st, keptOf st, ((i + 1 : Nat) : Int))) := fun z hz => by
                unfold law18_SessionPlays.k9
                simp only [pi, Int.toNat_natCast, hA, hs, hq, p2, p3, Nat.zero_add, Nat.mul_one]
                rw [chk_pos (by omega), chk_pos (by rw [seq_len]; exact hs8), seq_get st hs8]
                by_cases g1 : q = (sd (st s)).1
                · rw [ite_dt (by omega), chk_pos (by rw [kept_len]; omega), kept_get st hs8]
                  have x1 : stateL (st s) q = 1 := by unfold stateL; rw [if_neg (by omega), if_pos g1]
                  have x2 : replyL (st s) q = (sd (st s)).2 := by unfold replyL; rw [if_pos g1]
                  rw [x1, x2] at k10 ⊢
                  exact k10
                · rw [ite_df (by omega)]
                  have x2 : replyL (st s) q = (0, 0, []) := by unfold replyL; rw [if_neg g1]
                  rw [hz g1]
                  rw [x2] at k10 ⊢
                  exact k10
              by_cases g1 : q < (sd (st s)).1
              · rw [ite_dt (by omega)]
                exact k9 2 (fun _ => by unfold stateL; rw [if_pos g1])
              · rw [ite_df (by omega)]
                exact k9 0 (fun g2 => by unfold stateL; rw [if_neg g1, if_neg g2])
          · rw [ite_df c1]
            refine ⟨l, st, ?_, hI.up (by omega)⟩
            have k12 : law18_SessionPlays.k12 p false = some (.inl (l, seqOf st, keptOf st, ((i + 1 : Nat) : Int))) := by
              unfold law18_SessionPlays.k12
              simp only [Bool.false_eq_true, if_false, p1, p2, p3]
              exact same
            by_cases hb : a.2.1 < 0 ∨ a.2.1 > 7
            · have e1 := Last_bad (l := l) hb
              simp only [R0, loc0, tre0, pag0, dsk0] at e1 ⊢
              rw [e1]
              simp only [Option.bind_some, hb, decide_true, if_true]
              exact k12
            · obtain ⟨s, hs⟩ := Int.eq_ofNat_of_zero_le (show 0 ≤ a.2.1 by omega)
              have hs8 : s < 8 := by omega
              have e1 := Last_v hI (by omega) (s := s) hs8
              rw [hs]
              simp only [R0, loc0, tre0, pag0, dsk0] at e1 ⊢
              rw [e1]
              simp only [Option.bind_some]
              rw [ite_df (show ¬ ((s : Int) < 0 ∨ (s : Int) > 7) by omega)]
              simp only [decide_true, if_true, Int.toNat_natCast, Nat.zero_add, Nat.mul_one]
              rw [chk_pos (by omega), chk_pos (by rw [seq_len]; exact hs8), seq_get st hs8]
              simp only [decide_true, Bool.not_true]
              exact k12
      · left; rw [show decide ((i : Int) < 60) = false by simpa using g2]; exact ⟨_, stop, rfl⟩
    · left; rw [ite_df g]; exact ⟨_, stop, rfl⟩)
  obtain ⟨r, h1, rfl⟩ := key ([], List.replicate 8 0, List.replicate 8 (0, 0, []), 0) ⟨[], fun _ => none, 0, rfl, by omega, SInv.nil⟩
  rw [h1]
  simp [law18_SessionPlays.k1, told_is]
end Go.Proofs.YtdojooblfemmnaaDoor
