/- PageBack, in plain terms. -/
import Derived.Test.YtccifnjlfhdpiaaTdL
import Derived.Test.YtccifnjlfhdpiaaLawB
set_option linter.unusedVariables false
set_option linter.unusedSimpArgs false
set_option linter.unusedSectionVars false
namespace Go.Proofs.Ytccifnjlfhdpiaa
open Go Go.RowKit
/-! ### What is said of the pages from the first one on -/
def qv (f : Nat → Int) (k : Nat) : MI2 := (List.range k).map fun j => (((2 + j : Nat) : Int), f j)
theorem qv_succ (f : Nat → Int) (k : Nat) : qv f (k + 1) = qv f k ++ [(((2 + k : Nat) : Int), f k)] := by simp [qv, List.range_succ]
theorem qv_len (f : Nat → Int) (k : Nat) : (qv f k).length = k := by simp [qv]
theorem mget_app {α : Type} (a b : List (Int × α)) (q : Int) : mget (a ++ b) q = match mget a q with | some v => some v | none => mget b q := by
  induction a with
  | nil => rfl
  | cons p a ih =>
    obtain ⟨k, v⟩ := p
    simp only [List.cons_append, mget]
    split
    · rfl
    · exact ih
theorem mset_app {α : Type} (a b : List (Int × α)) (q : Int) (v : α) : mset (a ++ b) q v = if (mget a q).isSome then mset a q v ++ b else a ++ mset b q v := by
  induction a with
  | nil => rfl
  | cons p a ih =>
    obtain ⟨k, u⟩ := p
    simp only [List.cons_append, mget, mset]
    by_cases e : q = k
    · simp [e]
    · simp only [e, if_false]
      rw [ih]
      split <;> rfl
theorem qv_get (f : Nat → Int) (k j : Nat) : mget (qv f k) ((2 + j : Nat) : Int) = if j < k then some (f j) else none := by
  induction k with
  | zero => rfl
  | succ k ih =>
    rw [qv_succ, mget_app, ih]
    by_cases h : j < k
    · rw [if_pos h, if_pos (by omega)]
    · rw [if_neg h]
      simp only [mget]
      by_cases e : j = k
      · subst e; rw [if_pos rfl, if_pos (by omega)]
      · rw [if_neg (by omega), if_neg (by omega)]
theorem qv_congr {f g : Nat → Int} {k : Nat} (h : ∀ j, j < k → f j = g j) : qv f k = qv g k := by
  unfold qv
  refine List.map_congr_left fun j hj => ?_
  rw [h j (by simpa using hj)]
theorem qv_set (f : Nat → Int) (v : Int) : ∀ (k j : Nat), j < k → mset (qv f k) ((2 + j : Nat) : Int) v = qv (fun x => if x = j then v else f x) k
  | k + 1, j, h => by
    rw [qv_succ, qv_succ, mset_app, qv_get]
    by_cases e : j < k
    · rw [if_pos e, qv_set f v k j e]
      simp only [Option.isSome_some, if_true]
      rw [if_neg (show ¬ k = j by omega)]
    · have : j = k := by omega
      subst this
      rw [if_neg e]
      simp only [Option.isSome_none, Bool.false_eq_true, if_false, mset, if_true]
      rw [qv_congr (f := f) (g := fun x => if x = j then v else f x) (fun x hx => by show f x = if x = j then v else f x; rw [if_neg (by omega)])]
theorem qv_new (f : Nat → Int) (k : Nat) : mset (qv f k) ((2 + k : Nat) : Int) (f k) = qv f (k + 1) := by
  have : qv f k = qv f k ++ [] := by simp
  rw [this, mset_app, qv_get, if_neg (show ¬ k < k by omega), qv_succ]
  rfl
theorem firstV_qv (f : Nat → Int) (k : Nat) (hf : ∀ j, j < k → f j ≠ 0) : ∀ (n i : Nat), i ≤ k → firstV (qv f k) n (2 + i) = if k < i + n then ((2 + k : Nat) : Int) else 0
  | 0, i, hi => by rw [if_neg (by omega)]; rfl
  | n + 1, i, hi => by
    rw [firstV, qv_get]
    by_cases h : i < k
    · rw [if_pos h, if_neg (by simpa using hf i h), show 2 + i + 1 = 2 + (i + 1) by omega, firstV_qv f k hf n (i + 1) (by omega)]
      congr 1
      exact propext (by omega)
    · have : i = k := by omega
      subst this
      rw [if_neg h, if_pos (show (none : Option Int).getD 0 = 0 from rfl), if_pos (by omega)]
def nb (f : Nat → Int) : Nat → Nat
  | 0 => 0
  | k + 1 => nb f k + if f k = 2 then 1 else 0
theorem nb_le (f : Nat → Int) : ∀ k, nb f k ≤ k
  | 0 => Nat.le_refl _
  | k + 1 => by have := nb_le f k; unfold nb; split <;> omega
theorem nb_set (f : Nat → Int) (j : Nat) (hj : f j ≠ 2) : ∀ k, nb (fun x => if x = j then 2 else f x) k = nb f k + if j < k then 1 else 0
  | 0 => rfl
  | k + 1 => by
    have ih := nb_set f j hj k
    unfold nb
    rw [ih]
    by_cases e : k = j
    · subst e; simp [hj]
    · simp only [e, if_false]
      by_cases h : j < k
      · rw [if_pos h, if_pos (show j < k + 1 by omega)]; omega
      · rw [if_neg h, if_neg (show ¬ j < k + 1 by omega)]; omega
theorem nb_more (f : Nat → Int) (k : Nat) (h : ∀ j, k ≤ j → f j = 1) : ∀ n, nb f (k + n) = nb f k
  | 0 => rfl
  | n + 1 => by
    show nb f (k + n) + (if f (k + n) = 2 then 1 else 0) = _
    rw [nb_more f k h n, h (k + n) (by omega)]; rfl
theorem settle_len (f : Nat → Int) : ∀ k, (settleV (qv f k)).length + nb f k = k
  | 0 => rfl
  | k + 1 => by
    have ih := settle_len f k
    unfold settleV at ih ⊢
    rw [qv_succ, List.filter_append, List.length_append]
    unfold nb
    by_cases h : f k = 2
    · simp only [h, if_true]
      have : ([(((2 + k : Nat) : Int), (2 : Int))].filter fun p => p.2 ≠ 2) = [] := by simp
      rw [this]; simp only [List.length_nil]; omega
    · have : ([(((2 + k : Nat) : Int), f k)].filter fun p => p.2 ≠ 2) = [(((2 + k : Nat) : Int), f k)] := by simp [h]
      rw [this, if_neg h]; simp only [List.length_singleton]; omega
theorem settle_ones (k : Nat) : settleV (qv (fun _ => 1) k) = qv (fun _ => 1) k := by
  unfold settleV
  refine List.filter_eq_self.2 fun p hp => ?_
  obtain ⟨j, _, rfl⟩ := List.mem_map.1 hp
  simp
/-! ### The pages that are laid -/
def tx (l0 : List (List UInt8)) (j : Nat) : List UInt8 := subl (l0.getD j default) 0 (min ((l0.getD j default).length : Int) 100)
theorem tx_len (l0 : List (List UInt8)) (j : Nat) : (tx l0 j).length ≤ 100 := by
  unfold tx
  rw [subl_length (by omega) (by omega) (by omega)]; omega
def csV (l0 : List (List UInt8)) (k : Nat) : KM := (List.range k).map fun j => (((2 + j : Nat) : Int), laidV (tx l0 j))
theorem csV_succ (l0 : List (List UInt8)) (k : Nat) : csV l0 (k + 1) = csV l0 k ++ [(((2 + k : Nat) : Int), laidV (tx l0 k))] := by simp [csV, List.range_succ]
theorem csV_len (l0 : List (List UInt8)) (k : Nat) : (csV l0 k).length = k := by simp [csV]
theorem laid_tx (l0 : List (List UInt8)) (j : Nat) : (laidV (tx l0 j)).length = 8192 := laidV_len (by have := tx_len l0 j; omega)
theorem csV_full (l0 : List (List UInt8)) (k : Nat) (hk : k ≤ 1000) : Fulls (csV l0 k) := by
  refine ⟨fun w hw => ?_, by rw [csV_len]; omega⟩
  obtain ⟨j, _, rfl⟩ := List.mem_map.1 hw
  exact laid_tx l0 j
theorem csV_rd (m : KM) (l0 : List (List UInt8)) (j : Nat) : ∀ k, j < k → rd m (csV l0 k) ((2 + j : Nat) : Int) = laidV (tx l0 j)
  | k + 1, h => by
    rw [csV_succ, rd_add _ _ _ _ _ (laid_tx l0 k)]
    by_cases e : j = k
    · subst e; rw [if_pos rfl]
    · rw [if_neg (by omega)]; exact csV_rd m l0 j k (by omega)
theorem rd_other (m : KM) {q : Int} : ∀ c : KM, (∀ w ∈ c, w.1 ≠ q) → rd m c q = blk m q := fun c h => by
  unfold rd
  have : c.reverse.find? (fun w => decide (w.1 = q)) = none := by
    rw [List.find?_eq_none]
    intro w hw
    simpa using h w (List.mem_reverse.1 hw)
  rw [this]
def idsV (k : Nat) : List Int := (List.range k).map fun j => ((2 + j : Nat) : Int)
theorem idsV_succ (k : Nat) : idsV (k + 1) = idsV k ++ [((2 + k : Nat) : Int)] := by simp [idsV, List.range_succ]
theorem idsV_len (k : Nat) : (idsV k).length = k := by simp [idsV]
theorem idsV_get {k j : Nat} (h : j < k) : (idsV k).getD j default = ((2 + j : Nat) : Int) := by simp [idsV, List.getD, h]
def keptV (l0 : List (List UInt8)) (k : Nat) : List (List UInt8) := (List.range k).map (tx l0)
theorem keptV_succ (l0 : List (List UInt8)) (k : Nat) : keptV l0 (k + 1) = keptV l0 k ++ [tx l0 k] := by simp [keptV, List.range_succ]
theorem keptV_len (l0 : List (List UInt8)) (k : Nat) : (keptV l0 k).length = k := by simp [keptV]
theorem keptV_get {l0 : List (List UInt8)} {k j : Nat} (h : j < k) : (keptV l0 k).getD j default = tx l0 j := by simp [keptV, List.getD, h]
section
variable {l0 : List (List UInt8)} {l1 : List Bool} {a2 : Int} {bl p k : Nat} (hB : IntKind.i64.wrap (bitsOf .and .i64 a2 15 + 6) = (bl : Int)) (h6 : 6 ≤ bl ∧ bl ≤ 21) (hp : bl = p + 2)
include hB h6 hp
theorem back_put {i : Nat} (hi : i < l0.length) (hi2 : i < bl - 3) :
    law4_PageBack.st4 l0 (((p : Int), 0, 0, 0), []) a2 (qv (fun _ => 1) i, (bl : Int), [], csV l0 i, false, 0, 0, 0, 0, 0, idsV i, keptV l0 i, (i : Int)) = some (.inl (qv (fun _ => 1) (i + 1), (bl : Int), [], csV l0 (i + 1), false, 0, 0, 0, 0, 0, idsV (i + 1), keptV l0 (i + 1), ((i + 1 : Nat) : Int))) := by
  unfold law4_PageBack.st4
  simp only
  rw [ite_dt (by omega), hB, i64_id (n := (bl : Int) - 3) (by omega), decide_eq_true (by omega)]
  unfold law4_PageBack.k12
  simp only [if_true]
  rw [chk_true (by omega), chk_true (by omega), chk_true (by omega)]
  have et : subl (l0.getD ((i : Int)).toNat default) 0 (min ((l0.getD ((i : Int)).toNat default).length : Int) 100) = tx l0 i := rfl
  have hl := tx_len l0 i
  rw [et]
  have p1 := Put_no (m := []) (c := csV l0 i) (b := bl) (lf := 0) (af := 0) (kp := 0) (tn := 0) (ct := 0) (n := 0) (r := 0) (q := qv (fun _ => 1) i) (p := p) (by omega) hp (by rw [csV_len]; omega) (l := tx l0 i) (by omega) hit0
  have f1 := firstV_qv (fun _ => 1) i (fun _ _ => by decide) p 0 (by omega)
  rw [if_pos (by omega), Nat.add_zero] at f1
  rw [f1, if_neg (by omega), nxt0, ← csV_succ, qv_new (fun _ => 1) i] at p1
  rw [p1, Option.bind_some]
  simp only [decide_true, if_true]
  rw [i64_id (n := 2 + (i : Int)) (by omega), decide_eq_true (by omega)]
  unfold law4_PageBack.k14
  simp only [Bool.not_true, Bool.false_eq_true, if_false]
  rw [chk_true (by simp [idsV_len]; omega), chk_true (by simp [keptV_len]; omega)]
  unfold law4_PageBack.k13
  simp only
  rw [et, ← idsV_succ, ← keptV_succ, i64_id (by omega)]; rfl
theorem back_puts (hk : k = min l0.length (bl - 3)) : loop (law4_PageBack.st4 l0 (((p : Int), 0, 0, 0), []) a2) ([], (bl : Int), [], [], false, 0, 0, 0, 0, 0, [], [], 0) = some (.inr (qv (fun _ => 1) k, (bl : Int), [], csV l0 k, false, 0, 0, 0, 0, 0, idsV k, keptV l0 k)) := by
  have := loop_up (step := law4_PageBack.st4 l0 (((p : Int), 0, 0, 0), []) a2) (r := .inr (qv (fun _ => 1) k, (bl : Int), [], csV l0 k, false, 0, 0, 0, 0, 0, idsV k, keptV l0 k)) (fun i => (qv (fun _ => 1) i, (bl : Int), [], csV l0 i, false, 0, 0, 0, 0, 0, idsV i, keptV l0 i, (i : Int))) k (fun i hi => back_put hB h6 hp (by omega) (by omega)) (by
    unfold law4_PageBack.st4
    simp only
    have stop : law4_PageBack.k12 (qv (fun _ => 1) k, (bl : Int), [], csV l0 k, false, 0, 0, 0, 0, 0, idsV k, keptV l0 k, (k : Int)) l0 (((p : Int), 0, 0, 0), []) false = some (.inr (.inr (qv (fun _ => 1) k, (bl : Int), [], csV l0 k, false, 0, 0, 0, 0, 0, idsV k, keptV l0 k))) := rfl
    by_cases h : (k : Int) < (l0.length : Int)
    · rw [ite_dt h, hB, i64_id (n := (bl : Int) - 3) (by omega), decide_eq_false (by omega), stop]
    · rw [ite_df h, stop])
  exact this
end
section
variable {l0 : List (List UInt8)} {l1 : List Bool} {bl p k : Nat} {m1 : KM} {q0 : MI2} {a2 : Int}
abbrev BS3 := MI2 × Int × KM × KM × Bool × Int × Int × Int × Int × Int × List Int × List (List UInt8)
def FrI (k : Nat) (s : MI2 × Int × Int) : Prop := ∃ f, ∃ i : Nat, s = (qv f k, (nb f k : Int), (i : Int)) ∧ i ≤ k ∧ (∀ j, f j = 1 ∨ f j = 2) ∧ ∀ j, i ≤ j → f j = 1
theorem back_frees (hk : k ≤ 100) {s3 : BS3} (h3 : s3.2.2.2.2.2.2.2.2.2.2.1 = idsV k) : ∀ s, FrI k s → ∃ r, loop (law4_PageBack.st3 s3 l1 (0, ((p : Int), 0, 1, 0), q0, ((bl : Int), false, 0, 0, 0, 0, 0), m1, [])) s = some r ∧ ∃ f, r = .inr (qv f k, (nb f k : Int)) ∧ (∀ j, f j = 1 ∨ f j = 2) ∧ ∀ j, k ≤ j → f j = 1 := by
  refine loop_inv (fun s => (1000 - s.2.2).toNat) ?_
  rintro s ⟨f, i, rfl, hi, hf, h1⟩
  unfold law4_PageBack.st3
  simp only
  rw [h3, idsV_len]
  have stop : law4_PageBack.k9 (qv f k, (nb f k : Int), (i : Int)) l1 s3 (0, ((p : Int), 0, 1, 0), q0, ((bl : Int), false, 0, 0, 0, 0, 0), m1, []) false = some (.inr (.inr (qv f k, (nb f k : Int)))) := rfl
  have h1k : ∀ j, k ≤ j → f j = 1 := fun j hj => h1 j (by omega)
  by_cases hik : (i : Int) < (k : Int)
  · rw [ite_dt hik]
    by_cases hil : (i : Int) < (l1.length : Int)
    · rw [decide_eq_true hil]
      refine .inr ?_
      unfold law4_PageBack.k9
      simp only [if_true]
      rw [chk_true (by omega)]
      by_cases hg : l1.getD ((i : Int)).toNat default = true
      · rw [if_pos hg, h3, chk_true (by rw [idsV_len]; omega)]
        simp only [Int.toNat_natCast]
        rw [idsV_get (by omega)]
        have p1 := Free_is (m := m1) (c := []) (b := bl) (lf := 0) (af := 0) (kp := 0) (tn := 0) (ct := 0) (n := 1) (r := 0) (p := (p : Int)) (q := qv f k) ((2 + i : Nat) : Int)
        rw [qv_get, if_pos (show i < k by omega), h1 i (Nat.le_refl _), if_pos (show (some (1 : Int)).getD 0 = 1 from rfl), qv_set f 2 k i (by omega)] at p1
        rw [p1, Option.bind_some]
        simp only [decide_true, if_true]
        rw [chk_true (by rw [idsV_len]; omega)]
        have p2 := Free_is (m := m1) (c := []) (b := bl) (lf := 0) (af := 0) (kp := 0) (tn := 0) (ct := 0) (n := 1) (r := 0) (p := (p : Int)) (q := qv (fun x => if x = i then 2 else f x) k) ((2 + i : Nat) : Int)
        rw [qv_get, if_pos (show i < k by omega), if_pos rfl, if_neg (show ¬ (some (2 : Int)).getD 0 = 1 by decide)] at p2
        rw [p2, Option.bind_some]
        simp only [decide_true, Bool.not_true]
        unfold law4_PageBack.k11
        simp only [Bool.false_eq_true, if_false]
        unfold law4_PageBack.k10
        simp only
        have hn := nb_set f i (by rw [h1 i (Nat.le_refl _)]; decide) k
        rw [if_pos (by omega)] at hn
        have hle := nb_le f k
        rw [i64_id (n := (nb f k : Int) + 1) (by omega), i64_id (n := (i : Int) + 1) (by omega)]
        refine ⟨_, rfl, ⟨fun x => if x = i then 2 else f x, i + 1, ?_, by omega, fun j => ?_, fun j hj => ?_⟩, by simp only; omega⟩
        · rw [hn]; rfl
        · by_cases e : j = i
          · simp [e]
          · simp only [e, if_false]; exact hf j
        · show (if j = i then (2 : Int) else f j) = 1
          rw [if_neg (by omega)]; exact h1 j (by omega)
      · rw [if_neg hg]
        unfold law4_PageBack.k10
        simp only
        rw [i64_id (n := (i : Int) + 1) (by omega)]
        exact ⟨_, rfl, ⟨f, i + 1, rfl, by omega, hf, fun j hj => h1 j (by omega)⟩, by simp only; omega⟩
    · rw [decide_eq_false hil, stop]
      exact .inl ⟨_, rfl, f, rfl, hf, h1k⟩
  · rw [ite_df hik, stop]
    exact .inl ⟨_, rfl, f, rfl, hf, h1k⟩
abbrev BS5 := MI2 × Int × KM × KM × Bool × Int × Int × Int × Int × Int × Int
def FiI (f : Nat → Int) (bl p k : Nat) (m1 : KM) (s : BS5) : Prop := ∃ c, ∃ n : Nat, s = (qv f (k + n), (bl : Int), m1, c, false, 0, 0, 0, 0, 0, (n : Int)) ∧ k + n ≤ p ∧ Fulls c ∧ c.length ≤ n ∧ ∀ w ∈ c, ((2 + k : Nat) : Int) ≤ w.1
theorem back_fill (hp : bl = p + 2) (hp2 : p ≤ 100) {f : Nat → Int} (hf : ∀ j, f j = 1 ∨ f j = 2) (hk : ∀ j, k ≤ j → f j = 1) : ∀ s, FiI f bl p k m1 s → ∃ r, loop (law4_PageBack.st2 (0, ((p : Int), 0, 1, 0), q0, ((bl : Int), false, 0, 0, 0, 0, 0), m1, [])) s = some r ∧ ∃ c, ∃ n : Nat, r = .inr (qv f (k + n), (bl : Int), m1, c, false, 0, 0, 0, 0, 0, (n : Int)) ∧ k + n = p ∧ Fulls c ∧ c.length ≤ n ∧ ∀ w ∈ c, ((2 + k : Nat) : Int) ≤ w.1 := by
  refine loop_inv (fun s => (1000 - s.2.2.2.2.2.2.2.2.2.2).toNat) ?_
  rintro s ⟨c, n, rfl, hn, hc, hcl, hw⟩
  unfold law4_PageBack.st2
  simp only
  generalize ht : ([u8 (IntKind.u8.wrap (n : Int))] : List UInt8) = t
  have hl : t.length = 1 := by rw [← ht]; rfl
  have p1 := Put_no (m := m1) (c := c) (b := bl) (lf := 0) (af := 0) (kp := 0) (tn := 0) (ct := 0) (n := 1) (r := 0) (q := qv f (k + n)) (p := p) (by omega) hp (by omega) (l := t) (by omega) hit0
  have f1 := firstV_qv f (k + n) (fun j _ => by rcases hf j with e | e <;> rw [e] <;> decide) p 0 (by omega)
  rw [Nat.add_zero, Nat.zero_add] at f1
  rw [f1, nxt0] at p1
  by_cases h : k + n < p
  · rw [if_pos h, if_neg (by omega)] at p1
    have e1 : mset (qv f (k + n)) ((2 + (k + n) : Nat) : Int) 1 = qv f (k + (n + 1)) := by
      have := qv_new f (k + n)
      rw [hk (k + n) (by omega)] at this; exact this
    rw [e1] at p1
    have hlt := laidV_len (b := t) (by omega)
    rw [p1, Option.bind_some]
    simp only [decide_true, Bool.not_true, Bool.false_eq_true, if_false]
    rw [i64_id (n := (n : Int) + 1) (by omega)]
    refine .inr ⟨_, rfl, ⟨c ++ [(((2 + (k + n) : Nat) : Int), laidV t)], n + 1, rfl, by omega, ?_, by simp; omega, fun w hm => ?_⟩, by simp only; omega⟩
    · have := hc.add (by omega) ((2 + (k + n) : Nat) : Int) (laidV t)
      rw [whole_full hlt] at this; exact this
    · rcases List.mem_append.1 hm with hm | hm
      · exact hw w hm
      · simp only [List.mem_singleton] at hm
        rw [hm]; simp only; omega
  · rw [if_neg h, if_pos rfl] at p1
    rw [p1, Option.bind_some]
    refine .inl ⟨_, ?_, c, n, rfl, by omega, hc, hcl, hw⟩
    rfl
theorem back_gets (hp : bl = p + 2) (hp2 : p ≤ 100) (hk : k ≤ p) {s3 : BS3} (h3 : s3.2.2.2.2.2.2.2.2.2.2.1 = idsV k) (h4 : s3.2.2.2.2.2.2.2.2.2.2.2 = keptV l0 k) {q : MI2} {c : KM} {n : Int} (hc : c.length ≤ 1000) (hr : ∀ j, j < k → rd m1 c ((2 + j : Nat) : Int) = laidV (tx l0 j)) :
    loop (law4_PageBack.st1 s3 (0, ((p : Int), 0, 1, 0), q0, ((bl : Int), false, 0, 0, 0, 0, 0), m1, []) (q, (bl : Int), m1, c, false, 0, 0, 0, 0, 0, n)) 0 = some (.inr ()) := by
  have := loop_up (step := law4_PageBack.st1 s3 (0, ((p : Int), 0, 1, 0), q0, ((bl : Int), false, 0, 0, 0, 0, 0), m1, []) (q, (bl : Int), m1, c, false, 0, 0, 0, 0, 0, n)) (r := .inr ()) (fun i => (i : Int)) k (fun i hi => by
    unfold law4_PageBack.st1
    simp only
    rw [h3, h4, idsV_len, keptV_len, ite_dt (by omega), chk_true (by omega)]
    simp only [Int.toNat_natCast]
    simp only [idsV_get hi, keptV_get hi]
    have g := Get_is (m := m1) (c := c) (b := bl) (lf := 0) (af := 0) (kp := 0) (tn := 0) (ct := 0) (n := 1) (r := 0) (q := q) (p := p) (by omega) hp (by omega) (i := ((2 + i : Nat) : Int)) (by omega)
    rw [hr i hi, getV_laid (by have := tx_len l0 i; omega)] at g
    rw [g, Option.bind_some]
    simp only [decide_true, if_true]
    rw [chk_true (by omega)]
    unfold law4_PageBack.k8
    simp only [Bool.not_true, Bool.false_eq_true, if_false]
    rw [i64_id (by omega)]; rfl) (by
    unfold law4_PageBack.st1
    simp only
    rw [h3, idsV_len, ite_df (by omega)])
  exact this
end
theorem back_is (l0 : List (List UInt8)) (l1 : List Bool) (a2 : Int) : law4_PageBack.impl l0 l1 a2 = some true := by
  have hm : bitsOf .and .i64 a2 15 = a2 % 16 := i64_mask 4 (by decide) a2 _ (by decide)
  obtain ⟨p, hp4, hB⟩ : ∃ p : Nat, (4 ≤ p ∧ p ≤ 19) ∧ IntKind.i64.wrap (bitsOf .and .i64 a2 15 + 6) = ((p + 2 : Nat) : Int) := by
    rw [hm, i64_id (by omega)]
    exact ⟨(a2 % 16).toNat + 4, by omega, by omega⟩
  unfold law4_PageBack.impl
  rw [hB, New_is (by omega), Option.bind_some]
  simp only
  have ho : page_Open.impl (((p + 2 : Nat) : Int), false, 0, 0, 0, 0, 0) [] [] = some (openV (rd [] [] 0) (rd [] [] 1) (p + 2) 0) := Open_is (b := p + 2) (by omega) (by simp)
  rw [ho, rd_new, rd_new, openV_new, Option.bind_some, show p + 2 - 2 = p by omega]
  simp only [decide_true, if_true]
  unfold law4_PageBack.k2
  simp only [Bool.false_eq_true, if_false]
  obtain ⟨k, hk⟩ : ∃ k, k = min l0.length (p + 2 - 3) := ⟨_, rfl⟩
  rw [back_puts hB (by omega) rfl hk, Option.bind_some]
  simp only
  unfold law4_PageBack.k3
  simp only
  have hcf := csV_full l0 k (by omega)
  have p3 := Commit_ok (m := []) (c := csV l0 k) (b := p + 2) (lf := 0) (af := 0) (kp := 0) (tn := 0) (ct := 0) (p := (p : Int)) (q := qv (fun _ => 1) k) (n := 0) (r := 0) (a := 0) (by omega) hcf (by omega) (.inl rfl) (by omega) hit0 (by rw [nxt0]; exact hit0) (by rw [nxt0, nxt0]; exact hit0)
  rw [settle_ones, nxt0, nxt0, nxt0] at p3
  have hh := one_full ((1 : Nat) : Int) (headB_len 1 0)
  have hr0 : ∀ j, j < k → rd (flushM (flushM [] (csV l0 k)) [(((1 : Nat) : Int), headB 1 0)]) [] ((2 + j : Nat) : Int) = laidV (tx l0 j) := fun j hj => by
    rw [rd_flush hh]
    have := rd_add (flushM [] (csV l0 k)) [] ((1 : Nat) : Int) ((2 + j : Nat) : Int) (headB 1 0) (headB_len 1 0)
    rw [List.nil_append] at this
    rw [this, if_neg (by omega), rd_flush hcf, csV_rd _ _ _ _ hj]
  have p3 : page_Store_Commit.impl ((p : Int), 0, 0, 0) (qv (fun _ => 1) k) (((p + 2 : Nat) : Int), false, 0, 0, 0, 0, 0) [] (csV l0 k) 0 = some (0, ((p : Int), 0, 1, 0), qv (fun _ => 1) k, (((p + 2 : Nat) : Int), false, 0, 0, 0, 0, 0), flushM (flushM [] (csV l0 k)) [(((1 : Nat) : Int), headB 1 0)], []) := p3
  rw [p3, Option.bind_some]
  generalize flushM (flushM [] (csV l0 k)) [(((1 : Nat) : Int), headB 1 0)] = m1 at hr0 ⊢
  simp only [decide_true, Bool.not_true, Bool.false_eq_true, if_false]
  have nb1 : ∀ k, nb (fun _ => 1) k = 0 := fun k => by
    induction k with
    | zero => rfl
    | succ k ih => unfold nb; rw [ih]; rfl
  obtain ⟨r, e3, f, rfl, hf, h1⟩ := back_frees (l1 := l1) (bl := p + 2) (p := p) (k := k) (m1 := m1) (q0 := qv (fun _ => 1) k) (by omega) (s3 := (qv (fun _ => 1) k, ((p + 2 : Nat) : Int), [], csV l0 k, false, 0, 0, 0, 0, 0, idsV k, keptV l0 k)) rfl (qv (fun _ => 1) k, 0, 0) ⟨fun _ => 1, 0, by rw [nb1]; rfl, by omega, fun _ => .inl rfl, fun _ _ => rfl⟩
  rw [e3, Option.bind_some]
  simp only
  unfold law4_PageBack.k4
  simp only
  obtain ⟨r, e2, c, n, rfl, hn, hc, hcl, hw⟩ := back_fill (bl := p + 2) (p := p) (k := k) (m1 := m1) (q0 := qv (fun _ => 1) k) rfl (by omega) hf h1 (qv f k, ((p + 2 : Nat) : Int), m1, [], false, 0, 0, 0, 0, 0, 0) ⟨[], 0, rfl, by omega, Fulls.nil, by simp, by simp⟩
  rw [e2, Option.bind_some]
  simp only
  unfold law4_PageBack.k5
  simp only
  rw [hB, i64_id (n := ((p + 2 : Nat) : Int) - 2) (by omega), idsV_len, i64_id (by omega), ite_dt (by omega)]
  have hr : ∀ j, j < k → rd m1 c ((2 + j : Nat) : Int) = laidV (tx l0 j) := fun j hj => by
    rw [rd_other m1 c (fun w hm => by have := hw w hm; omega), ← rd_nil, hr0 j hj]
  unfold page_counts_Left.impl
  rw [Option.bind_some, qv_len, i64_id (by omega), decide_eq_true (by omega)]
  unfold law4_PageBack.k6
  simp only [Bool.not_true, Bool.false_eq_true, if_false]
  rw [back_gets rfl (by omega) (by omega) rfl rfl (by omega) hr, Option.bind_some]
  simp only
  unfold law4_PageBack.k7
  rw [told_is, Option.bind_some]
  simp only [if_true]
  have p4 := Commit_ok (m := m1) (c := c) (b := p + 2) (lf := 0) (af := 0) (kp := 0) (tn := 0) (ct := 0) (p := (p : Int)) (q := qv f (k + n)) (n := 1) (r := 0) (a := 0) (by omega) hc (by omega) (.inl rfl) (by omega) hit0 (by rw [nxt0]; exact hit0) (by rw [nxt0, nxt0]; exact hit0)
  rw [nxt0, nxt0, nxt0] at p4
  have p4 : page_Store_Commit.impl ((p : Int), 0, 1, 0) (qv f (k + n)) (((p + 2 : Nat) : Int), false, 0, 0, 0, 0, 0) m1 c 0 = some (0, ((p : Int), 0, 2, 0), settleV (qv f (k + n)), (((p + 2 : Nat) : Int), false, 0, 0, 0, 0, 0), flushM (flushM m1 c) [(((0 : Nat) : Int), headB 2 0)], []) := p4
  rw [p4, Option.bind_some]
  simp only [decide_true, if_true]
  have hs := settle_len f (k + n)
  have hb := nb_more f k h1 n
  unfold page_counts_Left.impl
  rw [Option.bind_some, i64_id (by omega), ite_dt (by omega)]
  rfl
end Go.Proofs.Ytccifnjlfhdpiaa
