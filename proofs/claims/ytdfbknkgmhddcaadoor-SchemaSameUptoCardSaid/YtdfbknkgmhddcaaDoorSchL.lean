/- Layer 14: what came in, and told, in plain terms. -/
import Derived.Test.YtdfbknkgmhddcaaDoorSchD
set_option linter.unusedVariables false
set_option linter.unusedSimpArgs false
namespace Go.Proofs.YtdfbknkgmhddcaaDoor
open Go Go.RowKit Go.Lib
/-- What came in. -/
def InV (v : Vl) : Prop := In64 v.2.1 ∧ v.2.2.length ≤ 1048576
structure InS (s : Sch) : Prop where
  name : s.1.length ≤ 1048576
  cols : s.2.1.length ≤ 1048576 ∧ ∀ c ∈ s.2.1, c.1.length ≤ 1048576
  idx : s.2.2.length ≤ 1048576
def few5 {α : Type} (l : List α) : List α := l.take (min l.length 5)
theorem few5_mem {α : Type} {l : List α} {x : α} (h : x ∈ few5 l) : x ∈ l := List.mem_of_mem_take h
theorem few5_len {α : Type} (l : List α) : (few5 l).length ≤ 5 := by unfold few5; rw [List.length_take]; omega
def cop (s : Sch) : Sch := (s.1, few5 s.2.1, few5 s.2.2)
theorem copied_is {s : Sch} (h : InS s) : law14_copied.impl s = some (cop s) := by
  have h1 := h.cols.1
  have h2 := h.idx
  have e1 : (min (s.2.1.length : Int) 5) = ((min s.2.1.length 5 : Nat) : Int) := by omega
  have e2 : (min (s.2.2.length : Int) 5) = ((min s.2.2.length 5 : Nat) : Int) := by omega
  unfold law14_copied.impl
  rw [e1, e2]
  simp only [subl_take0, List.nil_append]
  rw [chk_pos (by omega), chk_pos (by simp; omega), chk_pos (by omega), chk_pos (by simp; omega)]
  rfl
theorem few_is {l : List Vl} (h : l.length ≤ 1048576) : law14_few.impl l = some (few5 l) := by
  have e1 : (min (l.length : Int) 5) = ((min l.length 5 : Nat) : Int) := by omega
  unfold law14_few.impl
  rw [e1]
  simp only [subl_take0, List.nil_append]
  rw [chk_pos (by omega), chk_pos (by simp; omega)]
  rfl
theorem cop_names {s : Sch} (h : InS s) : NamesS (cop s) := ⟨by have := h.name; show s.1.length ≤ _; omega, fun c hc => by have := h.cols.2 c (few5_mem hc); omega⟩
theorem few_fits {l : List Vl} (h : ∀ v ∈ l, InV v) : ∀ v ∈ few5 l, Fits v := fun v hv => by
  have := h v (few5_mem hv)
  exact ⟨this.1, by have := this.2; omega⟩
theorem few_tx {l : List Vl} (h : ∀ v ∈ l, InV v) : ∀ v ∈ few5 l, Tx v := fun v hv => (few_fits h v hv).2
theorem few_64 {l : List Vl} (h : ∀ v ∈ l, InV v) : ∀ v ∈ few5 l, In64 v.2.1 := fun v hv => (h v (few5_mem hv)).1
theorem cop_len (s : Sch) : (cop s).2.1.length ≤ 5 ∧ (cop s).2.2.length ≤ 5 := ⟨few5_len _, few5_len _⟩
/-! ### told -/
def little : Sch := ([116], [([107], 1, 0), ([110], 2, 3)], [(1, true)])
theorem little_right : rightS little = true := by decide +kernel
theorem runes_lit {l : List UInt8} (rs : List Int) (h : (rs.all fun c => decide (OkR c)) = true) (e : rs.flatMap encodeRune = l) : runesOf l = rs ∧ validD l = true := by
  have ho : ofRunes rs = rs.flatMap encodeRune := by
    clear h e
    induction rs with
    | nil => rfl
    | cons c l ih => rw [ofRunes_cons, List.flatMap_cons, ih]
  have hk : ∀ c ∈ rs, OkR c := fun c hc => by
    have := List.all_eq_true.1 h c hc
    simpa using this
  rw [← e, ← ho]
  exact ⟨runesOf_ofRunes hk, valid_ofRunes hk⟩
theorem told_is : law14_told.impl = some true := by
  obtain ⟨a1, a2⟩ := runes_lit (l := [195, 164, 195, 182, 195, 188]) [228, 246, 252] (by decide) (by decide +kernel)
  obtain ⟨b1, b2⟩ := runes_lit (l := [97, 98, 99, 100]) [97, 98, 99, 100] (by decide) (by decide +kernel)
  have ca : countR [195, 164, 195, 182, 195, 188] = 3 := by unfold countR; rw [if_pos a2, a1]; rfl
  have cb : countR [97, 98, 99, 100] = 4 := by unfold countR; rw [if_pos b2, b1]; rfl
  have nl : NamesS little := ⟨by decide, by decide⟩
  have hL : law14_Little.impl = some little := rfl
  have hR : ∀ t : List UInt8, law14_Row.impl 1 t = some [(1, 1, []), (2, 0, t)] := fun _ => rfl
  have hE := Encode_is nl
  rw [if_pos little_right] at hE
  have hl := encS_len little_right
  have hD := Decode_is (b := encS little) (by omega)
  rw [decS_enc little_right] at hD
  have hRi := SRight_is nl
  rw [if_pos little_right] at hRi
  have r1 : rightE (1, 1, []) = 0 := right1.2 rfl
  have ra : rightE (2, 0, [195, 164, 195, 182, 195, 188]) = 0 := right2.2 ⟨rfl, a2⟩
  have f : ∀ (t : List UInt8) (b : Bool), fitsV (2, 0, t) ([110], 2, 3) 1 = b → fitsR little [(1, 1, []), (2, 0, t)] = if b = true then 0 else 62 := fun t b hb => by
    have h0 : fitsV (1, 1, []) ([107], 1, 0) 0 = true := by unfold fitsV; rw [r1]; rfl
    unfold fitsR
    rw [if_pos little_right, if_pos (show [((1, 1, []) : Vl), (2, 0, t)].length = little.2.1.length from rfl)]
    have : (List.range 2).all (fun i => fitsV ([((1, 1, []) : Vl), (2, 0, t)].getD i default) (little.2.1.getD i default) i) = b := by
      show (fitsV (1, 1, []) ([107], 1, 0) 0 && (fitsV (2, 0, t) ([110], 2, 3) 1 && true)) = b
      rw [h0, hb]; simp
    show (if (List.range 2).all (fun i => fitsV ([((1, 1, []) : Vl), (2, 0, t)].getD i default) (little.2.1.getD i default) i) = true then (0 : Int) else 62) = _
    rw [this]
  have fa := f _ true (show fitsV (2, 0, [195, 164, 195, 182, 195, 188]) ([110], 2, 3) 1 = true by
    unfold fitsV
    simp only [ra, ca]; decide)
  have fb := f _ false (show fitsV (2, 0, [97, 98, 99, 100]) ([110], 2, 3) 1 = false by
    unfold fitsV
    simp only [cb]
    cases decide (rightE (2, 0, [97, 98, 99, 100]) = 0) <;> decide)
  have tx : ∀ t : List UInt8, t.length ≤ 10 → ∀ v ∈ [((1, 1, []) : Vl), (2, 0, t)], Tx v := fun t ht v hv => by
    simp only [List.mem_cons, List.not_mem_nil, or_false] at hv
    rcases hv with rfl | rfl
    · show ([] : List UInt8).length ≤ _; simp
    · show t.length ≤ _; omega
  have F1 := Fits_is nl (tx [195, 164, 195, 182, 195, 188] (by simp))
  have F2 := Fits_is nl (tx [97, 98, 99, 100] (by simp))
  rw [fa] at F1
  rw [fb] at F2
  have hS := SSame_is (a := little) (b := little) (by decide) (by decide)
  have n1 := Name_is (l := [116]) (by simp)
  have n2 := Name_is (l := [84]) (by simp)
  have e0 := SRight_is (s := ([], [], [])) ⟨by simp, by simp⟩
  have p1 : nameP [116] = true := by decide +kernel
  have p2 : nameP [84] = false := by decide +kernel
  have p3 : rightS ([], [], []) = false := by decide +kernel
  rw [p1] at n1
  rw [p2] at n2
  rw [p3] at e0
  unfold law14_told.impl
  have hpos : (0 : Int) < ((encS little).length : Int) := by
    have : 0 < (encS little).length := by unfold encS; simp
    omega
  simp only [hL, hR, Option.bind_some, hE, hD, hRi, F1, F2, if_true, decide_true]
  rw [ite_dt hpos]
  have hS' : schema_Same.impl (little.1, little.2.1, little.2.2) little = some (decide (little = little)) := hS
  simp only [hS', Option.bind_some, decide_true, if_true, n1, n2, Bool.false_eq_true, if_false]
  rw [e0]
  rfl
end Go.Proofs.YtdfbknkgmhddcaaDoor
