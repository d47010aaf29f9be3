/- The view in plain terms (under way). -/
import Derived.Test.YthacklkmngfniaaView
import Derived.Test.YthacklkmngfniaaDraftL
set_option linter.unusedVariables false
set_option linter.unusedSimpArgs false
namespace Go.Proofs.Ythacklkmngfniaa
open Go Go.RowKit
/-- What the changes say of a number's key. -/
def NInv (l : List Chg) (n : Nat) : Prop := l.length ≤ n ∧ (∀ c ∈ l, c.1.2.2.length ≤ 1800)
def numL (l : List Chg) (sp : Int) (k : UInt8) (v : Option Nat) : Prop := match v with | none => getL l sp [k] = none | some x => x < 2147483648 ∧ getL l sp [k] = some (uint x)
theorem okv {sp : Int} (h : 0 ≤ sp ∧ sp < 16) (k : UInt8) : okK sp [k] := ⟨h, by simp, by simp⟩
theorem number_is {l : List Chg} {n : Nat} (hI : NInv l n) (hn : n ≤ 1000) {sp : Int} (hs : 0 ≤ sp ∧ sp < 16) {k : Int} (hk : 0 ≤ k ∧ k < 256) {v : Option Nat} (hv : numL l sp (u8 k) v) :
    view_notes_number.impl loc0 tre0 pag0 [] dsk0 [] [] [] [] l sp k = some (((v.getD 0 : Nat) : Int), v.isSome, 0) := by
  obtain ⟨w, e1, e2⟩ := Get_is l (by have := hI.1; omega) hI.2 (okv hs (u8 k))
  unfold view_notes_number.impl
  rw [chk_true hk]
  simp only [loc0, tre0, pag0, dsk0] at e1 ⊢
  rw [e1]
  simp only [Option.bind_some, decide_true, if_true]
  unfold view_notes_number.k1
  cases v with
  | none => have : getL l sp [u8 k] = none := hv; rw [this]; rfl
  | some x =>
    obtain ⟨hx, hg⟩ : x < 2147483648 ∧ getL l sp [u8 k] = some (uint x) := hv
    have hw := e2 _ hg
    rw [hg, hw]
    have r1 := RU_uint (n := x) [] [] (by omega) (by have := uint_le (n := x) (by omega); simp; omega)
    simp only [List.nil_append, List.length_nil, List.append_nil, Nat.zero_add] at r1
    rw [show (((0 : Nat) : Int)) = (0 : Int) from rfl] at r1
    simp [r1]
/-- What the changes say of the four servers and of the version. -/
structure VInv (l : List Chg) (nt : Nat → Option Nat) (ver : Option Nat) (n : Nat) : Prop where
  inv : NInv l n
  notes : ∀ s : Nat, s < 4 → numL l 6 (u8 (s : Int)) (nt s)
  version : numL l 7 0 ver
theorem VInv.nil : VInv [] (fun _ => none) none 0 := ⟨⟨by simp, fun c h => (List.not_mem_nil h).elim⟩, fun _ _ => rfl, rfl⟩
theorem of_is {l : List Chg} {nt : Nat → Option Nat} {ver : Option Nat} {n : Nat} (h : VInv l nt ver n) (hn : n ≤ 1000) {s : Nat} (hs : s < 4) :
    view_notes_of.impl loc0 tre0 pag0 [] dsk0 [] [] [] [] l (s : Int) = some ((((nt s).getD 0 : Nat) : Int), (nt s).isSome, 0) := by
  have e := number_is h.inv hn (sp := 6) (by omega) (k := (s : Int)) (by omega) (h.notes s hs)
  unfold view_notes_of.impl
  rw [u8_id (by omega)]
  simp only [loc0, tre0, pag0, dsk0] at e ⊢
  rw [e]; rfl
theorem right_v (l : List Chg) (s : Int) : view_right.impl loc0 tre0 pag0 [] dsk0 [] [] [] [] l s = some (decide (0 ≤ s ∧ s < 4)) := by
  unfold view_right.impl
  by_cases h : 0 ≤ s <;> simp [h]
theorem Get_v {l : List Chg} {nt : Nat → Option Nat} {ver : Option Nat} {n : Nat} (h : VInv l nt ver n) (hn : n ≤ 1000) {s : Nat} (hs : s < 4) :
    view_Get.impl loc0 tre0 pag0 [] dsk0 [] [] [] [] l (s : Int) = some ((((nt s).getD 0 : Nat) : Int), (nt s).isSome, 0) := by
  have e := of_is h hn hs
  have e1 := right_v l (s : Int)
  unfold view_Get.impl
  simp only [loc0, tre0, pag0, dsk0] at e e1 ⊢
  rw [e1, decide_eq_true (by omega)]
  simp only [Option.bind_some, Bool.not_true, Bool.false_eq_true, if_false]
  rw [e]; rfl
theorem u8_inj : ∀ s < 4, ∀ t < 4, u8 ((s : Nat) : Int) = u8 ((t : Nat) : Int) → s = t := by decide
/-- What is noted behind one more note. -/
def noteN (nt : Nat → Option Nat) (s p : Nat) : Nat → Option Nat := fun i => if i = s then some (max ((nt s).getD 0) p) else nt i
theorem VInv.up {l : List Chg} {nt : Nat → Option Nat} {ver : Option Nat} {n m : Nat} (h : VInv l nt ver n) (hm : n ≤ m) : VInv l nt ver m := ⟨⟨by have := h.inv.1; omega, h.inv.2⟩, h.notes, h.version⟩
theorem NInv.add {l : List Chg} {n : Nat} (h : NInv l n) {sp : Int} {k v : List UInt8} (hv : v.length ≤ 1800) : NInv (l ++ [((sp, k, v), false)]) (n + 1) := by
  refine ⟨by have := h.1; simp; omega, fun c hc => ?_⟩
  rcases List.mem_append.1 hc with q | q
  · exact h.2 c q
  · rw [List.mem_singleton.1 q]; exact hv
theorem getL_add (l : List Chg) (sp sp' : Int) (k k' v : List UInt8) : getL (l ++ [((sp, k, v), false)]) sp' k' = if sp = sp' ∧ k = k' then some v else getL l sp' k' := by
  unfold getL
  rw [lastC_add]
  by_cases h1 : sp = sp' <;> by_cases h2 : k = k' <;> simp [isK, h1, h2]
theorem numL_add (l : List Chg) {sp sp' : Int} {k k' : UInt8} {x : Nat} {v : Option Nat} (hx : x < 2147483648) (hv : ¬ (sp = sp' ∧ k = k') → numL l sp' k' v) (hs : sp = sp' ∧ k = k' → v = some x) : numL (l ++ [((sp, [k], uint x), false)]) sp' k' v := by
  by_cases h : sp = sp' ∧ k = k'
  · rw [hs h]
    refine ⟨hx, ?_⟩
    rw [getL_add, if_pos ⟨h.1, by rw [h.2]⟩]
  · have := hv h
    have hg : getL (l ++ [((sp, [k], uint x), false)]) sp' [k'] = getL l sp' [k'] := by
      rw [getL_add, if_neg (by rintro ⟨a, b⟩; exact h ⟨a, by simpa using b⟩)]
    cases v with
    | none => show _ = _; rw [hg]; exact this
    | some y => exact ⟨this.1, by rw [hg]; exact this.2⟩
theorem VInv.note {l : List Chg} {nt : Nat → Option Nat} {ver : Option Nat} {n : Nat} (h : VInv l nt ver n) {s p : Nat} (hs : s < 4) (hp : p < 2147483648) (hm : (nt s).getD 0 ≤ p) : VInv (l ++ [((6, [u8 (s : Int)], uint p), false)]) (noteN nt s p) ver (n + 1) := by
  refine ⟨h.inv.add (by have := uint_le (n := p) (by omega); omega), fun i hi => ?_, ?_⟩
  · refine numL_add l hp (fun e => ?_) (fun e => ?_)
    · have : i ≠ s := by rintro rfl; exact e ⟨rfl, rfl⟩
      simp only [noteN, this, if_false]; exact h.notes i hi
    · have : s = i := u8_inj s hs i hi e.2
      subst this
      simp only [noteN, if_true]; congr 1; omega
  · exact numL_add l hp (fun _ => h.version) (fun e => absurd e.1 (by decide))
theorem VInv.same {l : List Chg} {nt : Nat → Option Nat} {ver : Option Nat} {n : Nat} (h : VInv l nt ver n) {s p x : Nat} (hx : nt s = some x) (hm : p ≤ x) : VInv l (noteN nt s p) ver (n + 1) := by
  have : noteN nt s p = nt := by
    funext i
    unfold noteN
    by_cases e : i = s
    · subst e; simp [hx]; omega
    · simp [e]
  rw [this]; exact h.up (by omega)
theorem Note_bad {l : List Chg} {s p : Int} (hb : s < 0 ∨ s > 3 ∨ p < 0 ∨ p > 2147483647) : view_Note.impl loc0 tre0 pag0 [] dsk0 [] [] [] [] l s p = some (1, l) := by
  have key : view_Note.k1 l loc0 tre0 pag0 [] dsk0 [] [] [] [] s p true = some (1, l) := by unfold view_Note.k1; simp only [if_true]
  have e1 := right_v l s
  unfold view_Note.impl
  simp only [loc0, tre0, pag0, dsk0] at e1 key ⊢
  rw [e1]
  simp only [Option.bind_some, decide_eq_true_eq]
  by_cases h1 : 0 ≤ s ∧ s < 4
  · rw [if_pos h1]
    by_cases h2 : p < 0
    · rw [if_pos h2]; exact key
    · rw [if_neg h2, decide_eq_true (show 2147483647 < p by omega)]; exact key
  · rw [if_neg h1]; exact key
theorem Note_v {l : List Chg} {nt : Nat → Option Nat} {ver : Option Nat} {n : Nat} (h : VInv l nt ver n) (hn : n ≤ 1000) {s p : Nat} (hs : s < 4) (hp : p < 2147483648) :
    ∃ l', view_Note.impl loc0 tre0 pag0 [] dsk0 [] [] [] [] l (s : Int) (p : Int) = some (0, l') ∧ VInv l' (noteN nt s p) ver (n + 1) := by
  have e0 := of_is h hn hs
  have e1 := right_v l (s : Int)
  unfold view_Note.impl
  simp only [loc0, tre0, pag0, dsk0] at e0 e1 ⊢
  rw [e1, decide_eq_true (show 0 ≤ (s : Int) ∧ (s : Int) < 4 by omega)]
  simp only [Option.bind_some, if_true]
  rw [ite_df (by omega), decide_eq_false (show ¬ 2147483647 < (p : Int) by omega)]
  unfold view_Note.k1
  simp only [Bool.false_eq_true, if_false]
  rw [e0]
  simp only [Option.bind_some, decide_true, if_true]
  have lay : (nt s).getD 0 ≤ p → ∃ l', view_Note.k2 ((((nt s).getD 0 : Nat) : Int), (nt s).isSome, 0) l (p : Int) loc0 tre0 pag0 [] dsk0 [] [] [] [] (s : Int) false = some (0, l') ∧ VInv l' (noteN nt s p) ver (n + 1) := by
    intro hm
    have hq := Put_is l (by have := h.inv.1; omega) (v := uint p) (okv (sp := 6) (by omega) (u8 (s : Int))) (by have := uint_le (n := p) (by omega); omega)
    refine ⟨_, ?_, h.note hs hp hm⟩
    unfold view_Note.k2
    simp only [Bool.false_eq_true, if_false, Uint_is (show p < 9223372036854775808 by omega), Option.bind_some]
    rw [u8_id (by omega)]
    simp only [loc0, tre0, pag0, dsk0] at hq ⊢
    rw [hq]; rfl
  simp only [loc0, tre0, pag0, dsk0] at lay
  cases hx : nt s with
  | none =>
    rw [hx] at lay
    simp only [Option.isSome_none, Bool.false_eq_true, if_false]
    exact lay (by simp)
  | some x =>
    rw [hx] at lay
    simp only [Option.isSome_some, if_true, Option.getD_some] at lay ⊢
    by_cases g : p ≤ x
    · rw [decide_eq_true (show (p : Int) ≤ x by omega)]
      refine ⟨l, ?_, h.same hx g⟩
      unfold view_Note.k2
      simp only [if_true]
    · rw [decide_eq_false (show ¬ (p : Int) ≤ x by omega)]
      exact lay (by omega)
/-- The least note so far. -/
def leastS (nt : Nat → Option Nat) : Nat → Nat × Bool
  | 0 => (0, false)
  | i + 1 => match nt i with
    | none => leastS nt i
    | some x => if (leastS nt i).2 = true then (if x < (leastS nt i).1 then (x, true) else leastS nt i) else (x, true)
theorem Least_v {l : List Chg} {nt : Nat → Option Nat} {ver : Option Nat} {n : Nat} (h : VInv l nt ver n) (hn : n ≤ 1000) :
    view_Least.impl loc0 tre0 pag0 [] dsk0 [] [] [] [] l = some (((leastS nt 4).1 : Int), (leastS nt 4).2, 0) := by
  unfold view_Least.impl
  have key : loop (view_Least.st1 loc0 tre0 pag0 [] dsk0 [] [] [] [] l) (((leastS nt 0).1 : Int), (leastS nt 0).2, ((0 : Nat) : Int)) = some (.inr (((leastS nt 4).1 : Int), (leastS nt 4).2)) := by
    refine loop_up (fun i : Nat => (((leastS nt i).1 : Int), (leastS nt i).2, (i : Int))) 4 (fun i hi => ?_) (by unfold view_Least.st1; rw [ite_df (show ¬ (((4 : Nat) : Int) < 4) by omega)])
    have e0 := of_is h hn hi
    unfold view_Least.st1
    rw [ite_dt (show (i : Int) < 4 by omega)]
    simp only [loc0, tre0, pag0, dsk0] at e0 ⊢
    rw [e0]
    simp only [Option.bind_some, decide_true, Bool.not_true, Bool.false_eq_true, if_false]
    unfold view_Least.k2
    simp only [leastS]
    have hw : IntKind.i64.wrap ((i : Int) + 1) = ((i + 1 : Nat) : Int) := by rw [i64_id (by omega)]; omega
    rw [hw]
    cases hx : nt i with
    | none => simp
    | some x =>
      simp only [Option.isSome_some, if_true, Option.getD_some]
      cases hb : (leastS nt i).2 with
      | false => simp
      | true =>
        simp only [if_true]
        by_cases g : x < (leastS nt i).1
        · rw [decide_eq_true (show (x : Int) < ((leastS nt i).1 : Int) by omega)]; simp [g]
        · rw [decide_eq_false (show ¬ (x : Int) < ((leastS nt i).1 : Int) by omega)]; simp [g, hb]
  have k' : loop (view_Least.st1 loc0 tre0 pag0 [] dsk0 [] [] [] [] l) (0, false, 0) = some (.inr (((leastS nt 4).1 : Int), (leastS nt 4).2)) := key
  rw [k']
  rfl
theorem Version_v {l : List Chg} {nt : Nat → Option Nat} {ver : Option Nat} {n : Nat} (h : VInv l nt ver n) (hn : n ≤ 1000) :
    view_Version.impl loc0 tre0 pag0 [] dsk0 [] [] [] [] l = some (((ver.getD 1 : Nat) : Int), 0) := by
  have e := number_is h.inv hn (sp := 7) (by omega) (k := 0) (by omega) (v := ver) h.version
  unfold view_Version.impl
  simp only [loc0, tre0, pag0, dsk0] at e ⊢
  rw [e]
  simp only [Option.bind_some, decide_true, if_true]
  unfold view_Version.k2 view_Version.k1
  cases ver <;> rfl
theorem VInv.raise {l : List Chg} {nt : Nat → Option Nat} {ver : Option Nat} {n : Nat} (h : VInv l nt ver n) : VInv (l ++ [((7, [0], uint 2), false)]) nt (some 2) (n + 1) :=
  ⟨h.inv.add (by have := uint_le (n := 2) (by omega); omega), fun i hi => numL_add l (by omega) (fun _ => h.notes i hi) (fun e => absurd e.1 (by decide)), numL_add l (by omega) (fun e => absurd ⟨rfl, rfl⟩ e) (fun _ => rfl)⟩
theorem Raise_v {l : List Chg} {nt : Nat → Option Nat} {ver : Option Nat} {n : Nat} (h : VInv l nt ver n) (hn : n ≤ 1000) (v : Int) :
    ∃ l', view_Raise.impl loc0 tre0 pag0 [] dsk0 [] [] [] [] l v = some (decide (ver.getD 1 = 1 ∧ v = 2), 0, l') ∧ VInv l' nt (if ver.getD 1 = 1 ∧ v = 2 then some 2 else ver) (n + 1) := by
  have e0 := Version_v h hn
  have hq := Put_is l (by have := h.inv.1; omega) (v := uint 2) (okv (sp := 7) (by omega) 0) (by have := uint_le (n := 2) (by omega); omega)
  unfold view_Raise.impl
  simp only [loc0, tre0, pag0, dsk0] at e0 hq ⊢
  rw [e0]
  simp only [Option.bind_some, decide_true, if_true]
  unfold view_Raise.k1
  by_cases h1 : ver.getD 1 = 1
  · rw [ite_dt (by omega)]
    by_cases h2 : v = 2
    · subst h2
      have hU := Uint_is (n := 2) (by omega)
      simp only [decide_true, Bool.not_true, Bool.false_eq_true, if_false]
      rw [show ((2 : Int)) = ((2 : Nat) : Int) from rfl, hU]
      simp only [Option.bind_some]
      rw [hq]
      refine ⟨_, ?_, by simpa [h1] using h.raise⟩
      simp [h1]
    · refine ⟨l, ?_, by simpa [h2] using h.up (by omega)⟩
      simp [h2]
  · rw [ite_df (by omega)]
    refine ⟨l, ?_, by simpa [h1] using h.up (by omega)⟩
    simp [h1]
theorem told_is : law20_told.impl = some true := by
  have i0 := VInv.nil
  have a := Get_v i0 (by omega) (s := 2) (by omega)
  obtain ⟨l1, e1, i1⟩ := Note_v i0 (by omega) (s := 2) (p := 5) (by omega) (by omega)
  obtain ⟨l2, e2, i2⟩ := Note_v i1 (by omega) (s := 2) (p := 3) (by omega) (by omega)
  have b := Get_v i2 (by omega) (s := 2) (by omega)
  obtain ⟨l3, e3, i3⟩ := Note_v i2 (by omega) (s := 0) (p := 4) (by omega) (by omega)
  have c := Least_v i3 (by omega)
  have d := Version_v i3 (by omega)
  obtain ⟨l4, e4, i4⟩ := Raise_v i3 (by omega) 2
  have f := Version_v i4 (by omega)
  have a : view_Get.impl loc0 tre0 pag0 [] dsk0 [] [] [] [] [] 2 = some (0, false, 0) := a
  have e1 : view_Note.impl loc0 tre0 pag0 [] dsk0 [] [] [] [] [] 2 5 = some (0, l1) := e1
  have e2 : view_Note.impl loc0 tre0 pag0 [] dsk0 [] [] [] [] l1 2 3 = some (0, l2) := e2
  have b : view_Get.impl loc0 tre0 pag0 [] dsk0 [] [] [] [] l2 2 = some (5, true, 0) := b
  have e3 : view_Note.impl loc0 tre0 pag0 [] dsk0 [] [] [] [] l2 0 4 = some (0, l3) := e3
  have c : view_Least.impl loc0 tre0 pag0 [] dsk0 [] [] [] [] l3 = some (4, true, 0) := c
  have d : view_Version.impl loc0 tre0 pag0 [] dsk0 [] [] [] [] l3 = some (1, 0) := d
  have e4 : view_Raise.impl loc0 tre0 pag0 [] dsk0 [] [] [] [] l3 2 = some (true, 0, l4) := e4
  have f : view_Version.impl loc0 tre0 pag0 [] dsk0 [] [] [] [] l4 = some (2, 0) := f
  unfold law20_told.impl
  rw [New_0]
  simp only [Option.bind_some, loc0, tre0, pag0, dsk0] at a b c d f e1 e2 e3 e4 ⊢
  rw [a]
  simp only [Option.bind_some]
  rw [e1]
  simp only [Option.bind_some]
  rw [e2]
  simp only [Option.bind_some]
  rw [b]
  simp only [Option.bind_some]
  rw [e3]
  simp only [Option.bind_some]
  rw [c]
  simp only [Option.bind_some]
  rw [d]
  simp only [Option.bind_some]
  rw [e4]
  simp only [Option.bind_some]
  rw [f]
  simp [view_Version_nil0.impl]
end Go.Proofs.Ythacklkmngfniaa
