/- Layer 2's statements in plain terms: each answers true. -/
import Derived.Test.YtlokkdfiolfdnaaDoorCmp
import Derived.Test.YtlokkdfiolfdnaaDoorKeysL
set_option linter.unusedVariables false
set_option linter.unusedSimpArgs false
namespace Go.Proofs.YtlokkdfiolfdnaaDoor
open Go Go.RowKit Go.Lib
/-- A value that came in. -/
def InV (v : Vl) : Prop := In64 v.2.1 ∧ v.2.2.length ≤ 1048576
theorem InV.fits {v : Vl} (h : InV v) : Fits v := ⟨h.1, by have := h.2; omega⟩
theorem okR_all {rs : List Int} (h : (rs.all fun c => decide (OkR c)) = true) : ∀ c ∈ rs, OkR c := fun c hc => by
  have := List.all_eq_true.1 h c hc
  simpa using this
theorem runes_lit {l : List UInt8} (rs : List Int) (h : (rs.all fun c => decide (OkR c)) = true) (e : rs.flatMap encodeRune = l) : runesOf l = rs ∧ validD l = true := by
  rw [← ofRunes_flat] at e
  rw [← e]
  exact ⟨runesOf_ofRunes (okR_all h), valid_ofRunes (okR_all h)⟩
theorem told_is : law2_told.impl = some true := by
  obtain ⟨a1, a2⟩ := runes_lit (l := [97]) [97] (by decide) (by decide +kernel)
  obtain ⟨b1, b2⟩ := runes_lit (l := [195, 128, 206, 163, 208, 150, 120]) [192, 931, 1046, 120] (by decide) (by decide +kernel)
  obtain ⟨c1, c2⟩ := runes_lit (l := [195, 164, 120]) [228, 120] (by decide) (by decide +kernel)
  have r1 : rightE (1, 1, []) = 0 := right1.2 rfl
  have r2 : rightE (2, 0, [97]) = 0 := right2.2 ⟨rfl, a2⟩
  have hk : keyL [(1, 1, []), (2, 0, [97])] = ([2, 128, 0, 0, 0, 0, 0, 0, 1, 3, 0, 0, 98, 0, 0, 0], 0) := by
    rw [keyL_cons, if_pos r1, keyL_cons, if_pos r2]
    simp only [keyL, if_true, kb1, kb2, a1]
    decide +kernel
  have hf : foldT [195, 128, 206, 163, 208, 150, 120] = [195, 160, 207, 131, 208, 182, 120] := by
    rw [foldT_valid b2, b1, ofRunes_flat]; decide +kernel
  have hc : countR [195, 164, 120] = 2 := by unfold countR; rw [if_pos c2, c1]; rfl
  have hr : readL [9] = none := readL_none (by simp) (by decide +kernel)
  unfold law2_told.impl
  rw [Key_is (by simp) (fun v hv => by
    simp only [List.mem_cons, List.not_mem_nil, or_false] at hv
    rcases hv with rfl | rfl <;> exact ⟨⟨by decide, by decide⟩, by simp⟩), Read_is (by simp), hk, hr, Fold_is (by simp), hf, Runes_is (by simp), hc, Compare_is (by simp) (by simp)]
  decide +kernel
theorem right_true {v : Vl} {s : List UInt8} (hv : v.2.2.length ≤ 1048576) (hs : s.length ≤ 1048576) : law2_KeysRight.impl v s = some true := by
  unfold law2_KeysRight.impl
  rw [told_is]
  simp only [Option.bind_some, if_true]
  rw [Right_is (v := v) (by omega), RefRight_is (v := v) (by omega), Runes_is (by omega), RefRunes_is (by omega)]
  simp
theorem fold_true {s : List UInt8} (hs : s.length ≤ 1048576) : law2_KeysFold.impl s = some true := by
  have hl := foldT_len s
  unfold law2_KeysFold.impl law2_KeysFold.k1
  rw [told_is, Fold_is (by omega), RefFold_is (by omega)]
  simp only [Option.bind_some, if_true, decide_true]
  rw [Fold_is (by omega), foldT_foldT]
  simp only [Option.bind_some, decide_true, Bool.not_true, Bool.false_eq_true, if_false]
  rw [Runes_is (by omega), Runes_is (by omega)]
  simp only [Option.bind_some]
  by_cases h : validD s = true
  · have hn := countR_neg s
    rw [h] at hn
    have : ¬ countR s < 0 := fun g => by have := hn.1 g; cases this
    rw [ite_df this, countR_fold h]; simp
  · rw [ite_dt ((countR_neg s).2 (by simpa using h)), foldT_bad h]; rfl
/-! ### Lists -/
theorem subl_take {α : Type} (l : List α) (n : Nat) : subl l 0 (n : Int) = l.take n := by unfold subl; simp
theorem few_is {l : List Vl} {k : Nat} (hl : l.length ≤ 1048576) (hk : k ≤ 1048576) : law2_few.impl l (k : Int) = some (((min l.length k : Nat) : Int), l.take (min l.length k) ++ [(-7, 0, [])]) := by
  have e : (min (l.length : Int) (k : Int)) = ((min l.length k : Nat) : Int) := by omega
  unfold law2_few.impl
  rw [e]
  generalize hn : min l.length k = n
  simp only [subl_take, List.nil_append]
  have h1 : n ≤ l.length := by omega
  rw [chk_pos (by omega), chk_pos (by simp; omega), chk_pos (by simp; omega), chk_pos (by simp; omega)]
theorem bytes_true {l : List Vl} {b : List UInt8} (hl : l.length ≤ 1048576) (hv : ∀ v ∈ l, InV v) (hb : b.length ≤ 1048576) : law2_KeysBytes.impl l b = some true := by
  unfold law2_KeysBytes.impl
  have hf := few_is (k := 8) hl (by omega)
  erw [hf]
  simp only [Option.bind_some]
  generalize hn : min l.length 8 = n
  have h1 : n ≤ l.length := by omega
  have e1 : subl (l.take n ++ [((-7, 0, []) : Vl)]) 0 (n : Int) = l.take n := by rw [subl_take, List.take_append_of_le_length (by simp; omega), List.take_of_length_le (by simp; omega)]
  have hlt : (l.take n).length = n := by simp; omega
  simp only [e1, hlt]
  have w : IntKind.i64.wrap ((n : Int) + 1) = ((n + 1 : Nat) : Int) := by rw [i64_id (by omega)]; omega
  have e2 : subl (l.take n ++ [((-7, 0, []) : Vl)]) 0 ((n + 1 : Nat) : Int) = l.take n ++ [(-7, 0, [])] := by rw [subl_take, List.take_of_length_le (by simp; omega)]
  have hg : (l.take n ++ [((-7, 0, []) : Vl)]).getD n default = (-7, 0, []) := by
    rw [List.getD_eq_getElem?_getD, List.getElem?_append_right (by omega), hlt]; simp
  have fits : ∀ v ∈ l.take n, Fits v := fun v hv' => (hv v (List.mem_of_mem_take hv')).fits
  rw [Key_is (l := l.take n) (by omega) fits, RefKey_is (l := l.take n) (by omega) fits, Read_is (by omega), RefRead_is (by omega), told_is]
  simp only [Option.bind_some, if_true, decide_true]
  have hr : (readOut [] (readL b)).1.length ≤ 4194304 := by
    cases e : readL b with
    | none => simp [readOut]
    | some v =>
      obtain ⟨_, h2⟩ := readL_inv _ b (Nat.lt_succ_self _) v e
      have : ∀ v : List Vl, v.length ≤ (v.flatMap kb).length := by
        intro v
        induction v with
        | nil => simp
        | cons a v ih =>
          have := List.length_pos_iff.2 (kb_ne a)
          rw [List.flatMap_cons, List.length_append, List.length_cons]; omega
      have := this v
      rw [← h2] at this
      simp only [readOut, List.nil_append]; omega
  rw [RefSame_is hr]
  simp only [Option.bind_some, if_true, decide_true]
  rw [chk_pos (by omega), subl_take, RefSame_is (by omega)]
  simp only [Option.bind_some, if_true, decide_true, w, e2, Int.toNat_natCast, hg]
  rw [chk_pos (by simp; omega), chk_pos (by simp; omega)]
/-- The Right ones, six at most. -/
theorem right_is {l : List Vl} (hl : l.length ≤ 1048576) (hv : ∀ v ∈ l, InV v) : ∃ x, law2_right.impl l = some x ∧ x.length ≤ 6 ∧ ∀ v ∈ x, Good v ∧ v.2.2.length ≤ 1048576 := by
  unfold law2_right.impl
  have := loop_inv (step := law2_right.st1 l) (I := fun s => (∃ i : Nat, s.2 = (i : Int) ∧ i ≤ l.length) ∧ s.1.length ≤ 6 ∧ ∀ v ∈ s.1, Good v ∧ v.2.2.length ≤ 1048576) (Q := fun x => x.length ≤ 6 ∧ ∀ v ∈ x, Good v ∧ v.2.2.length ≤ 1048576) (fun s => l.length - s.2.toNat) (fun s hs => by
    obtain ⟨acc, j⟩ := s
    obtain ⟨⟨i, rfl, hi⟩, h6, hg⟩ := hs
    dsimp only at h6 hg
    have w : IntKind.i64.wrap ((i : Int) + 1) = ((i + 1 : Nat) : Int) := by rw [i64_id (by omega)]; omega
    unfold law2_right.st1 law2_right.k2 law2_right.k3
    simp only [w, Int.toNat_natCast]
    by_cases h1 : i < l.length
    · rw [ite_dt (by omega)]
      by_cases h2 : acc.length < 6
      · have hm := hv _ (List.getElem_mem h1)
        rw [← getD_el h1] at hm
        have hm2 := hm.2
        rw [ite_dt (by omega), chk_pos (by omega), RefRight_is (by omega)]
        simp only [Option.bind_some]
        right
        by_cases h3 : rightE (l.getD i default) = 0
        · rw [ite_dt h3, chk_pos (by omega), chk_pos (by simp; omega)]
          refine ⟨_, rfl, ⟨⟨i + 1, rfl, by omega⟩, by simp; omega, fun v hv' => ?_⟩, by dsimp only; omega⟩
          rcases List.mem_append.1 hv' with h | h
          · exact hg v h
          · rw [List.mem_singleton.1 h]; exact ⟨⟨h3, hm.1⟩, hm.2⟩
        · rw [ite_df h3]
          exact ⟨_, rfl, ⟨⟨i + 1, rfl, by omega⟩, h6, hg⟩, by dsimp only; omega⟩
      · rw [ite_df (by omega)]
        exact .inl ⟨_, rfl, h6, hg⟩
    · rw [ite_df (by omega)]
      exact .inl ⟨_, rfl, h6, hg⟩) ([], 0) ⟨⟨0, rfl, Nat.zero_le _⟩, by simp, by simp⟩
  obtain ⟨x, h1, h2⟩ := this
  refine ⟨x, ?_, h2⟩
  erw [h1]; rfl
theorem keyL_good {l : List Vl} (h : ∀ v ∈ l, rightE v = 0) : keyL l = (l.flatMap kb, 0) := by
  induction l with
  | nil => rfl
  | cons v l ih =>
    rw [keyL_cons, if_pos (h v (by simp)), ih (fun x hx => h x (by simp [hx])), List.flatMap_cons, if_pos rfl]
theorem flat_len {l : List Vl} (h : ∀ v ∈ l, Good v ∧ v.2.2.length ≤ 1048576) : (l.flatMap kb).length ≤ 16777216 * l.length := by
  induction l with
  | nil => simp
  | cons v l ih =>
    have h1 := h v (by simp)
    have h2 := kb_length (v := v) ⟨h1.1.2, by have := h1.2; omega⟩
    have := ih (fun x hx => h x (by simp [hx]))
    rw [List.flatMap_cons, List.length_append, List.length_cons]; omega
/-- What is said of Right lists. -/
structure Few (x : List Vl) : Prop where
  len : x.length ≤ 12
  ok : ∀ v ∈ x, Good v ∧ v.2.2.length ≤ 1048576
theorem Few.good {x : List Vl} (h : Few x) : ∀ v ∈ x, Good v := fun v hv => (h.ok v hv).1
theorem Few.key {x : List Vl} (h : Few x) : keys_Key.impl x = some (x.flatMap kb, 0) := by
  rw [Key_is (by have := h.len; omega) (fun v hv => ⟨(h.ok v hv).1.2, by have := (h.ok v hv).2; omega⟩), keyL_good (fun v hv => (h.ok v hv).1.1)]
theorem Few.comp {x y : List Vl} (h : Few x) (g : Few y) : keys_Compare.impl x y = some (lexBy heldP x y) := Compare_is (by have := h.len; omega) (by have := g.len; omega)
theorem Few.ref {x y : List Vl} (h : Few x) (g : Few y) : ref2_Compare.impl x y = some (lexBy heldP x y) :=
  RefCompare_is (by have := h.len; omega) (by have := g.len; omega) (fun v hv => ⟨(h.ok v hv).1.1, by have := (h.ok v hv).2; omega⟩) (fun v hv => ⟨(g.ok v hv).1.1, by have := (g.ok v hv).2; omega⟩)
theorem Few.app {x y : List Vl} (h : Few x) (g : Few y) (h6 : x.length ≤ 6) (g6 : y.length ≤ 6) : Few (x ++ y) :=
  ⟨by rw [List.length_append]; omega, fun v hv => by
    rcases List.mem_append.1 hv with e | e
    · exact h.ok v e
    · exact g.ok v e⟩
theorem Few.one {v : Vl} (h : Good v ∧ v.2.2.length ≤ 1048576) : Few [v] := ⟨by simp, fun w hw => by rw [List.mem_singleton.1 hw]; exact h⟩
theorem Few.readBack {x : List Vl} (h : Few x) (h6 : x.length ≤ 6) : keys_Read.impl (x.flatMap kb) = some (x, 0) := by
  have hl := flat_len h.ok
  rw [Read_is (by omega), readL_kb x (fun v hv => (h.ok v hv).1)]
  rfl
theorem cmp_vals {x y : List Vl} (h : Few x) (g : Few y) : lexBy heldP x y = -1 ∨ lexBy heldP x y = 0 ∨ lexBy heldP x y = 1 := by
  rw [← key_ord h.good g.good]; exact lexB_vals _ _
theorem cmp_zero {x y : List Vl} (h : Few x) (g : Few y) : lexBy heldP x y = 0 ↔ x = y := by
  rw [← key_ord h.good g.good]
  constructor
  · intro e
    have e2 := lexB_zero e
    have h1 := readL_kb x h.good
    have h2 := readL_kb y g.good
    rw [e2, h2] at h1
    exact (Option.some.inj h1).symm
  · intro e; rw [e]; exact lexB_self _
theorem cmp_anti {x y : List Vl} (h : Few x) (g : Few y) : lexBy heldP y x = - lexBy heldP x y := by
  rw [← key_ord h.good g.good, ← key_ord g.good h.good]; exact lexB_anti _ _
theorem key_zero {x y : List Vl} (h : Few x) (g : Few y) : x.flatMap kb = y.flatMap kb ↔ x = y := by
  rw [← cmp_zero h g, ← key_ord h.good g.good]
  exact ⟨fun e => by rw [e]; exact lexB_self _, lexB_zero⟩
/-- No value's bytes begin another one's. -/
theorem kb_no_begin {v w : Vl} (hv : Good v) (hw : Good w) (hne : v ≠ w) (r : List UInt8) : kb w ≠ kb v ++ r := fun e => by
  have h1 := oneL_kb hv.1 hv.2 r
  have h2 := oneL_kb hw.1 hw.2 []
  rw [List.append_nil, e, h1] at h2
  simp only [Option.some.injEq, Prod.mk.injEq] at h2
  exact hne h2.1
theorem order_true {a b : List Vl} (ha : a.length ≤ 1048576) (hva : ∀ v ∈ a, InV v) (hb : b.length ≤ 1048576) (hvb : ∀ v ∈ b, InV v) : law2_KeysOrder.impl a b = some true := by
  obtain ⟨x, x1, x6, xo⟩ := right_is ha hva
  obtain ⟨y, y1, y6, yo⟩ := right_is hb hvb
  have hx : Few x := ⟨by omega, xo⟩
  have hy : Few y := ⟨by omega, yo⟩
  have cv := cmp_vals hx hy
  have c0 := cmp_zero hx hy
  have k0 := key_zero hx hy
  have ko := key_ord hx.good hy.good
  unfold law2_KeysOrder.impl
  rw [x1, y1]
  simp only [Option.bind_some]
  rw [hx.key, hy.key, hx.comp hy, told_is, hx.ref hy, hy.comp hx, cmp_anti hx hy]
  simp only [Option.bind_some, if_true, decide_true]
  rw [i64_id (n := 0 - lexBy heldP x y) (by omega), show 0 - lexBy heldP x y = - lexBy heldP x y by omega]
  simp only [decide_true, Bool.not_true]
  unfold law2_KeysOrder.k1
  simp only [Bool.false_eq_true, if_false, lexB_less, ko, decide_true, if_true]
  rw [show decide (lexBy heldP x y = 0) = decide (x = y) by rw [Bool.eq_iff_iff]; simpa using c0, show decide (x.flatMap kb = y.flatMap kb) = decide (x = y) by rw [Bool.eq_iff_iff]; simpa using k0, RefSame_is (by omega)]
  simp only [decide_true, if_true, Option.bind_some, Bool.not_true]
  unfold law2_KeysOrder.k2
  simp only [Bool.false_eq_true, if_false]
  rw [hx.readBack x6]
  simp only [decide_true, if_true, Option.bind_some]
  rw [RefSame_is (by omega)]
  simp only [decide_true, Option.bind_some, Bool.not_true]
  unfold law2_KeysOrder.k3
  simp only [Bool.false_eq_true, if_false]
  by_cases l1 : x.length = 0
  · rw [ite_dt (by omega)]; rfl
  rw [ite_df (by omega)]
  by_cases l2 : y.length = 0
  · rw [ite_dt (by omega)]; rfl
  rw [ite_df (by omega), chk_pos (by omega), chk_pos (by omega)]
  simp only [show (0 : Int).toNat = 0 from rfl]
  have m1 := xo _ (List.getElem_mem (show 0 < x.length by omega))
  have m2 := yo _ (List.getElem_mem (show 0 < y.length by omega))
  rw [← getD_el (by omega)] at m1 m2
  by_cases e : x.getD 0 default = y.getD 0 default
  · rw [decide_eq_true e]; rfl
  · rw [decide_eq_false e]
    unfold law2_KeysOrder.k4
    simp only [Bool.false_eq_true, if_false, show (0 : Int).toNat = 0 from rfl]
    rw [chk_pos (by omega), (Few.one m1).key]
    simp only [Option.bind_some]
    rw [chk_pos (by omega), (Few.one m2).key]
    simp only [Option.bind_some, List.flatMap_cons, List.flatMap_nil, List.append_nil]
    by_cases hl : (kb (y.getD 0 default)).length < (kb (x.getD 0 default)).length
    · rw [ite_dt (by omega)]
    · rw [ite_df (by omega), chk_pos (by omega), subl_take]
      congr 1
      rw [Bool.not_eq_true', decide_eq_false_iff_not]
      intro h
      refine kb_no_begin m1.1 m2.1 e ((kb (y.getD 0 default)).drop (kb (x.getD 0 default)).length) ?_
      conv => rhs; rw [← h]
      rw [List.length_take, Nat.min_eq_left (by omega), List.take_append_drop]
theorem forth_true {b : List UInt8} (hb : b.length ≤ 1048576) : law2_KeysForth.impl b = some true := by
  unfold law2_KeysForth.impl
  rw [Read_is (by omega), told_is]
  simp only [Option.bind_some, if_true]
  cases e : readL b with
  | none => simp [readOut]
  | some l =>
    obtain ⟨h1, h2⟩ := readL_inv _ b (Nat.lt_succ_self _) l e
    have hlen : ∀ v : List Vl, v.length ≤ (v.flatMap kb).length := by
      intro v
      induction v with
      | nil => simp
      | cons a v ih =>
        have := List.length_pos_iff.2 (kb_ne a)
        rw [List.flatMap_cons, List.length_append, List.length_cons]; omega
    have hl := hlen l
    rw [← h2] at hl
    have hkb : ∀ v ∈ l, (kb v).length ≤ b.length := fun v hv => by
      obtain ⟨s, t, rfl⟩ := List.append_of_mem hv
      rw [h2, List.flatMap_append, List.flatMap_cons, List.length_append, List.length_append]; omega
    have fits : ∀ v ∈ l, Fits v := fun v hv => by
      refine ⟨(h1 v hv).2, ?_⟩
      have hk := kind_of_right (h1 v hv).1
      have hr := (h1 v hv).1
      have hl := hkb v hv
      obtain ⟨k, n, t⟩ := v
      simp only at hk
      rcases hk with rfl | rfl | rfl | rfl
      · obtain ⟨_, rfl⟩ := right0.1 hr; simp
      · obtain rfl := right1.1 hr; simp
      · obtain ⟨_, hv⟩ := right2.1 hr
        have h5 := ofRunes_le (runesOf t)
        rw [ofRunes_runesOf hv] at h5
        rw [kb2, List.length_cons, List.length_append, flat3_length] at hl
        dsimp only
        omega
      · obtain ⟨rfl, _⟩ := right3.1 hr; simp
    simp only [readOut, List.nil_append, decide_true, Bool.not_true, Bool.false_eq_true, if_false]
    rw [Key_is (by omega) fits, keyL_good (fun v hv => (h1 v hv).1), ← h2]
    simp
theorem cmp_trans {x y z : List Vl} (hx : Few x) (hy : Few y) (hz : Few z) (h1 : lexBy heldP x y ≤ 0) (h2 : lexBy heldP y z ≤ 0) : lexBy heldP x z ≤ 0 ∧ (lexBy heldP x y < 0 → lexBy heldP x z < 0) := by
  rw [← key_ord hx.good hy.good] at h1 ⊢
  rw [← key_ord hy.good hz.good] at h2
  rw [← key_ord hx.good hz.good]
  have := lexB_trans _ _ _ h1 h2
  exact ⟨this.1, this.2.1⟩
theorem cmp_begin {x y : List Vl} (hx : Few x) (hxy : Few (x ++ y)) : 0 ≤ lexBy heldP (x ++ y) x := by
  rw [← key_ord hxy.good hx.good, lexB_anti, List.flatMap_append]
  have := lexBy_pre cmpU_self (x.flatMap kb) (y.flatMap kb)
  rw [show lexB (x.flatMap kb) (x.flatMap kb ++ y.flatMap kb) = _ from this]
  split <;> decide
theorem join_true {a b c : List Vl} (ha : a.length ≤ 1048576) (hva : ∀ v ∈ a, InV v) (hb : b.length ≤ 1048576) (hvb : ∀ v ∈ b, InV v) (hc : c.length ≤ 1048576) (hvc : ∀ v ∈ c, InV v) : law2_KeysJoin.impl a b c = some true := by
  obtain ⟨x, x1, x6, xo⟩ := right_is ha hva
  obtain ⟨y, y1, y6, yo⟩ := right_is hb hvb
  obtain ⟨z, z1, z6, zo⟩ := right_is hc hvc
  have hx : Few x := ⟨by omega, xo⟩
  have hy : Few y := ⟨by omega, yo⟩
  have hz : Few z := ⟨by omega, zo⟩
  have hxy := hx.app hy x6 y6
  have hf := few_is (l := x) (k := 6) (by omega) (by omega)
  rw [Nat.min_eq_left x6] at hf
  have hs : subl (x.take x.length ++ [((-7, 0, []) : Vl)]) 0 (x.length : Int) = x := by rw [subl_take, List.take_length, List.take_left]
  have lx := flat_len hx.ok
  have ly := flat_len hy.ok
  unfold law2_KeysJoin.impl
  rw [x1, y1, z1]
  simp only [Option.bind_some]
  rw [hx.key, hy.key]
  simp only [Option.bind_some]
  erw [hf]
  simp only [Option.bind_some, hs]
  rw [chk_pos (by omega), hxy.key, told_is]
  simp only [Option.bind_some, if_true, decide_true]
  rw [chk_pos (by omega), List.flatMap_append]
  simp only [decide_true, Bool.not_true]
  have k2 : law2_KeysJoin.k2 x y false = some true := by
    unfold law2_KeysJoin.k2
    simp only [Bool.false_eq_true, if_false]
    erw [hf]
    simp only [Option.bind_some, hs]
    rw [chk_pos (by omega), hxy.comp hx]
    simp only [Option.bind_some]
    rw [decide_eq_true (cmp_begin hx hxy)]
  unfold law2_KeysJoin.k1
  simp only [Bool.false_eq_true, if_false]
  rw [hx.comp hy, hy.comp hz, hx.comp hz]
  simp only [Option.bind_some]
  have tr := cmp_trans hx hy hz
  by_cases h1 : lexBy heldP x y ≤ 0
  · rw [ite_dt h1]
    by_cases h2 : lexBy heldP y z ≤ 0
    · have t := tr h1 h2
      rw [ite_dt h2, ite_df (by omega)]
      by_cases h3 : lexBy heldP x y < 0
      · have := t.2 h3
        rw [ite_dt h3, decide_eq_false (by omega), k2]
      · rw [ite_df h3, k2]
    · rw [ite_df h2, k2]
      split <;> rfl
  · rw [ite_df h1, ite_df (by omega), k2]
theorem texts_true {s t : List UInt8} (h : s.length + t.length ≤ 1048576) : law2_KeysTexts.impl s t = some true := by
  have hs := countR_neg s
  have ht := countR_neg t
  have ok : ∀ {l : List UInt8}, validD l = true → 0 ≤ countR l := fun {l} hv => by unfold countR; rw [if_pos hv]; omega
  have le : ∀ {l : List UInt8}, countR l ≤ l.length := fun {l} => by
    unfold countR
    have := runesOf_le l
    split <;> omega
  have ls := le (l := s)
  have lt := le (l := t)
  unfold law2_KeysTexts.impl law2_KeysTexts.k1
  rw [Runes_is (by omega), Runes_is (by omega)]
  simp only [Option.bind_some]
  rw [chk_pos (by omega), Runes_is (by rw [List.length_append]; omega), told_is, Fold_is (l := s) (by omega), Fold_is (l := t) (by omega)]
  simp only [Option.bind_some, if_true]
  by_cases vs : validD s = true
  · have os := ok vs
    rw [ite_df (by omega)]
    by_cases vt : validD t = true
    · have ot := ok vt
      rw [decide_eq_false (show ¬ countR t < 0 by omega)]
      simp only [Bool.false_eq_true, if_false]
      rw [chk_pos (by omega), i64_id (by omega), countR_two vs vt, ite_dt rfl, chk_pos (by omega), Fold_is (by rw [List.length_append]; omega), foldT_two vs vt]
      have l1 := foldT_len s
      have l2 := foldT_len t
      simp only [Option.bind_some, decide_true, if_true]
      rw [chk_pos (by omega), Compare_is (by simp) (by simp)]
      have hp := lexBy_pre cmpU_self s t
      have he : lexBy heldP [(2, 0, s)] [(2, 0, s ++ t)] = if t = [] then 0 else -1 := by
        show (if heldP (2, 0, s) (2, 0, s ++ t) = 0 then 0 else heldP (2, 0, s) (2, 0, s ++ t)) = _
        rw [heldP_t, show lexB s (s ++ t) = _ from hp]
        split <;> rfl
      rw [he]
      simp only [Option.bind_some]
      rw [ite_df (by split <;> omega)]
      have e2 : decide ((if t = [] then (0 : Int) else -1) = 0) = decide (t = []) := by
        by_cases g : t = []
        · rw [if_pos g]; simp [g]
        · rw [if_neg g]; simp [g]
      rw [e2]
      simp only [decide_true, Bool.not_true]
      unfold law2_KeysTexts.k2
      simp only [Bool.false_eq_true, if_false]
      rw [RefDecode_is (by omega), if_pos vs, told_is]
      simp only [Option.bind_some, if_true]
      unfold countR
      rw [if_pos vs]; simp
    · have nt : countR t < 0 := ht.2 (by simpa using vt)
      rw [decide_eq_true nt]
      simp only [if_true]
      rw [ite_dt os, ite_df (by omega), foldT_bad vt]; simp
  · have ns : countR s < 0 := hs.2 (by simpa using vs)
    rw [ite_dt ns, ite_df (by omega), foldT_bad vs]
    simp only [decide_true, if_true]
    by_cases vt : validD t = true
    · have ot := ok vt
      rw [ite_dt ot]
    · have nt : countR t < 0 := ht.2 (by simpa using vt)
      rw [ite_df (by omega), foldT_bad vt]; simp
end Go.Proofs.YtlokkdfiolfdnaaDoor
