/- A statement that leaves its order open: a plan in which its operations may be taken. -/
import Derived.Test.YtpogdeibkghhaaaDoorTr
set_option linter.unusedVariables false
set_option linter.unusedSimpArgs false
namespace Go.Proofs.YtpogdeibkghhaaaDoor
open Go.RowKit
section
variable {P : Program} {ops : Array Oper} {Q : Exit → Act → World → Prop} {md : Region.Mode}

/-- Whatever order: the world is w0 till number z comes up. -/
def wpTill (P : Program) (md : Region.Mode) (ops : Array Oper) (Q : Exit → Act → World → Prop) (w0 : World) (z : Nat) : Nat → Array Bool → Act → World → Prop
  | 0, L, a, w => Region.ready md ops L = [] ∧ Q .normal a w
  | f + 1, L, a, w => (Region.ready md ops L = [] → Q .normal a w) ∧
    ∀ i ∈ Region.ready md ops L, wpOp P ops Q i (fun a' w' => if i = z then wpAny P md ops Q f (L.setIfInBounds i true) a' w' else w' = w0 ∧ wpTill P md ops Q w0 z f (L.setIfInBounds i true) a' w') a w
theorem wpTill_any {w0 : World} {z : Nat} : ∀ (f : Nat) (L : Array Bool) (a : Act) (w : World), wpTill P md ops Q w0 z f L a w → wpAny P md ops Q f L a w
  | 0, _, _, _, h => h
  | f + 1, _, _, _, h => ⟨h.1, fun i hi => wpOp_mono (fun a' w' h' => by
    split at h'
    · exact h'
    · exact wpTill_any f _ a' w' h'.2) (h.2 i hi)⟩
/-- Which numbers each one must wait for, as bits. -/
def waits (md : Region.Mode) (acc : List Nat) : List Edge → Nat
  | [] => 0
  | e :: r => if Region.binds md e then (2 ^ e.on ||| acc.getD e.on 0) ||| waits md acc r else waits md acc r
def befs (md : Region.Mode) : List Oper → List Nat → List Nat
  | [], acc => acc
  | o :: r, acc => befs md r (acc ++ [waits md acc o.after.toList])
theorem waits_spec {acc : List Nat} {i : Nat} : ∀ {l : List Edge}, (waits md acc l).testBit i = true → ∃ e ∈ l, Region.binds md e = true ∧ (e.on = i ∨ (e.on < acc.length ∧ (acc.getD e.on 0).testBit i = true))
  | [], h => by simp [waits] at h
  | e :: r, h => by
    simp only [waits] at h
    by_cases hb : Region.binds md e = true
    · rw [if_pos hb, Nat.testBit_or, Nat.testBit_or, Bool.or_eq_true, Bool.or_eq_true] at h
      rcases h with (h | h) | h
      · refine ⟨e, by simp, hb, .inl ?_⟩
        rw [Nat.testBit_two_pow] at h; simpa using h
      · refine ⟨e, by simp, hb, .inr ⟨?_, h⟩⟩
        rcases Nat.lt_or_ge e.on acc.length with hl | hl
        · exact hl
        · rw [List.getD_eq_getElem?_getD, List.getElem?_eq_none hl] at h; simp at h
      · obtain ⟨e', h1, h2⟩ := waits_spec h
        exact ⟨e', List.mem_cons_of_mem _ h1, h2⟩
    · rw [if_neg hb] at h
      obtain ⟨e', h1, h2⟩ := waits_spec h
      exact ⟨e', List.mem_cons_of_mem _ h1, h2⟩
theorem befs_spec : ∀ (r pre : List Oper) (acc : List Nat), acc.length = pre.length →
    (∀ z i, z < acc.length → (acc.getD z 0).testBit i = true → ∃ o, (pre ++ r)[z]? = some o ∧ ∃ e ∈ o.after.toList, Region.binds md e = true ∧ (e.on = i ∨ (e.on < z ∧ (acc.getD e.on 0).testBit i = true))) →
    ∀ z i, ((befs md r acc).getD z 0).testBit i = true → ∃ o, (pre ++ r)[z]? = some o ∧ ∃ e ∈ o.after.toList, Region.binds md e = true ∧ (e.on = i ∨ (e.on < z ∧ ((befs md r acc).getD e.on 0).testBit i = true))
  | [], pre, acc, hl, h => fun z i hz => by
    rcases Nat.lt_or_ge z acc.length with hlt | hge
    · exact h z i hlt hz
    · simp only [befs, List.getD_eq_getElem?_getD, List.getElem?_eq_none hge] at hz; simp at hz
  | o :: r, pre, acc, hl, h => by
    have e1 : pre ++ o :: r = (pre ++ [o]) ++ r := by simp
    rw [e1]
    refine befs_spec r (pre ++ [o]) (acc ++ [waits md acc o.after.toList]) (by simp [hl]) (fun z i hz ht => ?_)
    have hget : ∀ q, q < acc.length → (acc ++ [waits md acc o.after.toList]).getD q 0 = acc.getD q 0 := fun q hq => by
      simp [List.getD_eq_getElem?_getD, List.getElem?_append_left hq]
    rcases Nat.lt_or_ge z acc.length with hlt | hge
    · rw [hget z hlt] at ht
      obtain ⟨o', h1, e, h2, h3, h4⟩ := h z i hlt ht
      refine ⟨o', by rw [← e1]; exact h1, e, h2, h3, ?_⟩
      rcases h4 with h4 | ⟨h4, h5⟩
      · exact .inl h4
      · exact .inr ⟨h4, by rw [hget _ (by omega)]; exact h5⟩
    · have hz' : z = acc.length := by simp at hz; omega
      subst hz'
      have ht' : (waits md acc o.after.toList).testBit i = true := by
        have : (acc ++ [waits md acc o.after.toList]).getD acc.length 0 = waits md acc o.after.toList := by simp [List.getD_eq_getElem?_getD]
        rwa [this] at ht
      obtain ⟨e, h2, h3, h4⟩ := waits_spec ht'
      refine ⟨o, by rw [hl]; simp, e, h2, h3, ?_⟩
      rcases h4 with h4 | ⟨h4, h5⟩
      · exact .inl h4
      · exact .inr ⟨h4, by rw [hget _ h4]; exact h5⟩
/-- Number z waits for number i. -/
def behind (md : Region.Mode) (ops : Array Oper) (z i : Nat) : Bool := Nat.ble ops.size z || ((befs md ops.toList []).getD z 0).testBit i
/-- What is listed has all listed that it waits for. -/
def ShutL (md : Region.Mode) (ops : Array Oper) (L : Array Bool) : Prop := ∀ j o, ops[j]? = some o → L.getD j false = true → ∀ e ∈ o.after, Region.binds md e = true → L.getD e.on false = true
theorem ShutL.start (n : Nat) : ShutL md ops (Array.replicate n false) := fun j o ho hl => by
  simp only [Array.getD_eq_getD_getElem?, Array.getElem?_replicate] at hl
  split at hl <;> simp at hl
theorem ShutL.add {L : Array Bool} (h : ShutL md ops L) {i : Nat} (hi : i ∈ Region.ready md ops L) : ShutL md ops (L.setIfInBounds i true) := fun j o ho hl e he hb => by
  refine getD_set_true ?_
  by_cases hij : i = j
  · subst hij
    obtain ⟨_, o', ho', hall⟩ := mem_ready.1 hi
    rw [ho] at ho'; cases ho'
    exact hall e he hb
  · rw [getD_set_ne false hij] at hl
    exact h j o ho hl e he hb
theorem waits_listed {L : Array Bool} (h : ShutL md ops L) {i : Nat} : ∀ (z : Nat) (o : Oper), ops[z]? = some o → (∀ e ∈ o.after, Region.binds md e = true → L.getD e.on false = true) → ((befs md ops.toList []).getD z 0).testBit i = true → L.getD i false = true := by
  intro z
  induction z using Nat.strongRecOn with
  | _ z ih =>
    intro o ho hall ht
    obtain ⟨o', h1, e, h2, h3, h4⟩ := befs_spec (md := md) ops.toList [] [] rfl (fun z i hz => by simp at hz) z i ht
    simp only [List.nil_append, Array.getElem?_toList] at h1
    rw [ho] at h1; cases h1
    have he : e ∈ o.after := Array.mem_toList_iff.1 h2
    have hl := hall e he h3
    rcases h4 with h4 | ⟨h4, h5⟩
    · rw [← h4]; exact hl
    · have hex : ∃ o2, ops[e.on]? = some o2 := by
        obtain ⟨o2, g1, _⟩ := befs_spec (md := md) ops.toList [] [] rfl (fun z i hz => by simp at hz) e.on i h5
        exact ⟨o2, by simpa using g1⟩
      obtain ⟨o2, g1⟩ := hex
      exact ih e.on h4 o2 g1 (fun e' he' hb' => h e.on o2 g1 hl e' he' hb') h5
theorem not_ready {i z : Nat} {L : Array Bool} (hc : ShutL md ops L) (hb : behind md ops z i = true) (hL : L.getD i false = false) : z ∉ Region.ready md ops L := by
  intro h
  obtain ⟨_, o, ho, hall⟩ := mem_ready.1 h
  simp only [behind, Bool.or_eq_true] at hb
  rcases hb with hb | hb
  · have := Nat.le_of_ble_eq_true hb
    have h2 := (Array.getElem?_eq_some_iff.1 ho).1
    omega
  · have := waits_listed hc z o ho hall hb
    rw [hL] at this; cases this
theorem ready_unlisted {i : Nat} {L : Array Bool} (hr : i ∈ Region.ready md ops L) : L.getD i false = false := by
  have h0 := (mem_ready.1 hr).1
  rcases Nat.lt_or_ge i L.size with h' | h'
  · simp [h'] at h0 ⊢; exact h0
  · simp [Array.getElem?_eq_none h'] at h0
section
variable {i z : Nat} {oi : Oper} {v : Value} (hi : ops[i]? = some oi) (hsel : ∀ (j : Nat) (o : Oper) cs b, ops[j]? = some o → o.op ≠ .select cs b)
  (hQ : ∀ c a w, Q (.panic c) (a.put oi.dst v) w → Q (.panic c) a w)
include hi hsel hQ
/-- Of the others: which may come up ahead of number i, and what follows. -/
theorem take_step {S : World → Prop} {j : Nat} {L : Array Bool} {a : Act} {w : World} {K : Act → World → Prop}
    (hfree : ∀ j oj, ops[j]? = some oj → j ≠ i → L.getD j true = false → (∀ e ∈ oj.after, Region.binds md e = true → e.on ≠ i) → oi.apart ops oj = true)
    (hr : i ∈ Region.ready md ops L) (hj : j ∈ Region.ready md ops L) (e : j ≠ i) (hy : YieldsIf P ops S oi v a)
    (h : wpOp P ops Q j K (a.put oi.dst v) w) :
    wpOp P ops Q j (fun a' w' => YieldsIf P ops S oi v a' ∧ K (a'.put oi.dst v) w') a w ∧
      (∀ k ok, ops[k]? = some ok → k ≠ i → (L.setIfInBounds j true).getD k true = false → (∀ e ∈ ok.after, Region.binds md e = true → e.on ≠ i) → oi.apart ops ok = true) := by
  obtain ⟨hjun, oj, hoj, hall⟩ := mem_ready.1 hj
  have hno : ∀ x ∈ oj.after, Region.binds md x = true → x.on ≠ i := fun x hx hbx hq => by
    have := hall x hx hbx
    rw [hq, ready_unlisted hr] at this; cases this
  refine ⟨wpOp_putIf hoj (hfree j oj hoj e hjun hno) (fun cs b => hsel i oi cs b hi) (fun cs b => hsel j oj cs b hoj) hQ hy h, fun k ok hk hki hun hn => hfree k ok hk hki ?_ hn⟩
  by_cases hjk : j = k
  · subst hjk; exact hjun
  · rw [getD_set_ne true hjk] at hun; exact hun
/-- One that yields in whatever world is taken. -/
theorem any_take : ∀ (f : Nat) (L : Array Bool) (a : Act) (w : World),
    (∀ j oj, ops[j]? = some oj → j ≠ i → L.getD j true = false → (∀ e ∈ oj.after, Region.binds md e = true → e.on ≠ i) → oi.apart ops oj = true) →
    i ∈ Region.ready md ops L → YieldsIf P ops (fun _ => True) oi v a → wpAny P md ops Q f (L.setIfInBounds i true) (a.put oi.dst v) w → wpAny P md ops Q (f + 1) L a w := by
  intro f
  induction f with
  | zero =>
    intro L a w _ hr hy H
    refine ⟨(fun h => by rw [h] at hr; cases hr), fun j hj => ?_⟩
    by_cases e : j = i
    · subst e; exact hy.wpOp hi trivial H
    · have := ready_mono hj e
      rw [H.1] at this; cases this
  | succ f ih =>
    intro L a w hfree hr hy H
    refine ⟨(fun h => by rw [h] at hr; cases hr), fun j hj => ?_⟩
    by_cases e : j = i
    · subst e; exact hy.wpOp hi trivial H
    obtain ⟨h1, h2⟩ := take_step hi hsel hQ hfree hr hj e hy (H.2 j (ready_mono hj e))
    refine wpOp_mono (fun a' w' h3 => ih _ a' w' h2 (ready_mono hr (Ne.symm e)) h3.1 ?_) h1
    rw [Array.setIfInBounds_comm _ _ e]; exact h3.2
theorem till_takeP {w0 : World} : ∀ (f : Nat) (L : Array Bool) (a : Act) (w : World),
    (∀ j oj, ops[j]? = some oj → j ≠ i → L.getD j true = false → (∀ e ∈ oj.after, Region.binds md e = true → e.on ≠ i) → oi.apart ops oj = true) →
    i ∈ Region.ready md ops L → z ≠ i → YieldsIf P ops (fun _ => True) oi v a → w = w0 → wpTill P md ops Q w0 z f (L.setIfInBounds i true) (a.put oi.dst v) w → wpTill P md ops Q w0 z (f + 1) L a w := by
  intro f
  induction f with
  | zero =>
    intro L a w _ hr hz hy hw H
    refine ⟨(fun h => by rw [h] at hr; cases hr), fun j hj => ?_⟩
    by_cases e : j = i
    · subst e
      refine hy.wpOp hi trivial ?_
      rw [if_neg (Ne.symm hz)]; exact ⟨hw, H⟩
    · have := ready_mono hj e
      rw [H.1] at this; cases this
  | succ f ih =>
    intro L a w hfree hr hz hy hw H
    refine ⟨(fun h => by rw [h] at hr; cases hr), fun j hj => ?_⟩
    by_cases e : j = i
    · subst e
      refine hy.wpOp hi trivial ?_
      rw [if_neg (Ne.symm hz)]; exact ⟨hw, H⟩
    obtain ⟨h1, h2⟩ := take_step hi hsel hQ hfree hr hj e hy (H.2 j (ready_mono hj e))
    refine wpOp_mono (fun a' w' h3 => ?_) h1
    obtain ⟨h3, h4⟩ := h3
    by_cases ez : j = z
    · rw [if_pos ez] at h4 ⊢
      refine any_take hi hsel hQ f _ a' w' h2 (ready_mono hr (Ne.symm e)) h3 ?_
      rw [Array.setIfInBounds_comm _ _ e]; exact h4
    · rw [if_neg ez] at h4 ⊢
      refine ⟨h4.1, ih _ a' w' h2 (ready_mono hr (Ne.symm e)) hz h3 h4.1 ?_⟩
      rw [Array.setIfInBounds_comm _ _ e]; exact h4.2
theorem till_takeR {w0 : World} : ∀ (f : Nat) (L : Array Bool) (a : Act) (w : World),
    (∀ j oj, ops[j]? = some oj → j ≠ i → L.getD j true = false → (∀ e ∈ oj.after, Region.binds md e = true → e.on ≠ i) → oi.apart ops oj = true) →
    ShutL md ops L → i ∈ Region.ready md ops L → z ≠ i → behind md ops z i = true → YieldsIf P ops (fun w' => w' = w0) oi v a → w = w0 → wpTill P md ops Q w0 z f (L.setIfInBounds i true) (a.put oi.dst v) w → wpTill P md ops Q w0 z (f + 1) L a w := by
  intro f
  induction f with
  | zero =>
    intro L a w _ hc hr hz hb hy hw H
    refine ⟨(fun h => by rw [h] at hr; cases hr), fun j hj => ?_⟩
    by_cases e : j = i
    · subst e
      refine hy.wpOp hi hw ?_
      rw [if_neg (Ne.symm hz)]; exact ⟨hw, H⟩
    · have := ready_mono hj e
      rw [H.1] at this; cases this
  | succ f ih =>
    intro L a w hfree hc hr hz hb hy hw H
    refine ⟨(fun h => by rw [h] at hr; cases hr), fun j hj => ?_⟩
    by_cases e : j = i
    · subst e
      refine hy.wpOp hi hw ?_
      rw [if_neg (Ne.symm hz)]; exact ⟨hw, H⟩
    have ez : j ≠ z := by rintro rfl; exact not_ready hc hb (ready_unlisted hr) hj
    obtain ⟨h1, h2⟩ := take_step hi hsel hQ hfree hr hj e hy (H.2 j (ready_mono hj e))
    refine wpOp_mono (fun a' w' h3 => ?_) h1
    obtain ⟨h3, h4⟩ := h3
    rw [if_neg ez] at h4 ⊢
    refine ⟨h4.1, ih _ a' w' h2 (hc.add hj) (ready_mono hr (Ne.symm e)) hz hb h3 h4.1 ?_⟩
    rw [Array.setIfInBounds_comm _ _ e]; exact h4.2
end
/-- A plan: numbers, and of which kind each one is taken to be. -/
def wpPlan (P : Program) (ops : Array Oper) (Q : Exit → Act → World → Prop) : List (Nat × Nat) → Act → World → Prop
  | [], a, w => Q .normal a w
  | (i, k) :: r, a, w => match ops[i]? with
    | none => False
    | some o => (Region.wanted o (yielded ops a.tmps) = false ∧ wpPlan P ops Q r (a.put o.dst undef) w) ∨
      (Region.wanted o (yielded ops a.tmps) = true ∧ ((∃ v, (∀ w', (execOp a.eval o).run P w' = .ok (.value v) w') ∧ wpPlan P ops Q r (a.put o.dst v) w) ∨
        (1 ≤ k ∧ ∃ v, (execOp a.eval o).run P w = .ok (.value v) w ∧ wpPlan P ops Q r (a.put o.dst v) w) ∨ (2 ≤ k ∧ o.wp P a w (wpPlan P ops Q r) Q)))
/-- The next one of kind 2. -/
def nextE (n : Nat) : List (Nat × Nat) → Nat
  | [] => n
  | (i, k) :: r => if Nat.ble 2 k then i else nextE n r
def planOk (ops : Array Oper) : List (Nat × Nat) → Array Bool → Bool
  | [], L => (Region.ready .any ops L).isEmpty
  | (i, k) :: r, L => (if Nat.ble 2 k then Region.ready .any ops L == [i] else
      (Region.ready .any ops L).contains i && Region.free .any ops L i && nextE ops.size r != i && (Nat.beq k 0 || behind .any ops (nextE ops.size r) i)) && planOk ops r (L.setIfInBounds i true)
theorem plan_till (hs : Region.noSelect ops = true) (hQ : ∀ d v c a w, Q (.panic c) (a.put d v) w → Q (.panic c) a w) : ∀ (pl : List (Nat × Nat)) (L : Array Bool) (a : Act) (w : World), ShutL .any ops L → planOk ops pl L = true → wpPlan P ops Q pl a w →
    wpTill P .any ops Q w (nextE ops.size pl) pl.length L a w
  | [], L, a, w, hc, hp, h => ⟨by simpa [planOk] using hp, h⟩
  | (i, k) :: r, L, a, w, hc, hp, h => by
    simp only [planOk, Bool.and_eq_true] at hp
    obtain ⟨hp1, hp2⟩ := hp
    simp only [wpPlan] at h
    cases ho : ops[i]? with
    | none => simp only [ho] at h
    | some o =>
      simp only [ho] at h
      by_cases hk : Nat.ble 2 k = true
      · rw [if_pos hk] at hp1
        have hr : Region.ready .any ops L = [i] := by simpa using hp1
        have hn : nextE ops.size ((i, k) :: r) = i := by simp only [nextE, hk, if_true]
        rw [hn]
        refine ⟨(fun h0 => by rw [hr] at h0; cases h0), fun j hj => ?_⟩
        rw [hr] at hj
        simp only [List.mem_singleton] at hj
        subst hj
        have fin : ∀ a' w', wpPlan P ops Q r a' w' → wpAny P .any ops Q r.length (L.setIfInBounds j true) a' w' := fun a' w' h' => wpTill_any _ _ _ _ (plan_till hs hQ r _ a' w' (hc.add (by rw [hr]; simp)) hp2 h')
        unfold wpOp
        simp only [ho]
        rcases h with ⟨h1, h2⟩ | ⟨h1, h2⟩
        · rw [if_neg (by rw [h1]; simp)]
          simpa using fin _ _ h2
        · rw [if_pos h1]
          refine .inl ?_
          rcases h2 with ⟨v, h2, h3⟩ | ⟨_, v, h2, h3⟩ | ⟨_, h2⟩
          · unfold Oper.wp; rw [h2]; simp only [Oper.upon, if_true]; exact fin _ _ h3
          · unfold Oper.wp; rw [h2]; simp only [Oper.upon, if_true]; exact fin _ _ h3
          · have hm := fin
            unfold Oper.wp at h2 ⊢
            generalize (execOp a.eval o).run P w = res at *
            cases res with
            | ok n w' =>
              cases n <;> simp only [Oper.upon] at h2 ⊢
              case value u => simpa using hm _ _ h2
              case skip => simpa using hm _ _ h2
              case defer d => simpa using hm _ _ h2
              case enter f args =>
                refine Calls.mono h2 fun e w'' he => ?_
                cases e with
                | returned u => simpa using hm _ _ he
                | panicked c => exact he
                | outgrown => exact he
              case row row args => exact Rows.mono h2 fun u w'' he => by simpa using hm _ _ he
            | halt x w' =>
              cases x <;> simp only [Oper.upon] at h2 ⊢
              case panic u => exact h2
      · have hk' : Nat.ble 2 k = false := by rw [← Bool.not_eq_true]; exact hk
        rw [if_neg hk] at hp1
        simp only [Bool.and_eq_true, Bool.or_eq_true, List.contains_iff_mem, bne_iff_ne, ne_eq] at hp1
        obtain ⟨⟨⟨hr, hf⟩, hz⟩, hb⟩ := hp1
        have hn : nextE ops.size ((i, k) :: r) = nextE ops.size r := by simp only [nextE, hk', Bool.false_eq_true, if_false]
        rw [hn]
        have hfree := Region.free_spec ho hf
        have hsel := Region.noSelect_spec hs
        have hk2 : ¬ 2 ≤ k := fun hk2 => hk (Nat.ble_eq_true_of_le hk2)
        rcases h with ⟨h1, h2⟩ | ⟨h1, ⟨v, h2, h3⟩ | ⟨hk1, v, h2, h3⟩ | ⟨hk3, _⟩⟩
        · exact till_takeP ho hsel (hQ _ _) r.length L a w hfree hr hz (.inr ⟨h1, rfl⟩) rfl (plan_till hs hQ r _ _ w (hc.add hr) hp2 h2)
        · exact till_takeP ho hsel (hQ _ _) r.length L a w hfree hr hz (.inl ⟨h1, fun w' _ => h2 w'⟩) rfl (plan_till hs hQ r _ _ w (hc.add hr) hp2 h3)
        · have hb' : behind .any ops (nextE ops.size r) i = true := by
            rcases hb with hb | hb
            · have := Nat.eq_of_beq_eq_true hb; omega
            · exact hb
          exact till_takeR ho hsel (hQ _ _) r.length L a w hfree hc hr hz hb' (.inl ⟨h1, fun w' e => by rw [e]; exact h2⟩) rfl (plan_till hs hQ r _ _ w (hc.add hr) hp2 h3)
        · exact absurd hk3 hk2

variable {N : Nat} {D : List Deferred} {B : World} {env : Env} {hs : List MP}
theorem T.plan {id : Nat} (pl : List (Nat × Nat)) (hm : P.follows .mixedOrders = true) (hs' : Region.noSelect ops = true) (hp : planOk ops pl (Array.replicate ops.size false) = true) (hl : pl.length = ops.size)
    (hQ : ∀ d v c a w, Q (.panic c) (a.put d v) w → Q (.panic c) a w) (h : T N D B env hs (wpPlan P ops Q pl)) : T N D B env hs ((Code.region id ops true).wp P Q) := fun a w h1 h2 h3 h4 => by
  have := plan_till hs' hQ pl _ a _ (ShutL.start _) hp (h a w.drew h1 h2 h3 h4.drew)
  rw [hl] at this
  exact wp_region_any hm (wpTill_any _ _ _ _ this)
theorem T.planEnd (h : T N D B env hs (Q .normal)) : T N D B env hs (wpPlan P ops Q []) := h
theorem Cx.plan {i k : Nat} {r : List (Nat × Nat)} {o : Oper} (ho : ops[i]? = some o) : Cx P ops Q o (wpPlan P ops Q ((i, k) :: r)) (wpPlan P ops Q r) k where
  skip := fun a w hw h => by simp only [wpPlan, ho]; exact .inl ⟨hw, h⟩
  pure := fun a w v hw hr h => by simp only [wpPlan, ho]; exact .inr ⟨hw, .inl ⟨v, hr, h⟩⟩
  read := fun hk a w v hw hr h => by simp only [wpPlan, ho]; exact .inr ⟨hw, .inr (.inl ⟨hk, v, hr, h⟩)⟩
  eff := fun hk a w hw h => by simp only [wpPlan, ho]; exact .inr ⟨hw, .inr (.inr ⟨hk, h⟩)⟩
end
end Go.Proofs.YtpogdeibkghhaaaDoor
