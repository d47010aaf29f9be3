/- A statement that leaves its order open: some operations are taken first, the others come up one behind the other. -/
import Derived.Test.YtfdogeebkbaadaaRules3
import Derived.OrdersHeld
set_option linter.unusedVariables false
set_option linter.unusedSimpArgs false
namespace Go.Proofs.Ytfdogeebkbaadaa
open Go.RowKit
section
def nthO : List Oper → Nat → Option Oper
  | [], _ => none
  | o :: _, 0 => some o
  | _ :: l, n + 1 => nthO l n
theorem nthO_eq : ∀ (l : List Oper) (n : Nat), nthO l n = l[n]?
  | [], _ => rfl
  | o :: _, 0 => rfl
  | _ :: l, n + 1 => by simp only [nthO, nthO_eq l n, List.getElem?_cons_succ]
theorem nthO_ops {ops : Array Oper} {i : Nat} {o : Oper} (h : nthO ops.toList i = some o) : ops[i]? = some o := by rw [nthO_eq] at h; simpa using h
variable {P : Program} {ops : Array Oper} {Q : Exit → Act → World → Prop} {md : Region.Mode} {S : World → Prop}
theorem wpOp_of_list {i : Nat} {o : Oper} {K : Act → World → Prop} {a : Act} {w : World} (ho : ops[i]? = some o) (h : wpList P ops (Exit.then K Q) [o] a w) : wpOp P ops Q i K a w := by
  unfold wpOp
  simp only [ho]
  unfold wpList at h
  split
  · rename_i hw
    rw [if_pos hw] at h
    rcases h with h | ⟨h1, h2⟩
    · refine .inl ?_
      unfold Oper.wp at h ⊢
      have e : ∀ a w, wpList P ops (Exit.then K Q) [] a w = K a w := fun _ _ => rfl
      generalize (execOp a.eval o).run P w = r at *
      cases r with
      | ok n w' =>
        cases n <;> simp only [Oper.upon] at h ⊢ <;> first | exact h | exact h.elim | skip
        all_goals first
          | exact h
          | (refine Calls.mono h fun e w'' he => ?_; cases e <;> exact he)
          | (refine Rows.mono h fun v w'' he => ?_; exact he)
      | halt x w' => cases x <;> simp only [Oper.upon] at h ⊢ <;> exact h
    · exact .inr ⟨h1, h2⟩
  · rename_i hw
    rw [if_neg hw] at h
    exact h
/-- Whatever order: S holds behind each operation till number z has come up. -/
def wpTill (P : Program) (md : Region.Mode) (ops : Array Oper) (Q : Exit → Act → World → Prop) (S : World → Prop) (z : Nat) : Nat → Array Bool → Act → World → Prop
  | 0, L, a, w => Region.ready md ops L = [] ∧ Q .normal a w
  | f + 1, L, a, w => (Region.ready md ops L = [] → Q .normal a w) ∧
    ∀ i ∈ Region.ready md ops L, wpOp P ops Q i (fun a' w' => ((L.setIfInBounds i true).getD z false = true ∨ S w') ∧ wpTill P md ops Q S z f (L.setIfInBounds i true) a' w') a w
variable {z : Nat}
theorem wpTill_any : ∀ (f : Nat) (L : Array Bool) (a : Act) (w : World), wpTill P md ops Q S z f L a w → wpAny P md ops Q f L a w
  | 0, _, _, _, h => h
  | f + 1, _, _, _, h => ⟨h.1, fun i hi => wpOp_mono (fun a' w' h' => wpTill_any f _ a' w' h'.2) (h.2 i hi)⟩
theorem wpTill_start {id : Nat} {a : Act} {w : World} (hm : P.follows .mixedOrders = true) (h : wpTill P .any ops Q S z ops.size (Array.replicate ops.size false) a w.drew) : (Code.region id ops true).wp P Q a w :=
  wp_region_any hm (wpTill_any _ _ _ _ h)
theorem wpTill_done {L : Array Bool} {a : Act} {w : World} (hr : Region.ready md ops L = []) (h : Q .normal a w) : ∀ f, wpTill P md ops Q S z f L a w
  | 0 => ⟨hr, h⟩
  | _ + 1 => ⟨fun _ => h, by rw [hr]; simp⟩
theorem wpTill_one {i : Nat} {o : Oper} {f : Nat} {L : Array Bool} {a : Act} {w : World} (hr : Region.ready md ops L = [i]) (ho : nthO ops.toList i = some o)
    (h : wpList P ops (Exit.then (fun a' w' => ((L.setIfInBounds i true).getD z false = true ∨ S w') ∧ wpTill P md ops Q S z f (L.setIfInBounds i true) a' w') Q) [o] a w) : wpTill P md ops Q S z (f + 1) L a w :=
  ⟨(fun h0 => by rw [hr] at h0; cases h0), fun j hj => by
    rw [hr] at hj
    simp only [List.mem_singleton] at hj
    subst hj
    exact wpOp_of_list (nthO_ops ho) h⟩
/-- Number z stands behind number i. -/
def behind (md : Region.Mode) (ops : Array Oper) (z i : Nat) : Bool := match ops[z]? with
  | some o => o.after.any fun e => Region.binds md e && e.on == i
  | none => true
theorem not_ready {i : Nat} {L : Array Bool} (hb : behind md ops z i = true) (hL : L.getD i false = false) : z ∉ Region.ready md ops L := by
  intro h
  obtain ⟨_, o, ho, hall⟩ := mem_ready.1 h
  simp only [behind, ho] at hb
  obtain ⟨e, he, hx⟩ := Array.any_eq_true'.1 hb
  simp only [Bool.and_eq_true, beq_iff_eq] at hx
  have := hall e he hx.1
  rw [hx.2, hL] at this
  cases this
theorem wpTill_take' {i : Nat} {oi : Oper} {v : Value} (hi : ops[i]? = some oi) (hs : Region.noSelect ops = true) (hzi : z ≠ i) (hb : behind md ops z i = true)
    (hQ : ∀ c a w, Q (.panic c) (a.put oi.dst v) w → Q (.panic c) a w) :
    ∀ (f : Nat) (L : Array Bool) (a : Act) (w : World),
      (∀ j oj, ops[j]? = some oj → j ≠ i → L.getD j true = false → (∀ e ∈ oj.after, Region.binds md e = true → e.on ≠ i) → oi.apart ops oj = true) →
      i ∈ Region.ready md ops L → L.getD z false = false → YieldsIf P ops S oi v a → S w →
      wpTill P md ops Q S z f (L.setIfInBounds i true) (a.put oi.dst v) w → wpTill P md ops Q S z (f + 1) L a w := by
  have hsel := Region.noSelect_spec hs
  have unl : ∀ {L : Array Bool}, i ∈ Region.ready md ops L → L.getD i false = false := fun {L} hr => by
    have h0 := (mem_ready.1 hr).1
    rcases Nat.lt_or_ge i L.size with h' | h'
    · simp [h'] at h0 ⊢; exact h0
    · simp [Array.getElem?_eq_none h'] at h0
  intro f
  induction f with
  | zero =>
    intro L a w _ hr hz hy hS H
    refine ⟨(fun h => by rw [h] at hr; cases hr), fun j hj => ?_⟩
    by_cases e : j = i
    · subst e; exact hy.wpOp hi hS ⟨.inr hS, H⟩
    · have := ready_mono hj e
      rw [H.1] at this; cases this
  | succ f ih =>
    intro L a w hfree hr hz hy hS H
    refine ⟨(fun h => by rw [h] at hr; cases hr), fun j hj => ?_⟩
    by_cases e : j = i
    · subst e; exact hy.wpOp hi hS ⟨.inr hS, H⟩
    have hjz : z ≠ j := by rintro rfl; exact not_ready hb (unl hr) hj
    have h1 := H.2 j (ready_mono hj e)
    obtain ⟨hjun, oj, hoj, hall⟩ := mem_ready.1 hj
    have hno : ∀ x ∈ oj.after, Region.binds md x = true → x.on ≠ i := fun x hx hbx hq => by
      have := hall x hx hbx
      rw [hq, unl hr] at this; cases this
    refine wpOp_mono (fun a' w' h3 => ?_) (wpOp_putIf hoj (hfree j oj hoj e hjun hno) (fun cs b => hsel i oi cs b hi) (fun cs b => hsel j oj cs b hoj) hQ hy h1)
    have hz1 : (L.setIfInBounds j true).getD z false = false := by rw [getD_set_ne false (Ne.symm hjz)]; exact hz
    have hz2 : ((L.setIfInBounds i true).setIfInBounds j true).getD z false = false := by rw [getD_set_ne false (Ne.symm hjz), getD_set_ne false (Ne.symm hzi)]; exact hz
    have hS' : S w' := by
      rcases h3.2.1 with h | h
      · rw [hz2] at h; cases h
      · exact h
    refine ⟨.inr hS', ih _ a' w' (fun k ok hk hki hun hn => hfree k ok hk hki ?_ hn) (ready_mono hr (Ne.symm e)) hz1 h3.1 hS' ?_⟩
    · by_cases hjk : j = k
      · subst hjk; exact hjun
      · rw [getD_set_ne true hjk] at hun; exact hun
    · rw [Array.setIfInBounds_comm _ _ e]; exact h3.2.2
theorem wpTill_take {i : Nat} (d : Nat) {oi : Oper} {v : Value} {f : Nat} {L : Array Bool} {a : Act} {w : World} (hi : nthO ops.toList i = some oi) (hs : Region.noSelect ops = true) (hzi : (z != i) = true) (hb : behind md ops z i = true)
    (hf : Region.free md ops L i = true) (hr : (Region.ready md ops L).contains i = true) (hz : L.getD z false = false) (hQ : ∀ c a w, Q (.panic c) (a.put oi.dst v) w → Q (.panic c) a w)
    (hy : YieldsIf P ops S oi v a) (hS : S w) (hd : oi.dst = some d) (h : wpTill P md ops Q S z f (L.setIfInBounds i true) { a with tmps := a.tmps.setIfInBounds d v } w) : wpTill P md ops Q S z (f + 1) L a w :=
  wpTill_take' (nthO_ops hi) hs (by simpa using hzi) hb hQ f L a w (Region.free_spec (nthO_ops hi) hf) (by simpa using hr) hz hy hS (by rw [hd]; exact h)
theorem yi_move {o : Oper} {a : Act} {x : Operand} {v : Value} (ho : o.op = .move x) (hg : Region.wanted o (yielded ops a.tmps) = true) (hx : a.eval x = v) : YieldsIf P ops S o v a :=
  .inl ⟨hg, fun w _ => by simp [execOp, ho, hx]⟩
theorem yi_nil {o : Oper} {a : Act} {x : Operand} {p : Addr} (ho : o.op = .nilCheck x) (hg : Region.wanted o (yielded ops a.tmps) = true) (hx : a.eval x = .pointer (some p)) : YieldsIf P ops S o (.pointer (some p)) a :=
  .inl ⟨hg, fun w _ => by simp [execOp, ho, hx]⟩
theorem yi_field {o : Oper} {a : Act} {T : TypeId} {f off : Nat} {x : Operand} {b q : Nat} (ho : o.op = .fieldAddr T x f) (hg : Region.wanted o (yielded ops a.tmps) = true) (hx : a.eval x = .pointer (some ⟨b, q, none⟩)) [hf : FLD P T f off] :
    YieldsIf P ops S o (.pointer (some ⟨b, q + off, none⟩)) a :=
  .inl ⟨hg, fun w _ => by simp [execOp, ho, hx, hf.eq]⟩
theorem yi_load {o : Oper} {a : Act} {T : TypeId} {x : Operand} {size bytes b q : Nat} {zero v : Value} (ho : o.op = .load T x) (hg : Region.wanted o (yielded ops a.tmps) = true) (hx : a.eval x = .pointer (some ⟨b, q, none⟩)) [ht : TI P T size bytes false zero]
    (hS : ∀ w, S w → w.cell? ⟨b, q, none⟩ = some v) : YieldsIf P ops S o v a :=
  .inl ⟨hg, fun w hw => by simp [execOp, ho, hx, Instr.loadAt, Instr.sureAddr, loadVar, ht.isAgg, hS w hw]⟩
theorem yi_val {o : Oper} {a : Act} (v : Value) (hg : Region.wanted o (yielded ops a.tmps) = true) (h : ∀ w, S w → (execOp a.eval o).run P w = .ok (.value v) w) : YieldsIf P ops S o v a := .inl ⟨hg, h⟩
theorem yi_unw {o : Oper} {a : Act} (hg : Region.wanted o (yielded ops a.tmps) = false) : YieldsIf P ops S o undef a := .inr ⟨hg, rfl⟩
/-- May these be taken one behind the other? -/
def planOk (md : Region.Mode) (ops : Array Oper) (z : Nat) : List Nat → Array Bool → Bool
  | [], _ => true
  | i :: r, L => (z != i) && behind md ops z i && Region.free md ops L i && (Region.ready md ops L).contains i && !(L.getD z false) && planOk md ops z r (L.setIfInBounds i true)
def marked : List Nat → Array Bool → Array Bool
  | [], L => L
  | i :: r, L => marked r (L.setIfInBounds i true)
def chain (P : Program) (ops : Array Oper) (S : World → Prop) (K : Act → Prop) : List Nat → Act → Prop
  | [], a => K a
  | i :: r, a => ∃ oi v, nthO ops.toList i = some oi ∧ YieldsIf P ops S oi v a ∧ chain P ops S K r (a.put oi.dst v)
theorem wpTill_chain (hs : Region.noSelect ops = true) (hQ : ∀ d v c a w, Q (.panic c) (a.put d v) w → Q (.panic c) a w) : ∀ (is : List Nat) {f : Nat} {L : Array Bool} {a : Act} {w : World} (_ : planOk md ops z is L = true) (_ : S w)
    (_ : chain P ops S (fun a' => wpTill P md ops Q S z f (marked is L) a' w) is a), wpTill P md ops Q S z (f + is.length) L a w
  | [], f, L, a, w, _, _, h => h
  | i :: r, f, L, a, w, hp, hS, h => by
    simp only [planOk, Bool.and_eq_true] at hp
    obtain ⟨⟨⟨⟨⟨h1, h2⟩, h3⟩, h4⟩, h5⟩, h6⟩ := hp
    obtain ⟨oi, v, hi, hy, h⟩ := h
    refine wpTill_take' (f := f + r.length) (nthO_ops hi) hs (by simpa using h1) h2 (hQ _ _) L a w (Region.free_spec (nthO_ops hi) h3) (by simpa using h4) (by simpa using h5) hy hS ?_
    exact wpTill_chain hs hQ r h6 hS h
theorem wpTill_chainF (is : List Nat) {f f' : Nat} {L L' : Array Bool} {a : Act} {w : World} (hf : f = f' + is.length) (hp : planOk md ops z is L = true) (hs : Region.noSelect ops = true) (hL : marked is L = L')  (hQ : ∀ d v c a w, Q (.panic c) (a.put d v) w → Q (.panic c) a w) (hS : S w)
    (h : chain P ops S (fun a' => wpTill P md ops Q S z f' L' a' w) is a) : wpTill P md ops Q S z f L a w := by
  subst hf; subst hL
  exact wpTill_chain hs hQ is hp hS h
theorem chain_step {K : Act → Prop} {i : Nat} {r : List Nat} {oi : Oper} {v : Value} {d : Nat} {a : Act} (hi : nthO ops.toList i = some oi) (hy : YieldsIf P ops S oi v a) (hd : oi.dst = some d) (h : chain P ops S K r { a with tmps := a.tmps.setIfInBounds d v }) : chain P ops S K (i :: r) a :=
  ⟨oi, v, hi, hy, by rw [hd]; exact h⟩
theorem chain_end {K : Act → Prop} {a : Act} (h : K a) : chain P ops S K [] a := h
end
end Go.Proofs.Ytfdogeebkbaadaa
