/- A walk whose whole state stands in its goal: what the temporaries hold, and what is known of memory. -/
import Derived.Test.YtpogdeibkghhaaaDoorCore
import Derived.OrdersHeld
set_option linter.unusedVariables false
set_option linter.unusedSimpArgs false
namespace Go.Proofs.YtpogdeibkghhaaaDoor
open Go.RowKit

abbrev Env := List (Nat × Value)
def Env.get : Env → Nat → Option Value
  | [], _ => none
  | (j, v) :: r, i => match Nat.beq j i with | true => some v | false => Env.get r i
def Holds (env : Env) (a : Act) : Prop := ∀ i v, Env.get env i = some v → a.tmps[i]? = some v
def ev (env : Env) : Operand → Option Value
  | .tmp t => Env.get env t
  | .const v => some v
  | .global g => some (.pointer (some ⟨g, 0, none⟩))
  | .func f => some (.func (.func f) #[] #[])
theorem Holds.eval {env : Env} {a : Act} (h : Holds env a) {x : Operand} {v : Value} (hx : ev env x = some v) : a.eval x = v := by
  cases x with
  | tmp t => have := h t v hx; simp [Act.eval, this]
  | const u => simp only [ev, Option.some.injEq] at hx; subst hx; rfl
  | global g => simp only [ev, Option.some.injEq] at hx; subst hx; rfl
  | func f => simp only [ev, Option.some.injEq] at hx; subst hx; rfl
theorem Holds.put {env : Env} {a : Act} (h : Holds env a) {d : Nat} {v : Value} (hd : d < a.tmps.size) : Holds ((d, v) :: env) { a with tmps := a.tmps.setIfInBounds d v } := by
  intro i u hi
  simp only [Env.get] at hi
  simp only [Array.getElem?_setIfInBounds]
  by_cases e : d = i
  · subst e
    simp only [Nat.beq_refl, Option.some.injEq] at hi
    simp [hd, hi]
  · have : Nat.beq d i = false := by
      rw [← Bool.not_eq_true]; intro h'; exact e (Nat.eq_of_beq_eq_true h')
    rw [this] at hi
    simp only [e, if_false]
    exact h i u hi
def EnvLe (env : Env) : Env → Prop
  | [] => True
  | (i, v) :: r => Env.get env i = some v ∧ EnvLe env r
theorem EnvLe.get {env : Env} : ∀ {env' : Env}, EnvLe env env' → ∀ {i v}, Env.get env' i = some v → Env.get env i = some v
  | (j, u) :: r, ⟨h1, h2⟩, i, v, h => by
    simp only [Env.get] at h
    cases e : Nat.beq j i with
    | true => rw [e] at h; simp only [Option.some.injEq] at h; rw [← h, ← Nat.eq_of_beq_eq_true e]; exact h1
    | false => rw [e] at h; exact EnvLe.get h2 h
def numbered : Nat → List Value → Env
  | _, [] => []
  | i, v :: r => (i, v) :: numbered (i + 1) r
theorem numbered_get : ∀ (l : List Value) (k i : Nat) (v : Value), Env.get (numbered k l) i = some v → k ≤ i ∧ l[i - k]? = some v
  | u :: r, k, i, v, h => by
    simp only [numbered, Env.get] at h
    cases e : Nat.beq k i with
    | true =>
      have := Nat.eq_of_beq_eq_true e
      rw [e] at h; simp only [Option.some.injEq] at h; subst h; subst this; simp
    | false =>
      rw [e] at h
      obtain ⟨h1, h2⟩ := numbered_get r (k + 1) i v h
      refine ⟨by omega, ?_⟩
      rw [show i - k = (i - (k + 1)) + 1 by omega]
      simpa using h2

/-- In each frame and each world of which this is known, K. -/
def T (N : Nat) (D : List Deferred) (B : World) (env : Env) (hs : List MP) (K : Act → World → Prop) : Prop :=
  ∀ a w, a.tmps.size = N → a.defers = D → Holds env a → St B hs w → K a w

section
variable {P : Program} {N : Nat} {D : List Deferred} {B : World} {env env' : Env} {hs hs' : List MP} {Q : Exit → Act → World → Prop} {K K' : Act → World → Prop}

theorem T.mono (h : T N D B env hs K) (hk : ∀ a w, K a w → K' a w) : T N D B env hs K' := fun a w h1 h2 h3 h4 => hk a w (h a w h1 h2 h3 h4)
theorem T.seq {x y : Code} (h : T N D B env hs (x.wp P (Exit.then (y.wp P Q) Q))) : T N D B env hs ((Code.seq x y).wp P Q) := fun a w h1 h2 h3 h4 => wp_seq (h a w h1 h2 h3 h4)
theorem T.skip (h : T N D B env hs (Q .normal)) : T N D B env hs (Code.skip.wp P Q) := fun a w h1 h2 h3 h4 => wp_skip (h a w h1 h2 h3 h4)
theorem T.label {l : Nat} (h : T N D B env hs (Q .normal)) : T N D B env hs ((Code.label l).wp P Q) := fun a w h1 h2 h3 h4 => wp_label (h a w h1 h2 h3 h4)
theorem T.exit {id : Nat} (h : T N D B env hs (Q (.exit id))) : T N D B env hs ((Code.exit id).wp P Q) := fun a w h1 h2 h3 h4 => wp_exit (h a w h1 h2 h3 h4)
theorem T.ret (h : T N D B env hs (Q .ret)) : T N D B env hs (Code.ret.wp P Q) := fun a w h1 h2 h3 h4 => wp_ret (h a w h1 h2 h3 h4)
theorem T.block {id : Nat} {c : Code} (h : T N D B env hs (c.wp P (Exit.inBlock id Q))) : T N D B env hs ((Code.block id c).wp P Q) := fun a w h1 h2 h3 h4 => wp_block (h a w h1 h2 h3 h4)
theorem T.cond {c : Operand} {x y : Code} {b : Bool} (hc : ev env c = some (.bool b)) (ht : b = true → T N D B env hs (x.wp P Q)) (hf : b = false → T N D B env hs (y.wp P Q)) : T N D B env hs ((Code.cond c x y).wp P Q) :=
  fun a w h1 h2 h3 h4 => wp_cond_split (h3.eval hc) (fun e => ht e a w h1 h2 h3 h4) (fun e => hf e a w h1 h2 h3 h4)
theorem T.condT {c : Operand} {x y : Code} {b : Bool} (hc : ev env c = some (.bool b)) (hb : b = true) (h : T N D B env hs (x.wp P Q)) : T N D B env hs ((Code.cond c x y).wp P Q) := T.cond hc (fun _ => h) (fun e => by rw [hb] at e; cases e)
theorem T.condF {c : Operand} {x y : Code} {b : Bool} (hc : ev env c = some (.bool b)) (hb : b = false) (h : T N D B env hs (y.wp P Q)) : T N D B env hs ((Code.cond c x y).wp P Q) := T.cond hc (fun e => by rw [hb] at e; cases e) (fun _ => h)
/-! ### Ends -/
theorem T.then_normal {n : Act → World → Prop} (h : T N D B env hs n) : T N D B env hs (Exit.then n Q .normal) := h
theorem T.then_exit {n : Act → World → Prop} {id : Nat} (h : T N D B env hs (Q (.exit id))) : T N D B env hs (Exit.then n Q (.exit id)) := h
theorem T.then_ret {n : Act → World → Prop} (h : T N D B env hs (Q .ret)) : T N D B env hs (Exit.then n Q .ret) := h
theorem T.in_normal {id : Nat} (h : T N D B env hs (Q .normal)) : T N D B env hs (Exit.inBlock id Q .normal) := h
theorem T.in_ret {id : Nat} (h : T N D B env hs (Q .ret)) : T N D B env hs (Exit.inBlock id Q .ret) := h
theorem T.in_hit {id : Nat} (h : T N D B env hs (Q .normal)) : T N D B env hs (Exit.inBlock id Q (.exit id)) := fun a w h1 h2 h3 h4 => by
  have := h a w h1 h2 h3 h4
  simpa [Exit.inBlock] using this
theorem T.in_miss {id id' : Nat} (hn : Nat.beq id' id = false) (h : T N D B env hs (Q (.exit id'))) : T N D B env hs (Exit.inBlock id Q (.exit id')) := fun a w h1 h2 h3 h4 => by
  have := h a w h1 h2 h3 h4
  have hn : id' ≠ id := by intro e; subst e; simp at hn
  simpa [Exit.inBlock, hn] using this

/-! ### Less is known -/
theorem T.le (he : EnvLe env env') (h : T N D B env' hs K) : T N D B env hs K := fun a w h1 h2 h3 h4 => h a w h1 h2 (fun i v hi => h3 i v (he.get hi)) h4
theorem T.pick (is : List Nat) (n : Nat) {tl : List MP} (hk : okIdx is n = true) (ht : hs.drop n = tl) (hl : n ≤ hs.length) (e : (is.map fun i => hs.getD i MP.emp) ++ tl = hs') (h : T N D B env hs' K) : T N D B env hs K :=
  fun a w h1 h2 h3 h4 => h a w h1 h2 h3 (h4.pick is n hk ht hl e)
theorem T.st (hm : ∀ w, St B hs w → St B hs' w) (h : T N D B env hs' K) : T N D B env hs K := fun a w h1 h2 h3 h4 => h a w h1 h2 h3 (hm w h4)
theorem T.fact {p : Prop} (hm : ∀ w, St B hs w → p) (h : p → T N D B env hs K) : T N D B env hs K := fun a w h1 h2 h3 h4 => h (hm w h4) a w h1 h2 h3 h4

/-! ### Into a function, out of it -/
theorem calls_T {f : FuncId} {fn : Func} {c : Code} {args : Array Value} {w : World} {R : Ending → World → Prop} (hf : P.funcs[f]? = some fn) (hb : fn.body = some c) (hN : fn.ntmps = N) (hle : Nat.ble args.size N = true)
    (hS : St B hs w) (h : T N [] B (numbered 0 args.toList) hs (c.wp P (bodyPost P fn R))) : Calls P f args w R := by
  refine calls_of_wp hf hb (h _ w ?_ rfl ?_ hS)
  · simp only [Array.size_append, Array.size_replicate, hN]
    have := Nat.le_of_ble_eq_true hle
    omega
  · intro i v hi
    obtain ⟨_, h2⟩ := numbered_get _ _ _ _ hi
    simp only [Nat.sub_zero] at h2
    have hlt : i < args.size := by
      have := (List.getElem?_eq_some_iff.1 h2).1
      simpa using this
    show (args ++ _)[i]? = some v
    rw [Array.getElem?_append_left hlt]
    simpa using h2
theorem T.ret1 {fn : Func} {R : Ending → World → Prop} {t : Nat} {v : Value} (hr : fn.results = #[.tmp t]) (hv : Env.get env t = some v) (h : ∀ w, St B hs w → R (.returned v) w) : T N [] B env hs (bodyPost P fn R .ret) :=
  fun a w h1 h2 h3 h4 => bodyPost_ret (v := v) (by rw [results_tmp hr]; simp [h3 t v hv]) h2 (h w h4)
theorem T.ret2 {fn : Func} {R : Ending → World → Prop} {t u : Nat} {v x : Value} (hr : fn.results = #[.tmp t, .tmp u]) (hv : Env.get env t = some v) (hx : Env.get env u = some x) (h : ∀ w, St B hs w → R (.returned (.tuple #[v, x])) w) : T N [] B env hs (bodyPost P fn R .ret) :=
  fun a w h1 h2 h3 h4 => bodyPost_ret (v := .tuple #[v, x]) (by rw [results_tmp2 hr]; simp [h3 t v hv, h3 u x hx]) h2 (h w h4)
theorem results_tmp3 {fn : Func} {t u s : Tmp} (h : fn.results = #[.tmp t, .tmp u, .tmp s]) (tmps : Array Value) (P : Program) (w : World) :
    (results fn tmps).run P w = .ok (.tuple #[tmps.getD t undef, tmps.getD u undef, tmps.getD s undef]) w := by
  simp [results, h]
theorem T.ret3 {fn : Func} {R : Ending → World → Prop} {t u s : Nat} {v x y : Value} (hr : fn.results = #[.tmp t, .tmp u, .tmp s]) (hv : Env.get env t = some v) (hx : Env.get env u = some x) (hy : Env.get env s = some y) (h : ∀ w, St B hs w → R (.returned (.tuple #[v, x, y])) w) : T N [] B env hs (bodyPost P fn R .ret) :=
  fun a w h1 h2 h3 h4 => bodyPost_ret (v := .tuple #[v, x, y]) (by rw [results_tmp3 hr]; simp [h3 t v hv, h3 u x hx, h3 s y hy]) h2 (h w h4)

/-! ### Loops -/
/-- A loop's rounds, till the last one tells. -/
inductive Loop {σ ρ : Type} (step : σ → Option (σ ⊕ ρ)) : σ → ρ → Prop
  | last {s : σ} {r : ρ} (h : step s = some (.inr r)) : Loop step s r
  | more {s s' : σ} {r : ρ} (h : step s = some (.inl s')) (k : Loop step s' r) : Loop step s r
theorem Loop.det {σ ρ : Type} {step : σ → Option (σ ⊕ ρ)} {s : σ} {r r' : ρ} (h : Loop step s r) (h' : Loop step s r') : r = r' := by
  induction h with
  | last h =>
    cases h' with
    | last g => rw [h] at g; cases g; rfl
    | more g _ => rw [h] at g; cases g
  | more h _ ih =>
    cases h' with
    | last g => rw [h] at g; cases g
    | more g k => rw [h] at g; cases g; exact ih k
open Classical in
noncomputable def loop {σ ρ : Type} (step : σ → Option (σ ⊕ ρ)) (s : σ) : Option ρ := if h : ∃ r, Loop step s r then some (Classical.choose h) else none
theorem loop_some {σ ρ : Type} {step : σ → Option (σ ⊕ ρ)} {s : σ} {r : ρ} : loop step s = some r ↔ Loop step s r := by
  unfold loop
  constructor
  · intro h
    split at h
    · rename_i hx; cases h; exact Classical.choose_spec hx
    · cases h
  · intro h
    have hx : ∃ r, Loop step s r := ⟨r, h⟩
    rw [dif_pos hx, (Classical.choose_spec hx).det h]
theorem loop_last {σ ρ : Type} {step : σ → Option (σ ⊕ ρ)} {s : σ} {r : ρ} (h : step s = some (.inr r)) : loop step s = some r := loop_some.2 (.last h)
theorem loop_more {σ ρ : Type} {step : σ → Option (σ ⊕ ρ)} {s s' : σ} (h : step s = some (.inl s')) : loop step s = loop step s' := by
  cases e : loop step s' with
  | some r => exact loop_some.2 (.more h (loop_some.1 e))
  | none =>
    cases e' : loop step s with
    | none => rfl
    | some r =>
      have := loop_some.1 e'
      cases this with
      | last g => rw [h] at g; cases g
      | more g k => rw [h] at g; cases g; rw [loop_some.2 k] at e; cases e

def inLoop (P : Program) (c : Code) (Q : Exit → Act → World → Prop) (a : Act) (w : World) : Prop :=
  ∀ (b : Frame) (k : List Item) (cs : List Frame), ∃ e a' w', Q e a' w' ∧ Arrives P (lone (b.at a (.inLoop c :: k)) cs w) b k cs e a' w'
theorem inLoop_round {c : Code} {a : Act} {w : World} (h : c.wp P (Exit.then (inLoop P c Q) Q) a w) : inLoop P c Q a w ∧ (Code.loop c).wp P Q a w := by
  have key : ∀ (b : Frame) (k : List Item) (cs : List Frame), ∃ e a' w', Q e a' w' ∧ Arrives P (lone (b.at a (.code c :: .inLoop c :: k)) cs w) b k cs e a' w' := by
    intro b k cs
    obtain ⟨e, a₁, w₁, hq, harr⟩ := h b (.inLoop c :: k) cs
    cases e with
    | normal =>
      obtain ⟨e₂, a₂, w₂, hq₂, harr₂⟩ := hq b k cs
      exact ⟨e₂, a₂, w₂, hq₂, .of_steps harr harr₂⟩
    | exit id => exact ⟨_, a₁, w₁, hq, .pass (x := .inLoop c) rfl (fun _ _ => .inl (by simp)) harr⟩
    | goto l => exact ⟨_, a₁, w₁, hq, .pass (x := .inLoop c) rfl (fun _ _ => .inl (by simp)) harr⟩
    | ret => exact ⟨_, a₁, w₁, hq, .pass (x := .inLoop c) rfl (fun _ _ => .inl (by simp)) harr⟩
    | panic ch => exact ⟨_, a₁, w₁, hq, .pass (x := .inLoop c) rfl (fun _ _ => .inl (by simp)) harr⟩
    | outgrown => exact ⟨_, a₁, w₁, hq, .pass (x := .inLoop c) rfl (fun _ _ => .inl (by simp)) harr⟩
  exact ⟨fun b k cs => let ⟨e, a', w', q, r⟩ := key b k cs; ⟨e, a', w', q, .of_steps (.one step_inLoop) r⟩,
    fun b k cs => let ⟨e, a', w', q, r⟩ := key b k cs; ⟨e, a', w', q, .of_steps (.one step_loop) r⟩⟩
/-- A loop that does as a step does, round by round. -/
theorem T.loop {σ ρ X : Type} {step : σ → Option (σ ⊕ ρ)} {s0 : σ} {r : ρ} (env : σ → X → Env) (hs : σ → X → List MP) {c : Code} (hl : loop step s0 = some r) (x0 : X)
    (round : ∀ (K : Act → World → Prop) (s : σ) (x : X) (o : σ ⊕ ρ), step s = some o → (∀ s', o = .inl s' → ∀ x', T N D B (env s' x') (hs s' x') K) → (∀ r', o = .inr r' → r' = r) → T N D B (env s x) (hs s x) (c.wp P (Exit.then K Q))) :
    T N D B (env s0 x0) (hs s0 x0) ((Code.loop c).wp P Q) := by
  have key : ∀ s r', Loop step s r' → r' = r → ∀ x, T N D B (env s x) (hs s x) (fun a w => inLoop P c Q a w ∧ (Code.loop c).wp P Q a w) := by
    intro s r' h
    induction h with
    | last h => intro e x a w h1 h2 h3 h4; exact inLoop_round (round _ _ x _ h (fun _ e => by cases e) (fun r'' e' => by cases e'; exact e) a w h1 h2 h3 h4)
    | more h _ ih => intro e x a w h1 h2 h3 h4; exact inLoop_round (round _ _ x _ h (fun s'' e' x' => by cases e'; exact (ih e x').mono fun _ _ h => h.1) (fun _ e => by cases e) a w h1 h2 h3 h4)
  exact (key s0 r (loop_some.1 hl) rfl x0).mono fun _ _ h => h.2

/-! ### Operations -/
variable {ops : Array Oper} {rest : List Oper} {o : Oper} {d : Nat} {v : Value} {Kn Kr : Act → World → Prop} {kd : Nat}
theorem T.region {id : Nat} {l : List Oper} (h : T N D B env hs (wpList P l.toArray Q l)) : T N D B env hs ((Code.region id l.toArray false).wp P Q) := fun a w h1 h2 h3 h4 => wp_region_lit (h a w h1 h2 h3 h4)
theorem T.nil (h : T N D B env hs (Q .normal)) : T N D B env hs (wpList P ops Q []) := fun a w h1 h2 h3 h4 => wpList_nil (h a w h1 h2 h3 h4)
def wants (ops : Array Oper) (env : Env) (o : Oper) (b : Bool) : Prop := match o.guard with
  | none => b = true
  | some (j, want) => ∃ d y, (ops[j]?).bind (·.dst) = some d ∧ Env.get env d = some y ∧ b = (match y with | .bool y => y == want | _ => false)
theorem wants.spec {b : Bool} (h : wants ops env o b) {a : Act} (h3 : Holds env a) : Region.wanted o (yielded ops a.tmps) = b := by
  unfold wants at h
  unfold Region.wanted
  cases hg : o.guard with
  | none => rw [hg] at h; exact h.symm
  | some g =>
    obtain ⟨j, want⟩ := g
    rw [hg] at h
    obtain ⟨d, y, h1, h2, rfl⟩ := h
    have e : yielded ops a.tmps j = (match y with | .bool y => some y | _ => none) := by
      unfold yielded
      rw [h1]
      simp only [Option.bind_some, h3 d _ h2]
      cases y <;> rfl
    simp only [e]
    cases y <;> first | rfl | (rename_i y; cases y <;> cases want <;> rfl)
def ptE (o : Oper) (v : Value) (env : Env) : Env := match o.dst with | some d => (d, v) :: env | none => env
def fits (N : Nat) (o : Oper) : Bool := match o.dst with | some d => Nat.blt d N | none => true
theorem Holds.putO {a : Act} (h : Holds env a) (hN : a.tmps.size = N) (hf : fits N o = true) (v : Value) : Holds (ptE o v env) (a.put o.dst v) ∧ (a.put o.dst v).tmps.size = N ∧ (a.put o.dst v).defers = a.defers := by
  unfold ptE Act.put
  unfold fits at hf
  cases hd : o.dst with
  | none => exact ⟨h, hN, rfl⟩
  | some d =>
    rw [hd] at hf
    have : d < N := Nat.lt_of_succ_le (by simpa [Nat.blt] using hf)
    exact ⟨h.put (by rw [hN]; exact this), by simpa using hN, rfl⟩
/-- Where an operation stands: Kn is what is to be shown ahead of it, Kr behind it. Of kind 0 it must yield whatever the world is; of kind 1 it must leave the world as it is; of kind 2 all is let. -/
structure Cx (P : Program) (ops : Array Oper) (Q : Exit → Act → World → Prop) (o : Oper) (Kn Kr : Act → World → Prop) (kd : Nat) : Prop where
  skip : ∀ a w, Region.wanted o (yielded ops a.tmps) = false → Kr (a.put o.dst undef) w → Kn a w
  pure : ∀ a w v, Region.wanted o (yielded ops a.tmps) = true → (∀ w', (execOp a.eval o).run P w' = .ok (.value v) w') → Kr (a.put o.dst v) w → Kn a w
  read : 1 ≤ kd → ∀ a w v, Region.wanted o (yielded ops a.tmps) = true → (execOp a.eval o).run P w = .ok (.value v) w → Kr (a.put o.dst v) w → Kn a w
  eff : 2 ≤ kd → ∀ a w, Region.wanted o (yielded ops a.tmps) = true → o.wp P a w Kr Q → Kn a w
theorem Cx.list : Cx P ops Q o (wpList P ops Q (o :: rest)) (wpList P ops Q rest) 2 where
  skip := fun a w hw h => by unfold wpList; rw [if_neg (by rw [hw]; simp)]; exact h
  pure := fun a w v hw hr h => by unfold wpList; rw [if_pos hw]; refine .inl ?_; unfold Oper.wp; rw [hr]; exact h
  read := fun _ a w v hw hr h => by unfold wpList; rw [if_pos hw]; refine .inl ?_; unfold Oper.wp; rw [hr]; exact h
  eff := fun _ a w hw h => by unfold wpList; rw [if_pos hw]; exact .inl h
/-- An operation that yields a value, whatever the world is. -/
theorem T.valP (cx : Cx P ops Q o Kn Kr kd) (v : Value) (hw : wants ops env o true) (hf : fits N o = true) (hrun : ∀ a w, Holds env a → (execOp a.eval o).run P w = .ok (.value v) w)
    (h : T N D B (ptE o v env) hs Kr) : T N D B env hs Kn := by
  intro a w h1 h2 h3 h4
  obtain ⟨g1, g2, g3⟩ := h3.putO h1 hf v
  exact cx.pure a w v (hw.spec h3) (fun w' => hrun a w' h3) (h _ w g2 (g3.trans h2) g1 h4)
/-- The same, out of what is known of memory. -/
theorem T.valQ (cx : Cx P ops Q o Kn Kr kd) (v : Value) {hs' : List MP} (hw : wants ops env o true) (hf : fits N o = true) (hrun : ∀ a w, Holds env a → St B hs w → (∀ w', (execOp a.eval o).run P w' = .ok (.value v) w') ∧ St B hs' w)
    (h : T N D B (ptE o v env) hs' Kr) : T N D B env hs Kn := by
  intro a w h1 h2 h3 h4
  obtain ⟨g1, g2, g3⟩ := h3.putO h1 hf v
  obtain ⟨r1, r2⟩ := hrun a w h3 h4
  exact cx.pure a w v (hw.spec h3) r1 (h _ w g2 (g3.trans h2) g1 r2)
/-- An operation that only reads. -/
theorem T.valR (cx : Cx P ops Q o Kn Kr (kd + 1)) {X : Type} {v : X → Value} {hs' : X → List MP} (hw : wants ops env o true) (hf : fits N o = true) (hrun : ∀ a w, Holds env a → St B hs w → ∃ x, (execOp a.eval o).run P w = .ok (.value (v x)) w ∧ St B (hs' x) w)
    (h : ∀ x, T N D B (ptE o (v x) env) (hs' x) Kr) : T N D B env hs Kn := by
  intro a w h1 h2 h3 h4
  obtain ⟨x, hr, hS⟩ := hrun a w h3 h4
  obtain ⟨g1, g2, g3⟩ := h3.putO h1 hf (v x)
  exact cx.read (by omega) a w _ (hw.spec h3) hr (h x _ w g2 (g3.trans h2) g1 hS)
theorem T.val (cx : Cx P ops Q o Kn Kr (kd + 1)) (v : Value) (hw : wants ops env o true) (hf : fits N o = true) (hrun : ∀ a w, Holds env a → St B hs w → (execOp a.eval o).run P w = .ok (.value v) w)
    (h : T N D B (ptE o v env) hs Kr) : T N D B env hs Kn :=
  T.valR cx (X := Unit) (v := fun _ => v) (hs' := fun _ => hs) hw hf (fun a w h3 h4 => ⟨(), hrun a w h3 h4, h4⟩) (fun _ => h)
/-- An operation that yields a value, and may turn the world. -/
theorem T.valW (cx : Cx P ops Q o Kn Kr (kd + 2)) {X : Type} {v : X → Value} {hs' : X → List MP} (hw : wants ops env o true) (hf : fits N o = true) (hrun : ∀ a w, Holds env a → St B hs w → ∃ x w', (execOp a.eval o).run P w = .ok (.value (v x)) w' ∧ St B (hs' x) w')
    (h : ∀ x, T N D B (ptE o (v x) env) (hs' x) Kr) : T N D B env hs Kn := by
  intro a w h1 h2 h3 h4
  obtain ⟨x, w', hr, hS⟩ := hrun a w h3 h4
  obtain ⟨g1, g2, g3⟩ := h3.putO h1 hf (v x)
  refine cx.eff (by omega) a w (hw.spec h3) ?_
  unfold Oper.wp
  rw [hr]
  exact h x _ w' g2 (g3.trans h2) g1 hS
theorem T.stepW (cx : Cx P ops Q o Kn Kr (kd + 2)) (hw : wants ops env o true) (hf : fits N o = true) (hrun : ∀ a w, Holds env a → St B hs w → ∃ w', (execOp a.eval o).run P w = .ok .skip w' ∧ St B hs' w')
    (h : T N D B (ptE o undef env) hs' Kr) : T N D B env hs Kn := by
  intro a w h1 h2 h3 h4
  obtain ⟨w', hr, hS⟩ := hrun a w h3 h4
  obtain ⟨g1, g2, g3⟩ := h3.putO h1 hf undef
  refine cx.eff (by omega) a w (hw.spec h3) ?_
  unfold Oper.wp
  rw [hr]
  exact h _ w' g2 (g3.trans h2) g1 hS
/-- One that its guard leaves out. -/
theorem T.leave (cx : Cx P ops Q o Kn Kr kd) (hw : wants ops env o false) (hf : fits N o = true) (h : T N D B (ptE o undef env) hs Kr) : T N D B env hs Kn := by
  intro a w h1 h2 h3 h4
  obtain ⟨g1, g2, g3⟩ := h3.putO h1 hf undef
  exact cx.skip a w (hw.spec h3) (h _ w g2 (g3.trans h2) g1 h4)
/-- A call that is known by its contract. -/
theorem T.call (cx : Cx P ops Q o Kn Kr (kd + 2)) {X : Type} {f : FuncId} {args : Array Value} {v : X → Value} {hs' : X → List MP} (hw : wants ops env o true) (hf : fits N o = true) (hrun : ∀ a w, Holds env a → (execOp a.eval o).run P w = .ok (.enter f args) w)
    (hc : ∀ w, St B hs w → Calls P f args w fun e w' => ∃ x, e = .returned (v x) ∧ St B (hs' x) w')
    (h : ∀ x, T N D B (ptE o (v x) env) (hs' x) Kr) : T N D B env hs Kn := by
  intro a w h1 h2 h3 h4
  refine cx.eff (by omega) a w (hw.spec h3) ?_
  unfold Oper.wp
  rw [hrun a w h3]
  refine (hc w h4).mono ?_
  rintro e w' ⟨x, rfl, hS⟩
  obtain ⟨g1, g2, g3⟩ := h3.putO h1 hf (v x)
  exact h x _ w' g2 (g3.trans h2) g1 hS
/-- A function of the program is called by its number. -/
theorem run_callF {f : FuncId} {fn : Func} {xs : List Operand} {ats : Array TypeId} {vs : List Value} (ho : o.op = .call { callee := .value (.func f), args := xs.toArray, argTypes := ats }) (hf : P.funcs[f]? = some fn) (hb : fn.body.isSome = true) (hn : (fn.name == "runtime.NumGoroutine") = false)
    (hx : xs.map (ev env) = vs.map some) : ∀ a w, Holds env a → (execOp a.eval o).run P w = .ok (.enter f vs.toArray) w := by
  intro a w h3
  have key : ∀ (l : List Operand) (m : List Value), l.map (ev env) = m.map some → l.map a.eval = m := by
    intro l
    induction l with
    | nil => intro m hm; cases m <;> simp_all
    | cons x l ih =>
      intro m hm
      cases m with
      | nil => simp at hm
      | cons z m =>
        simp only [List.map_cons, List.cons.injEq] at hm
        simp only [List.map_cons, h3.eval hm.1, ih m hm.2]
  have hn' : ¬ fn.name = "runtime.NumGoroutine" := by simpa using hn
  have hb' : ¬ fn.body = none := by intro h; simp [h] at hb
  have e1 : a.eval (.func f) = .func (.func f) #[] #[] := rfl
  simp [execOp, ho, resolve, Deferred.ofValue, invoke, callFunc, e1, key xs vs hx, hf, hn', hb']
end
end Go.Proofs.YtpogdeibkghhaaaDoor
