/- A statement that leaves its order open: what holds of memory till a number comes up; several that may come up next. -/
import Derived.Test.YtpogdeibkghhaaaDoorDraw
import Derived.Test.YtpogdeibkghhaaaDoorMem2
set_option linter.unusedVariables false
set_option linter.unusedSimpArgs false
namespace Go.Proofs.YtpogdeibkghhaaaDoor
open Go.RowKit
section
variable {P : Program} {ops : Array Oper} {Q : Exit → Act → World → Prop}
abbrev Phi := List (Nat × (World → Prop))
/-- Each thing holds, or the number that ends it has come up. -/
def PhiOk (F : Phi) (L : Array Bool) (w : World) : Prop := ∀ p ∈ F, L.getD p.1 false = true ∨ p.2 w
def wpD (P : Program) (ops : Array Oper) (Q : Exit → Act → World → Prop) (F : Phi) : Nat → Array Bool → Act → World → Prop
  | 0, L, a, w => Region.ready .any ops L = [] ∧ Q .normal a w
  | f + 1, L, a, w => (Region.ready .any ops L = [] → Q .normal a w) ∧
    ∀ i ∈ Region.ready .any ops L, wpOp P ops Q i (fun a' w' => PhiOk F (L.setIfInBounds i true) w' ∧ wpD P ops Q F f (L.setIfInBounds i true) a' w') a w
theorem wpD_any {F : Phi} : ∀ (f : Nat) (L : Array Bool) (a : Act) (w : World), wpD P ops Q F f L a w → wpAny P .any ops Q f L a w
  | 0, _, _, _, h => h
  | f + 1, _, _, _, h => ⟨h.1, fun i hi => wpOp_mono (fun a' w' h' => wpD_any f _ a' w' h'.2) (h.2 i hi)⟩
theorem wpD_sub {F : Phi} {p : Nat × (World → Prop)} : ∀ (f : Nat) (L : Array Bool) (a : Act) (w : World), wpD P ops Q (p :: F) f L a w → wpD P ops Q F f L a w
  | 0, _, _, _, h => h
  | f + 1, _, _, _, h => ⟨h.1, fun i hi => wpOp_mono (fun a' w' h' => ⟨fun q hq => h'.1 q (List.mem_cons_of_mem _ hq), wpD_sub f _ a' w' h'.2⟩) (h.2 i hi)⟩
/-- Good marks. -/
structure OkL (ops : Array Oper) (L : Array Bool) : Prop where
  shut : ShutL .any ops L
  size : L.size = ops.size
theorem OkL.start : OkL ops (Array.replicate ops.size false) := ⟨ShutL.start _, by simp⟩
theorem OkL.add {L : Array Bool} (h : OkL ops L) {i : Nat} (hi : i ∈ Region.ready .any ops L) : OkL ops (L.setIfInBounds i true) := ⟨h.shut.add hi, by simpa using h.size⟩
theorem OkL.unlisted {L : Array Bool} (h : OkL ops L) {z i : Nat} (hb : behind .any ops z i = true) (hi : L.getD i false = false) : L.getD z false = false := by
  simp only [behind, Bool.or_eq_true] at hb
  rcases hb with hb | hb
  · have := Nat.le_of_ble_eq_true hb
    rw [Array.getD_eq_getD_getElem?, Array.getElem?_eq_none (by rw [h.size]; exact this)]; rfl
  · cases hz : L.getD z false with
    | false => rfl
    | true =>
      obtain ⟨o, h1, _⟩ := befs_spec (md := .any) ops.toList [] [] rfl (fun z i hz => by simp at hz) z i hb
      simp only [List.nil_append, Array.getElem?_toList] at h1
      have := waits_listed h.shut z o h1 (fun e he hb' => h.shut z o h1 hz e he hb') hb
      rw [hi] at this; cases this
theorem PhiOk.add {F : Phi} {L : Array Bool} {w : World} {i : Nat} (h : PhiOk F L w) : PhiOk F (L.setIfInBounds i true) w := fun p hp => (h p hp).imp getD_set_true id
theorem PhiOk.less {F : Phi} {L : Array Bool} {w : World} {i : Nat} (h : PhiOk F (L.setIfInBounds i true) w) (hn : (F.map (·.1)).contains i = false) : PhiOk F L w := fun p hp => by
  refine (h p hp).imp (fun h1 => ?_) id
  have hne : i ≠ p.1 := by
    rintro rfl
    have : (F.map (·.1)).contains p.1 = true := by simp only [List.contains_iff_mem, List.mem_map]; exact ⟨p, hp, rfl⟩
    rw [this] at hn; cases hn
  rwa [getD_set_ne false hne] at h1
theorem d_take {F : Phi} {S : World → Prop} {i : Nat} {oi : Oper} {v : Value} (hi : ops[i]? = some oi) (hsel : ∀ (j : Nat) (o : Oper) cs b, ops[j]? = some o → o.op ≠ .select cs b)
    (hQ : ∀ c a w, Q (.panic c) (a.put oi.dst v) w → Q (.panic c) a w) (hn : (F.map (·.1)).contains i = false)
    (hS : ∀ L w, OkL ops L → L.getD i false = false → PhiOk F L w → S w) :
    ∀ (f : Nat) (L : Array Bool) (a : Act) (w : World),
      (∀ j oj, ops[j]? = some oj → j ≠ i → L.getD j true = false → (∀ e ∈ oj.after, Region.binds .any e = true → e.on ≠ i) → oi.apart ops oj = true) →
      OkL ops L → i ∈ Region.ready .any ops L → YieldsIf P ops S oi v a → PhiOk F L w → wpD P ops Q F f (L.setIfInBounds i true) (a.put oi.dst v) w → wpD P ops Q F (f + 1) L a w := by
  intro f
  induction f with
  | zero =>
    intro L a w _ hc hr hy hp H
    refine ⟨(fun h => by rw [h] at hr; cases hr), fun j hj => ?_⟩
    by_cases e : j = i
    · subst e; exact hy.wpOp hi (hS L w hc (ready_unlisted hr) hp) ⟨hp.add, H⟩
    · have := ready_mono hj e
      rw [H.1] at this; cases this
  | succ f ih =>
    intro L a w hfree hc hr hy hp H
    refine ⟨(fun h => by rw [h] at hr; cases hr), fun j hj => ?_⟩
    by_cases e : j = i
    · subst e; exact hy.wpOp hi (hS L w hc (ready_unlisted hr) hp) ⟨hp.add, H⟩
    obtain ⟨h1, h2⟩ := take_step hi hsel hQ hfree hr hj e hy (H.2 j (ready_mono hj e))
    refine wpOp_mono (fun a' w' h3 => ?_) h1
    obtain ⟨h3, h4, h5⟩ := h3
    rw [Array.setIfInBounds_comm _ _ (Ne.symm e)] at h4
    have hp' : PhiOk F (L.setIfInBounds j true) w' := by
      rw [Array.setIfInBounds_comm _ _ e] at h4
      exact PhiOk.less (i := i) (by rw [Array.setIfInBounds_comm _ _ (Ne.symm e)] at h4; exact h4) hn
    refine ⟨hp', ih _ a' w' h2 (hc.add hj) (ready_mono hr (Ne.symm e)) h3 hp' ?_⟩
    rw [Array.setIfInBounds_comm _ _ e]; exact h5

/-- What is to be shown at these marks. -/
def G (P : Program) (ops : Array Oper) (Q : Exit → Act → World → Prop) (F : Phi) (f : Nat) (L : Array Bool) (a : Act) (w : World) : Prop := PhiOk F L w → OkL ops L → wpD P ops Q F f L a w
def Gn (P : Program) (ops : Array Oper) (Q : Exit → Act → World → Prop) (F : Phi) (f : Nat) (L : Array Bool) (a : Act) (w : World) : Prop := OkL ops L → PhiOk F L w ∧ wpD P ops Q F f L a w
def Gone (P : Program) (ops : Array Oper) (Q : Exit → Act → World → Prop) (F : Phi) (f : Nat) (L : Array Bool) (i : Nat) (a : Act) (w : World) : Prop :=
  PhiOk F L w → OkL ops L → wpOp P ops Q i (fun a' w' => PhiOk F (L.setIfInBounds i true) w' ∧ wpD P ops Q F f (L.setIfInBounds i true) a' w') a w
def taken (ops : Array Oper) (F : Phi) (L : Array Bool) (i : Nat) : Bool := Region.noSelect ops && (Region.ready .any ops L).contains i && Region.free .any ops L i && !(F.map (·.1)).contains i
theorem taken.spec {F : Phi} {L : Array Bool} {i : Nat} (h : taken ops F L i = true) : Region.noSelect ops = true ∧ i ∈ Region.ready .any ops L ∧ Region.free .any ops L i = true ∧ (F.map (·.1)).contains i = false := by
  simp only [taken, Bool.and_eq_true, Bool.not_eq_true', List.contains_iff_mem] at h
  exact ⟨h.1.1.1, h.1.1.2, h.1.2, h.2⟩
theorem Cx.dPure {F : Phi} {f i : Nat} {L : Array Bool} {o : Oper} (ho : ops[i]? = some o) (ht : taken ops F L i = true) (hQ : ∀ d v c a w, Q (.panic c) (a.put d v) w → Q (.panic c) a w) :
    Cx P ops Q o (G P ops Q F (f + 1) L) (G P ops Q F f (L.setIfInBounds i true)) 0 where
  skip := fun a w hw h hp hc => by
    obtain ⟨h1, h2, h3, h4⟩ := taken.spec ht
    exact d_take (S := fun _ => True) ho (Region.noSelect_spec h1) (hQ _ _) h4 (fun _ _ _ _ _ => trivial) f L a w (Region.free_spec ho h3) hc h2 (.inr ⟨hw, rfl⟩) hp (h hp.add (hc.add h2))
  pure := fun a w v hw hr h hp hc => by
    obtain ⟨h1, h2, h3, h4⟩ := taken.spec ht
    exact d_take (S := fun _ => True) ho (Region.noSelect_spec h1) (hQ _ _) h4 (fun _ _ _ _ _ => trivial) f L a w (Region.free_spec ho h3) hc h2 (.inl ⟨hw, fun w' _ => hr w'⟩) hp (h hp.add (hc.add h2))
  read := fun hk => absurd hk (by omega)
  eff := fun hk => absurd hk (by omega)
theorem Cx.dOne {F : Phi} {f i : Nat} {L : Array Bool} {o : Oper} (ho : ops[i]? = some o) (hr : (Region.ready .any ops L).contains i = true) :
    Cx P ops Q o (Gone P ops Q F f L i) (Gn P ops Q F f (L.setIfInBounds i true)) 2 where
  skip := fun a w hw h hp hc => by
    have hi : i ∈ Region.ready .any ops L := by simpa using hr
    unfold wpOp; simp only [ho]; rw [if_neg (by rw [hw]; simp)]; exact h (hc.add hi)
  pure := fun a w v hw hrun h hp hc => by
    have hi : i ∈ Region.ready .any ops L := by simpa using hr
    unfold wpOp; simp only [ho]; rw [if_pos hw]; refine .inl ?_; unfold Oper.wp; rw [hrun]; exact h (hc.add hi)
  read := fun _ a w v hw hrun h hp hc => by
    have hi : i ∈ Region.ready .any ops L := by simpa using hr
    unfold wpOp; simp only [ho]; rw [if_pos hw]; refine .inl ?_; unfold Oper.wp; rw [hrun]; exact h (hc.add hi)
  eff := fun _ a w hw h hp hc => by
    have hi : i ∈ Region.ready .any ops L := by simpa using hr
    have hc' := hc.add hi
    unfold wpOp; simp only [ho]; rw [if_pos hw]; refine .inl ?_
    unfold Oper.wp at h ⊢
    generalize (execOp a.eval o).run P w = res at *
    cases res with
    | ok n w' =>
      cases n <;> simp only [Oper.upon] at h ⊢
      case value u => exact h hc'
      case skip => exact h hc'
      case defer d => exact h hc'
      case enter f args =>
        refine Calls.mono h fun e w'' he => ?_
        cases e with
        | returned u => exact he hc'
        | panicked c => exact he
        | outgrown => exact he
      case row row args => exact Rows.mono h fun u w'' he => he hc'
    | halt x w' =>
      cases x <;> simp only [Oper.upon] at h ⊢
      case panic u => exact h

variable {N : Nat} {D : List Deferred} {B : World} {env : Env} {hs : List MP} {F : Phi} {f : Nat} {L : Array Bool}
theorem T.dStart {id : Nat} {l : List Oper} (hm : P.follows .mixedOrders = true) (h : T N D B env hs (G P l.toArray Q [] l.length (Array.replicate l.length false))) : T N D B env hs ((Code.region id l.toArray true).wp P Q) := fun a w h1 h2 h3 h4 => by
  have hc : OkL l.toArray (Array.replicate l.length false) := OkL.start
  have := h a w.drew h1 h2 h3 h4.drew (fun p hp => by cases hp) hc
  exact wp_region_any hm (wpD_any _ _ _ _ this)
theorem T.dAdd (z : Nat) (S : World → Prop) (hS : ∀ w, St B hs w → S w) (h : T N D B env hs (G P ops Q ((z, S) :: F) f L)) : T N D B env hs (G P ops Q F f L) := fun a w h1 h2 h3 h4 hp hc =>
  wpD_sub _ _ _ _ (h a w h1 h2 h3 h4 (fun p hq => by
    rcases List.mem_cons.1 hq with rfl | hq
    · exact .inr (hS w h4)
    · exact hp p hq) hc)
theorem T.dAll {rs : List Nat} (hr : Region.ready .any ops L = rs) (hne : rs ≠ []) (h : ∀ i ∈ rs, T N D B env hs (Gone P ops Q F f L i)) : T N D B env hs (G P ops Q F (f + 1) L) := fun a w h1 h2 h3 h4 hp hc =>
  ⟨fun h0 => absurd (hr ▸ h0) hne, fun i hi => h i (hr ▸ hi) a w h1 h2 h3 h4 hp hc⟩
theorem T.dOnly {i : Nat} (hr : Region.ready .any ops L = [i]) (h : T N D B env hs (Gone P ops Q F f L i)) : T N D B env hs (G P ops Q F (f + 1) L) :=
  T.dAll hr (by simp) (fun j hj => by simp only [List.mem_singleton] at hj; subst hj; exact h)
theorem T.d2 {i j : Nat} (hr : Region.ready .any ops L = [i, j]) (h1 : T N D B env hs (Gone P ops Q F f L i)) (h2 : T N D B env hs (Gone P ops Q F f L j)) : T N D B env hs (G P ops Q F (f + 1) L) :=
  T.dAll hr (by simp) (fun q hq => by
    simp only [List.mem_cons, List.mem_nil_iff, or_false] at hq
    rcases hq with rfl | rfl
    · exact h1
    · exact h2)
theorem T.d3 {i j k : Nat} (hr : Region.ready .any ops L = [i, j, k]) (h1 : T N D B env hs (Gone P ops Q F f L i)) (h2 : T N D B env hs (Gone P ops Q F f L j)) (h3 : T N D B env hs (Gone P ops Q F f L k)) : T N D B env hs (G P ops Q F (f + 1) L) :=
  T.dAll hr (by simp) (fun q hq => by
    simp only [List.mem_cons, List.mem_nil_iff, or_false] at hq
    rcases hq with rfl | rfl | rfl
    · exact h1
    · exact h2
    · exact h3)
theorem T.dNext (hp : ∀ w, St B hs w → PhiOk F L w) (h : T N D B env hs (G P ops Q F f L)) : T N D B env hs (Gn P ops Q F f L) := fun a w h1 h2 h3 h4 hc => ⟨hp w h4, h a w h1 h2 h3 h4 (hp w h4) hc⟩
theorem T.dDone (hr : (Region.ready .any ops L).isEmpty = true) (h : T N D B env hs (Q .normal)) : T N D B env hs (G P ops Q F f L) := fun a w h1 h2 h3 h4 hp hc => by
  have hr : Region.ready .any ops L = [] := by simpa using hr
  cases f with
  | zero => exact ⟨hr, h a w h1 h2 h3 h4⟩
  | succ f => exact ⟨fun _ => h a w h1 h2 h3 h4, by rw [hr]; simp⟩
theorem phi_nil : ∀ w, St B hs w → PhiOk [] L w := fun _ _ p hp => by cases hp
theorem phi_cons {z : Nat} {S : World → Prop} (h : L.getD z false = true ∨ ∀ w, St B hs w → S w) (hr : ∀ w, St B hs w → PhiOk F L w) : ∀ w, St B hs w → PhiOk ((z, S) :: F) L w := fun w hw p hp => by
  rcases List.mem_cons.1 hp with rfl | hp
  · exact h.imp id (fun h => h w hw)
  · exact hr w hw p hp
/-- A read of what stays till a number comes up. -/
theorem T.valS (k : Nat) {i z : Nat} {S : World → Prop} {o : Oper} (v : Value) (hk : F[k]? = some (z, S)) (ho : ops[i]? = some o) (ht : taken ops F L i = true) (hb : behind .any ops z i = true) (hQ : ∀ d v c a w, Q (.panic c) (a.put d v) w → Q (.panic c) a w)
    (hw : wants ops env o true) (hf : fits N o = true) (hrun : ∀ a w, Holds env a → S w → (execOp a.eval o).run P w = .ok (.value v) w)
    (h : T N D B (ptE o v env) hs (G P ops Q F f (L.setIfInBounds i true))) : T N D B env hs (G P ops Q F (f + 1) L) := fun a w h1 h2 h3 h4 hp hc => by
  obtain ⟨t1, t2, t3, t4⟩ := taken.spec ht
  obtain ⟨g1, g2, g3⟩ := h3.putO h1 hf v
  refine d_take (S := S) ho (Region.noSelect_spec t1) (hQ _ _) t4 (fun L' w' hc' hi' hp' => ?_) f L a w (Region.free_spec ho t3) hc t2 (.inl ⟨hw.spec h3, fun w' hS' => hrun a w' h3 hS'⟩) hp (h _ w g2 (g3.trans h2) g1 h4 hp.add (hc.add t2))
  have hm : (z, S) ∈ F := List.mem_of_getElem? hk
  rcases hp' _ hm with h | h
  · rw [hc'.unlisted hb hi'] at h; cases h
  · exact h
/-! ### What stays -/
/-- What is never written again: at least this. -/
def Kp (z0 : PH) : MP := ⟨fun z h => h = PH.emp ∧ PH.le z0 z, fun hz ⟨a, b⟩ => ⟨a, PH.le_trans b hz⟩⟩
theorem T.keep {K : Act → World → Prop} (h : ∀ z0, (∀ (i : Nat) {α : Type} {E : Elt α} {A : Option Addr} {c : Nat} {l : List α}, hs[i]? = some (Ro E A c l) → Rd E z0 A l ∧ l.length ≤ c) → T N D B env (Kp z0 :: hs) K) : T N D B env hs K := fun a w h1 h2 h3 h4 => by
  have h4' := h4
  obtain ⟨z, g, ho, hd, hz, hg, hT⟩ := h4
  refine h z (fun i {α E A c l} hi => ?_) a w h1 h2 h3 ⟨z, g, ⟨PH.emp, g, ⟨rfl, PH.le_refl _⟩, ho, PH.emp_disj _, (PH.emp_join _).symm⟩, hd, hz, hg, hT⟩
  obtain ⟨q, ⟨_, hR, hl⟩, _⟩ := ho.sub hi
  exact ⟨hR, hl⟩
theorem Kp.le {z0 : PH} (i : Nat) (hi : hs[i]? = some (Kp z0)) : ∀ w, St B hs w → PH.le z0 (PH.of w) := fun w hw => by
  obtain ⟨z, h, ⟨_, hl⟩, _, hz⟩ := hw.fact hi
  exact PH.le_trans hl hz
theorem Cl.stays {b : Nat} {T' : TypeId} {cs : List Value} (i : Nat) (hi : hs[i]? = some (Cl b T' cs)) : ∀ w, St B hs w → w.heap[b]? = some (.cells cs.toArray T' (0, 0)) := fun w hw => hw.block hi
variable {o : Oper} {x : Operand} {t e : TypeId} {size bytes : Nat} {agg : Bool} {zero : Value} {z0 : PH} {A : Option Addr} {cap n : Nat}
theorem run_ldCl {b off : Nat} {T' : TypeId} {cs : List Value} {v : Value} [ht : TI P t size bytes false zero] (ho : o.op = .load t x) (hx : ev env x = some (.pointer (some ⟨b, off, none⟩))) (hv : cs[off]? = some v) :
    ∀ a w, Holds env a → w.heap[b]? = some (.cells cs.toArray T' (0, 0)) → (execOp a.eval o).run P w = .ok (.value v) w := fun a w h3 hb => by
  simp [execOp, ho, h3.eval hx, run_load1 (cs := cs.toArray) ht hb (by simpa using hv)]
theorem run_strRo {src dst : TypeId} {l : List UInt8} [hs1 : SL P src e] [he : INT P e .u8] [hd : STR P dst] (hR : Rd E8 z0 A l) (ho : o.op = .convert src dst x) (hx : ev env x = some (.slice A n cap)) (hn : n = l.length) :
    ∀ a w, Holds env a → PH.le z0 (PH.of w) → (execOp a.eval o).run P w = .ok (.value (str l)) w := fun a w h3 hz => by
  subst hn
  obtain ⟨cs, h1, h2⟩ := Rd.cells l hR
  have := run_str (P := P) (src := src) (dst := dst) (w := w) (cap := cap) A (encs8 h1) (fun hne => by
    obtain ⟨b, o', cells, ty, fr, rfl, hb, hc⟩ := h2 hne
    refine ⟨_, rfl, fun j u hj => ?_⟩
    rw [Addr.add_mid]
    simp only [World.cell?, show w.heap[b]? = _ from hz b _ hb]
    simpa using hc j u hj)
  simp only [execOp, ho, h3.eval hx, Sem.run_bind, this, Result.andThen_ok, Sem.run_pure]
end
end Go.Proofs.YtpogdeibkghhaaaDoor
