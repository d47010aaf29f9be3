/- Values of several parts: how their cells lie, and what they lead to. -/
import Derived.Test.YtpogdeibkghhaaaDoorWords
set_option linter.unusedVariables false
set_option linter.unusedSimpArgs false
namespace Go.Proofs.YtpogdeibkghhaaaDoor
open Go.RowKit
/-- The cells of a thing, by what is not told of it; the things they lead to, none of them one's own. -/
structure Sh {α : Type} (E : Elt α) where
  X : Type
  cells : α → X → List Value
  ch : α → X → List MP
  op : ∀ z x vs, E.E z x vs → ∃ e, vs = cells x e ∧ ∀ m ∈ ch x e, m.p z PH.emp
def Sh.sc {α : Type} {enc : α → Value} {h1 : ∀ x, (enc x).oneCell' = true} : Sh (Elt.sc enc h1) := ⟨Unit, fun x _ => [enc x], fun _ _ => [], fun _ _ _ h => ⟨(), h, fun m hm => by cases hm⟩⟩
def Sh.slice {α : Type} {E : Elt α} : Sh (Elt.slice E) := ⟨Option Addr × Nat, fun l q => [.slice q.1 l.length q.2], fun l q => [Ro E q.1 q.2 l], fun z x vs ⟨A, c, h, hc, r⟩ => ⟨(A, c), h, fun m hm => by
  simp only [List.mem_singleton] at hm; subst hm; exact ⟨rfl, r, hc⟩⟩⟩
def Sh.pair {α β : Type} {E : Elt α} {F : Elt β} (s : Sh E) (t : Sh F) : Sh (Elt.pair E F) := ⟨s.X × t.X, fun x e => s.cells x.1 e.1 ++ t.cells x.2 e.2, fun x e => s.ch x.1 e.1 ++ t.ch x.2 e.2, fun z x vs ⟨us, ws, h, hE, hF⟩ => by
  obtain ⟨e, h1, h2⟩ := s.op _ _ _ hE
  obtain ⟨f, h3, h4⟩ := t.op _ _ _ hF
  exact ⟨(e, f), by rw [h, h1, h3], fun m hm => by
    rcases List.mem_append.1 hm with hm | hm
    · exact h2 m hm
    · exact h4 m hm⟩⟩
theorem Owns.adds {hs : List MP} {z h : PH} (ho : Owns hs z h) : ∀ {l : List MP}, (∀ m ∈ l, m.p z PH.emp) → Owns (l ++ hs) z h
  | [], _ => ho
  | m :: l, hl => ⟨PH.emp, h, hl m (by simp), Owns.adds ho (fun m hm => hl m (by simp [hm])), PH.emp_disj _, (PH.emp_join _).symm⟩
/-- A part of a thing: from cell off on it says F of g. -/
structure Fd {α β : Type} (E : Elt α) (off : Nat) (F : Elt β) (g : α → β) : Prop where
  get : ∀ z x vs, E.E z x vs → ∃ us, F.E z (g x) us ∧ ∀ j v, us[j]? = some v → vs[off + j]? = some v
theorem Fd.self {α : Type} {E : Elt α} : Fd E 0 E (fun x => x) := ⟨fun z x vs h => ⟨vs, h, fun j v hj => by rw [Nat.zero_add]; exact hj⟩⟩
theorem Fd.fst {α β γ : Type} {E : Elt α} {E2 : Elt γ} {off : Nat} {F : Elt β} {g : α → β} (h : Fd E off F g) : Fd (Elt.pair E E2) off F (fun x => g x.1) := ⟨fun z x vs ⟨us, ws, h1, hE, hF⟩ => by
  obtain ⟨ts, h2, h3⟩ := h.get _ _ _ hE
  refine ⟨ts, h2, fun j v hj => ?_⟩
  have := h3 j v hj
  rw [h1, List.getElem?_append_left (List.getElem?_eq_some_iff.1 this).1]; exact this⟩
section
variable {P : Program} {N : Nat} {D : List Deferred} {B : World} {env env' : Env} {hs hs' : List MP} {ops : Array Oper} {Q : Exit → Act → World → Prop} {K Kn Kr : Act → World → Prop} {o : Oper} {kd : Nat}
variable {α β : Type} {E : Elt α} {F : Elt β} {A : Option Addr} {cr cap : Nat} {l : List α} {x y : Operand} {t e : TypeId} {size bytes esz off : Nat} {agg : Bool} {zero v : Value} {w : World}
/-- An element, or a part of one. -/
theorem T.ldF [Inhabited α] {j : Int} {q : Nat} {g : α → β} [ht : TI P t size bytes agg zero] (cx : Cx P ops Q o Kn Kr (kd + 1)) (fd : Fd E off F g) (sh : Sh F) (hsz : F.sz = size) (h01 : agg = true ∨ size = 1) (hesz : E.sz = esz)
    (hr : ∀ w, St B hs w → ∃ b o cs ty fr vs, A = some ⟨b, o, none⟩ ∧ w.heap[b]? = some (.cells cs ty fr) ∧ (∀ q v, vs[q]? = some v → cs[o + j.toNat * E.sz + q]? = some v) ∧ ∃ z g', Owns hs z g' ∧ PH.disj z g' ∧ PH.le z (PH.of w) ∧ PH.le g' (PH.of w) ∧ PH.le (PH.of B) z ∧ (B.heap.size ≤ w.heap.size ∧ w.os = B.os ∧ w.tape = B.tape ∧ w.output = B.output) ∧ E.E z (l.getD j.toNat default) vs)
    (ho : o.op = .load t x) (hw : wants ops env o true) (hf : fits N o = true) (hx : ev env x = some (ep A q)) (hq : q = j.toNat * esz + off)
    {v : sh.X → Value} {hs' : sh.X → List MP} (hv : ∀ e, (if agg then .agg (sh.cells (g (l.getD j.toNat default)) e).toArray else (sh.cells (g (l.getD j.toNat default)) e).headD undef) = v e) (hh : ∀ e, sh.ch (g (l.getD j.toNat default)) e ++ hs = hs' e)
    (h : ∀ e, T N D B (ptE o (v e) env) (hs' e) Kr) : T N D B env hs Kn :=
  T.valR cx (v := v) (hs' := hs') hw hf (fun a w h3 h4 => by
    obtain ⟨b, o', cs, ty, fr, vs, rfl, hb, hc, z, g', hp, hd, hz, hg, hB, hrest, hE⟩ := hr w h4
    obtain ⟨us, hF, hu⟩ := fd.get _ _ _ hE
    obtain ⟨e, h1, h2⟩ := sh.op _ _ _ hF
    have hlen := F.len _ _ _ hF
    subst hq; subst hesz
    have hcell : ∀ i u, us[i]? = some u → cs[o' + (j.toNat * E.sz + off) + i]? = some u := fun i u hi => by
      have := hc _ _ (hu i u hi)
      rw [← this]; congr 1; omega
    refine ⟨e, ?_, ?_⟩
    · rw [← hv e, ← h1]
      cases agg with
      | true =>
        have := run_loadN (P := P) (w := w) (off := o' + (j.toNat * E.sz + off)) (vs := us) ht hb (by rw [hlen, hsz]) hcell
        simp only [execOp, ho, h3.eval hx, ep_some, Sem.run_bind, this, Result.andThen_ok, Sem.run_pure, if_true]
      | false =>
        have hs1 : size = 1 := h01.resolve_left (by simp)
        subst hs1
        obtain ⟨u, rfl⟩ : ∃ u, us = [u] := by
          match us, hlen.trans hsz with
          | [u], _ => exact ⟨u, rfl⟩
        have := run_load1 (P := P) (w := w) (off := o' + (j.toNat * E.sz + off)) (v := u) ht hb (by simpa using hcell 0 u rfl)
        simp only [execOp, ho, h3.eval hx, ep_some, Sem.run_bind, this, Result.andThen_ok, Sem.run_pure]; rfl
    · rw [← hh e]
      exact ⟨z, g', hp.adds h2, hd, hz, hg, hB, hrest⟩) h
theorem T.ldFRo [Inhabited α] (i : Nat) {j : Int} {q : Nat} {g : α → β} [ht : TI P t size bytes agg zero] (cx : Cx P ops Q o Kn Kr (kd + 1)) (fd : Fd E off F g) (sh : Sh F) (hsz : F.sz = size) (h01 : agg = true ∨ size = 1) (hesz : E.sz = esz)
    (hi : hs[i]? = some (Ro E A cr l)) (h0 : 0 ≤ j) (hj : j < (l.length : Int))
    (ho : o.op = .load t x) (hw : wants ops env o true) (hf : fits N o = true) (hx : ev env x = some (ep A q)) (hq : q = j.toNat * esz + off)
    {v : sh.X → Value} {hs' : sh.X → List MP} (hv : ∀ e, (if agg then .agg (sh.cells (g (l.getD j.toNat default)) e).toArray else (sh.cells (g (l.getD j.toNat default)) e).headD undef) = v e) (hh : ∀ e, sh.ch (g (l.getD j.toNat default)) e ++ hs = hs' e)
    (h : ∀ e, T N D B (ptE o (v e) env) (hs' e) Kr) : T N D B env hs Kn :=
  T.ldF cx fd sh hsz h01 hesz (fun w h4 => by
    obtain ⟨z, g', hp, hd, hz, hg, hB, hrest⟩ := h4
    obtain ⟨g1, ⟨rfl, hRd, _⟩, hle⟩ := hp.sub hi
    obtain ⟨b, off, cs, ty, fr, vs, rfl, hb, hE, hv⟩ := hRd.get (i := j.toNat) (x := l.getD j.toNat default) (by simp [List.getD_eq_getElem?_getD, show j.toNat < l.length by omega])
    exact ⟨b, off, cs, ty, fr, vs, rfl, hz b _ hb, hv, z, g', hp, hd, hz, hg, hB, hrest, hE⟩) ho hw hf hx hq hv hh h
theorem T.ldFBf [Inhabited α] (i : Nat) {j : Int} {q : Nat} {T' : TypeId} {g : α → β} [ht : TI P t size bytes agg zero] (cx : Cx P ops Q o Kn Kr (kd + 1)) (fd : Fd E off F g) (sh : Sh F) (hsz : F.sz = size) (h01 : agg = true ∨ size = 1) (hesz : E.sz = esz)
    (hi : hs[i]? = some (Bf E T' A cap l)) (h0 : 0 ≤ j) (hj : j < (l.length : Int))
    (ho : o.op = .load t x) (hw : wants ops env o true) (hf : fits N o = true) (hx : ev env x = some (ep A q)) (hq : q = j.toNat * esz + off)
    {v : sh.X → Value} {hs' : sh.X → List MP} (hv : ∀ e, (if agg then .agg (sh.cells (g (l.getD j.toNat default)) e).toArray else (sh.cells (g (l.getD j.toNat default)) e).headD undef) = v e) (hh : ∀ e, sh.ch (g (l.getD j.toNat default)) e ++ hs = hs' e)
    (h : ∀ e, T N D B (ptE o (v e) env) (hs' e) Kr) : T N D B env hs Kn :=
  T.ldF cx fd sh hsz h01 hesz (fun w h4 => by
    obtain ⟨z, g', hp, hd, hz, hg, hB, hrest⟩ := h4
    obtain ⟨g1, hr, hle⟩ := hp.sub hi
    rcases hr with ⟨_, _, rfl, _⟩ | ⟨b, cs, sp, hA, hE, hl, hm, rfl⟩
    · simp at hj; omega
    · obtain ⟨vs, h1, h2⟩ := hE.get (i := j.toNat) (x := l.getD j.toNat default) (by simp [List.getD_eq_getElem?_getD, show j.toNat < l.length by omega])
      refine ⟨b, 0, _, _, _, vs, hA, hg b _ (hle b _ (PH.one_self _ _)), fun q v hq => ?_, z, g', hp, hd, hz, hg, hB, hrest, h1⟩
      have := h2 q v hq
      rw [Nat.zero_add, List.getElem?_toArray, List.getElem?_append_left (List.getElem?_eq_some_iff.1 this).1]; exact this) ho hw hf hx hq hv hh h
/-- A part of one cell that leads nowhere. -/
theorem T.fldRo [Inhabited α] (i : Nat) {enc : β → Value} {h1' : ∀ x, (enc x).oneCell' = true} {j : Int} {q : Nat} {g : α → β} [ht : TI P t 1 bytes false zero] (cx : Cx P ops Q o Kn Kr (kd + 1)) (fd : Fd E off (Elt.sc enc h1') g) (hesz : E.sz = esz)
    (hi : hs[i]? = some (Ro E A cr l)) (h0 : 0 ≤ j) (hj : j < (l.length : Int)) (ho : o.op = .load t x) (hw : wants ops env o true) (hf : fits N o = true) (hx : ev env x = some (ep A q)) (hq : q = j.toNat * esz + off)
    (h : T N D B (ptE o (enc (g (l.getD j.toNat default))) env) hs Kr) : T N D B env hs Kn :=
  T.ldFRo i cx fd Sh.sc rfl (.inr rfl) hesz hi h0 hj ho hw hf hx hq (v := fun _ => enc (g (l.getD j.toNat default))) (hs' := fun _ => hs) (fun _ => rfl) (fun _ => rfl) (fun _ => h)
/-- What the things in memory say of cells. -/
def Has {α : Type} (hs : List MP) (E : Elt α) (x : α) (vs : List Value) : Prop := ∀ z h, Owns hs z h → E.E z x vs
theorem Has.sc {α : Type} {hs : List MP} {enc : α → Value} {h1 : ∀ x, (enc x).oneCell' = true} {x : α} {v : Value} (h : v = enc x) : Has hs (Elt.sc enc h1) x [v] := fun _ _ _ => by rw [h]; rfl
theorem Has.slice {α : Type} {hs : List MP} {E : Elt α} (i : Nat) {A : Option Addr} {c n : Nat} {l : List α} (hi : hs[i]? = some (Ro E A c l)) (hn : n = l.length) : Has hs (Elt.slice E) l [.slice A n c] := fun z h ho => by
  obtain ⟨g, ⟨_, hr, hc⟩, _⟩ := ho.sub hi
  exact ⟨A, c, by rw [hn], hc, hr⟩
theorem Has.nil {α : Type} {hs : List MP} {E : Elt α} : Has hs (Elt.slice E) [] [.slice none 0 0] := fun z h ho => ⟨none, 0, rfl, Nat.le_refl _, .inl rfl⟩
theorem Has.pair {α β : Type} {hs : List MP} {E : Elt α} {F : Elt β} {x : α} {y : β} {us ws vs : List Value} (h1 : Has hs E x us) (h2 : Has hs F y ws) (h : vs = us ++ ws) : Has hs (Elt.pair E F) (x, y) vs := fun z g ho => ⟨us, ws, h, h1 z g ho, h2 z g ho⟩
theorem Has.encs {α : Type} {hs : List MP} {E : Elt α} {z h : PH} (ho : Owns hs z h) {x : α} {l : List α} {vs cs ds : List Value} (h1 : Has hs E x vs) (r : Encs E z l cs) (e : ds = vs ++ cs) : Encs E z (x :: l) ds := ⟨vs, cs, e, h1 z h ho, r⟩
/-- A field of an element. -/
theorem T.fieldEp {j q m n : Nat} [hfl : FLD P t n m] (cx : Cx P ops Q o Kn Kr kd) (hA : ∀ w, St B hs w → ∃ b o, A = some ⟨b, o, none⟩) (ho : o.op = .fieldAddr t x n) (hw : wants ops env o true) (hf : fits N o = true) (hx : ev env x = some (ep A q))
    (h : T N D B (ptE o (ep A (q + m)) env) hs Kr) : T N D B env hs Kn :=
  T.valQ cx _ hw hf (fun a w h3 h4 => ⟨fun w' => by
    obtain ⟨b, o', rfl⟩ := hA w h4
    simp [execOp, ho, h3.eval hx, ep_some, hfl.eq, Nat.add_assoc], h4⟩) h
theorem T.fieldRo {q m n : Nat} [hfl : FLD P t n m] (cx : Cx P ops Q o Kn Kr kd) (i : Nat) {j : Int} (hi : hs[i]? = some (Ro E A cr l)) (h0 : 0 ≤ j) (hj : j < (l.length : Int)) (ho : o.op = .fieldAddr t x n) (hw : wants ops env o true) (hf : fits N o = true) (hx : ev env x = some (ep A q))
    (h : T N D B (ptE o (ep A (q + m)) env) hs Kr) : T N D B env hs Kn :=
  T.fieldEp cx (j := 0) (fun w h4 => Ro.addr h4 hi (by omega)) ho hw hf hx h
/-- Whole structs in a block of one's own. -/
theorem T.loadN (cx : Cx P ops Q o Kn Kr (kd + 1)) (i : Nat) {b off : Nat} {T' : TypeId} {cs vs : List Value} (hi : hs[i]? = some (Cl b T' cs)) [ht : TI P t size bytes true zero] (ho : o.op = .load t x) (hw : wants ops env o true) (hf : fits N o = true) (hx : ev env x = some (.pointer (some ⟨b, off, none⟩))) (hv : (cs.drop off).take size = vs) (hl : vs.length = size)
    (h : T N D B (ptE o (.agg vs.toArray) env) hs Kr) : T N D B env hs Kn := T.loads cx i hi ho hw hf hx hv hl h
theorem T.allocS (cx : Cx P ops Q o Kn Kr (kd + 2)) [ht : TI P t size bytes agg zero] (ho : o.op = .alloc t) (hw : wants ops env o true) (hf : fits N o = true) {cs : List Value} (hc : zero.cells.toList = cs)
    (h : ∀ b, T N D B (ptE o (.pointer (some ⟨b, 0, none⟩)) env) (Cl b t cs :: hs) Kr) : T N D B env hs Kn := by subst hc; exact T.alloc cx ho hw hf h
theorem T.boxS (cx : Cx P ops Q o Kn Kr (kd + 2)) (ho : o.op = .box t x) (hw : wants ops env o true) (hf : fits N o = true) (hx : ev env x = some v) {cs : List Value} (hc : v.cells.toList = cs)
    (h : ∀ b, T N D B (ptE o (.pointer (some ⟨b, 0, none⟩)) env) (Cl b t cs :: hs) Kr) : T N D B env hs Kn := by subst hc; exact T.box cx ho hw hf hx h
theorem run_ldClN {b off : Nat} {T' : TypeId} {cs vs : List Value} [ht : TI P t size bytes true zero] (ho : o.op = .load t x) (hx : ev env x = some (.pointer (some ⟨b, off, none⟩))) (hv : (cs.drop off).take size = vs) (hl : vs.length = size) :
    ∀ a w, Holds env a → w.heap[b]? = some (.cells cs.toArray T' (0, 0)) → (execOp a.eval o).run P w = .ok (.value (.agg vs.toArray)) w := fun a w h3 hb => by
  have := run_loadN (P := P) (w := w) (off := off) (vs := vs) ht hb hl (fun j v hj => by
    subst hv; rw [List.getElem?_take] at hj; split at hj
    · simpa using hj
    · cases hj)
  simp [execOp, ho, h3.eval hx, this]
theorem Bf.le {T' : TypeId} (hpos : Nat.blt 0 E.sz = true) {z h : PH} (hp : (Bf E T' A cap l).p z h) : l.length ≤ cap := by
  have hpos : 0 < E.sz := Nat.le_of_ble_eq_true hpos
  rcases hp with ⟨_, rfl, rfl, _⟩ | ⟨b, cs, sp, _, hE, hl, _, _⟩
  · simp
  · have := hE.length
    exact Nat.le_of_mul_le_mul_right (by omega) hpos
/-- A result, where it lies. -/
def resOf (tmps : Array Value) : ResultVar → Sem Value
  | .tmp t => pure (tmps.getD t undef)
  | .cell a t => do loadVar t (← asAddr (tmps.getD a undef))
def OutRun (P : Program) (B : World) (env : Env) (hs : List MP) (r : ResultVar) (v : Value) : Prop := ∀ (a : Act) (w : World), Holds env a → St B hs w → (resOf a.tmps r).run P w = .ok v w
theorem OutRun.tmp {i : Nat} {v : Value} (h : Env.get env i = some v) : OutRun P B env hs (.tmp i) v := fun a w ha _ => by simp [resOf, ha i v h]
theorem OutRun.cellN (i : Nat) {q b : Nat} {T' : TypeId} {cs vs : List Value} (hb : Env.get env q = some (.pointer (some ⟨b, 0, none⟩))) (hi : hs[i]? = some (Cl b T' cs)) [ht : TI P t size bytes true zero] (hv : cs.take size = vs) (hl : vs.length = size) : OutRun P B env hs (.cell q t) (.agg vs.toArray) := fun a w ha hS => by
  have := run_loadN (P := P) (w := w) (off := 0) (vs := vs) ht (hS.block hi) hl (fun j v hj => by
    subst hv; rw [List.getElem?_take] at hj; split at hj
    · simpa using hj
    · cases hj)
  simp only [Instr.loadAt, Instr.sureAddr, Sem.run_bind, Sem.run_pure, Result.andThen_ok] at this
  have e : a.tmps.getD q undef = .pointer (some ⟨b, 0, none⟩) := by simp [ha q _ hb]
  simp only [resOf, Sem.run_bind, e, asAddr, Sem.run_pure, Result.andThen_ok]
  exact this
theorem OutRun.cell1 (i : Nat) {q b : Nat} {T' : TypeId} {cs : List Value} {v : Value} (hb : Env.get env q = some (.pointer (some ⟨b, 0, none⟩))) (hi : hs[i]? = some (Cl b T' cs)) [ht : TI P t 1 bytes false zero] (hv : cs[0]? = some v) : OutRun P B env hs (.cell q t) v := fun a w ha hS => by
  have := run_load1 (P := P) (w := w) (off := 0) (v := v) ht (hS.block hi) (by simpa using hv)
  simp only [Instr.loadAt, Instr.sureAddr, Sem.run_bind, Sem.run_pure, Result.andThen_ok] at this
  have e : a.tmps.getD q undef = .pointer (some ⟨b, 0, none⟩) := by simp [ha q _ hb]
  simp only [resOf, Sem.run_bind, e, asAddr, Sem.run_pure, Result.andThen_ok]
  exact this
theorem results_of {fn : Func} (tmps : Array Value) : results fn tmps = (fn.results.mapM (resOf tmps) >>= fun vs => pure (if h : vs.size = 1 then vs[0] else .tuple vs)) := by
  unfold results
  congr 2
theorem T.out1 {fn : Func} {R : Ending → World → Prop} {r : ResultVar} (hr : fn.results = #[r]) (h1 : OutRun P B env hs r v) (h : ∀ w, St B hs w → R (.returned v) w) : T N [] B env hs (bodyPost P fn R .ret) :=
  fun a w g1 g2 g3 g4 => bodyPost_ret (v := v) (by rw [results_of, hr]; simp [h1 a w g3 g4]) g2 (h w g4)
theorem T.out2 {fn : Func} {R : Ending → World → Prop} {r s : ResultVar} {u : Value} (hr : fn.results = #[r, s]) (h1 : OutRun P B env hs r v) (h2 : OutRun P B env hs s u) (h : ∀ w, St B hs w → R (.returned (.tuple #[v, u])) w) : T N [] B env hs (bodyPost P fn R .ret) :=
  fun a w g1 g2 g3 g4 => bodyPost_ret (v := .tuple #[v, u]) (by rw [results_of, hr]; simp [h1 a w g3 g4, h2 a w g3 g4]) g2 (h w g4)
/-- A struct, out of its parts. -/
theorem run_buildStruct {fs : List (TypeId × Nat)} [hsf : SF P t fs] [ht : TI P t size bytes agg zero] {sizes : List Nat} (hsz : (fs.map fun f => (P.info? f.1).map (·.size)) = sizes.map some) {vals : List (Nat × Value)} {cells : Array Value}
    (hfill : Instr.fill (((fs.map (·.2)).zip sizes).toArray[·]?) zero.cells vals = some cells) (w : World) : (Instr.build t vals.toArray).run P w = .ok (.agg cells) w := by
  have key : ∀ (l : List Field) (ss : List Nat), (l.map fun f => (P.info? f.type).map (·.size)) = ss.map some → (l.mapM fun f => do pure (f.offset, ← sizeOf f.type) : Sem (List (Nat × Nat))).run P w = .ok ((l.map (·.offset)).zip ss) w := by
    intro l
    induction l with
    | nil => intro ss h; cases ss <;> simp_all
    | cons f l ih =>
      intro ss h
      cases ss with
      | nil => simp at h
      | cons s ss =>
        simp only [List.map_cons, List.cons.injEq] at h
        have h1 : (sizeOf f.type).run P w = .ok s w := by
          obtain ⟨i, hi, rfl⟩ := Option.map_eq_some_iff.1 h.1
          simp [sizeOf, typeInfo, hi]
        simp only [List.mapM_cons, Sem.run_bind, h1, Result.andThen_ok, Sem.run_pure, ih ss h.2, List.map_cons, List.zip_cons_cons]
  have hs := hsf.eq
  split at hs
  · rename_i fields hfs
    cases hs
    have key2 := key fields.toList sizes (by rw [← hsz, List.map_map]; rfl)
    have : (fields.mapM fun f => do pure (f.offset, ← sizeOf f.type) : Sem (Array (Nat × Nat))).run P w = .ok ((fields.toList.map (·.offset)).zip sizes).toArray w := by
      rw [Array.mapM_eq_mapM_toList]
      have e : ∀ (m : Sem (List (Nat × Nat))), (List.toArray <$> m).run P w = (m.run P w).andThen fun a w' => .ok a.toArray w' := fun m => by
        change ((m >>= fun a => pure (List.toArray a) : Sem _).run P w) = _
        rw [Sem.run_bind]; rfl
      rw [e, key2]; rfl
    rw [List.map_map] at hfill
    simp only [Function.comp_def] at hfill
    simp only [Instr.build, Sem.run_bind, ht.zeroValue, Result.andThen_ok, run_underlying hfs, this, hfill, Sem.run_pure]
  · cases hs
end
end Go.Proofs.YtpogdeibkghhaaaDoor
