/- The operations that touch memory: one rule each. -/
import Derived.Test.YtpogdeibkghhaaaDoorOps
import Derived.Deep.OwnRows
import Derived.Laws.CopyOwn
import Derived.Deep.AppendSrc
import Derived.Maps.AppendAt
set_option linter.unusedVariables false
set_option linter.unusedSimpArgs false
namespace Go.Proofs.YtpogdeibkghhaaaDoor
open Go.RowKit

/-! ### What a list is in memory -/
/-- What the cells of a thing say, in sight of memory that is never written again. -/
structure Elt (α : Type) where
  sz : Nat
  E : PH → α → List Value → Prop
  len : ∀ h x vs, E h x vs → vs.length = sz
  up : ∀ h k x vs, PH.le h k → E h x vs → E k x vs
  one : ∀ h x vs, E h x vs → ∀ v ∈ vs, v.oneCell' = true
/-- A thing that leads nowhere: its cells are known. -/
def Elt.flat {α : Type} (sz : Nat) (enc : α → List Value) (h1 : ∀ x, (enc x).length = sz) (h2 : ∀ x, ∀ v ∈ enc x, v.oneCell' = true) : Elt α :=
  ⟨sz, fun _ x vs => vs = enc x, fun _ x _ h => by rw [h]; exact h1 x, fun _ _ _ _ _ h => h, fun _ x vs h v hv => by rw [h] at hv; exact h2 x v hv⟩
def Elt.sc {α : Type} (enc : α → Value) (h1 : ∀ x, (enc x).oneCell' = true) : Elt α := Elt.flat 1 (fun x => [enc x]) (fun _ => rfl) (fun x v hv => by simp only [List.mem_singleton] at hv; rw [hv]; exact h1 x)
def E8 : Elt UInt8 := Elt.sc b8 (fun _ => rfl)
def E64 : Elt Int := Elt.sc (Value.int .i64) (fun _ => rfl)
def E32 : Elt Int := Elt.sc (Value.int .i32) (fun _ => rfl)
def EBool : Elt Bool := Elt.sc Value.bool (fun _ => rfl)
def EStr : Elt (List UInt8) := Elt.sc str (fun _ => rfl)

/-- A slice's elements, read in h. -/
def Rd {α : Type} (E : Elt α) (h : PH) (A : Option Addr) (l : List α) : Prop :=
  l = [] ∨ ∃ b o cs ty fr, A = some ⟨b, o, none⟩ ∧ h b = some (.cells cs ty fr) ∧ ∀ i x, l[i]? = some x → ∃ vs, E.E h x vs ∧ ∀ j v, vs[j]? = some v → cs[o + i * E.sz + j]? = some v
theorem Rd.up {α : Type} {E : Elt α} {h k : PH} {A : Option Addr} {l : List α} (hk : PH.le h k) (r : Rd E h A l) : Rd E k A l := by
  rcases r with r | ⟨b, o, cs, ty, fr, hA, hb, hc⟩
  · exact .inl r
  · refine .inr ⟨b, o, cs, ty, fr, hA, hk b _ hb, fun i x hi => ?_⟩
    obtain ⟨vs, hE, hv⟩ := hc i x hi
    exact ⟨vs, E.up _ _ _ _ hk hE, hv⟩
theorem Rd.nil {α : Type} {E : Elt α} {h : PH} {A : Option Addr} : Rd E h A ([] : List α) := .inl rfl
theorem Rd.take {α : Type} {E : Elt α} {h : PH} {A : Option Addr} {l : List α} (n : Nat) (r : Rd E h A l) : Rd E h A (l.take n) := by
  rcases r with rfl | ⟨b, o, cs, ty, fr, hA, hb, hc⟩
  · simp [Rd]
  · refine .inr ⟨b, o, cs, ty, fr, hA, hb, fun i x hi => hc i x ?_⟩
    rw [List.getElem?_take] at hi; split at hi
    · exact hi
    · cases hi
theorem Rd.drop {α : Type} {E : Elt α} {h : PH} {b o : Nat} {l : List α} (n : Nat) (r : Rd E h (some ⟨b, o, none⟩) l) : Rd E h (some ⟨b, o + n * E.sz, none⟩) (l.drop n) := by
  rcases r with rfl | ⟨b, o, cs, ty, fr, hA, hb, hc⟩
  · simp [Rd]
  · cases hA
    refine .inr ⟨b, _, cs, ty, fr, rfl, hb, fun i x hi => ?_⟩
    rw [List.getElem?_drop] at hi
    obtain ⟨vs, h1, h2⟩ := hc _ x hi
    refine ⟨vs, h1, fun j v hj => ?_⟩
    have := h2 j v hj
    rw [Nat.add_mul] at this
    rw [← this]; congr 1; omega
theorem Rd.get {α : Type} {E : Elt α} {h : PH} {A : Option Addr} {l : List α} (r : Rd E h A l) {i : Nat} {x : α} (hi : l[i]? = some x) :
    ∃ b o cs ty fr vs, A = some ⟨b, o, none⟩ ∧ h b = some (.cells cs ty fr) ∧ E.E h x vs ∧ ∀ j v, vs[j]? = some v → cs[o + i * E.sz + j]? = some v := by
  rcases r with rfl | ⟨b, o, cs, ty, fr, hA, hb, hc⟩
  · simp at hi
  · obtain ⟨vs, h1, h2⟩ := hc i x hi
    exact ⟨b, o, cs, ty, fr, vs, hA, hb, h1, h2⟩
/-- A slice as an element. -/
def Elt.slice {α : Type} (E : Elt α) : Elt (List α) := ⟨1, fun h l vs => ∃ A c, vs = [.slice A l.length c] ∧ l.length ≤ c ∧ Rd E h A l, fun _ _ _ ⟨_, _, h, _⟩ => by rw [h]; rfl,
  fun _ _ _ _ hk ⟨A, c, h, hc, r⟩ => ⟨A, c, h, hc, r.up hk⟩, fun _ _ _ ⟨A, c, h, _⟩ v hv => by rw [h] at hv; simp at hv; rw [hv]; rfl⟩
/-- Two behind each other. -/
def Elt.pair {α β : Type} (E : Elt α) (F : Elt β) : Elt (α × β) := ⟨E.sz + F.sz, fun h x vs => ∃ us ws, vs = us ++ ws ∧ E.E h x.1 us ∧ F.E h x.2 ws,
  fun _ _ _ ⟨us, ws, h, e, f⟩ => by rw [h, List.length_append, E.len _ _ _ e, F.len _ _ _ f],
  fun _ _ _ _ hk ⟨us, ws, h, e, f⟩ => ⟨us, ws, h, E.up _ _ _ _ hk e, F.up _ _ _ _ hk f⟩,
  fun _ _ _ ⟨us, ws, h, e, f⟩ v hv => by rw [h] at hv; rcases List.mem_append.1 hv with hv | hv; exact E.one _ _ _ e v hv; exact F.one _ _ _ f v hv⟩
/-- A slice that may be read, and is never written again. -/
def Ro {α : Type} (E : Elt α) (A : Option Addr) (c : Nat) (l : List α) : MP := ⟨fun z h => h = PH.emp ∧ Rd E z A l ∧ l.length ≤ c, fun hz ⟨h1, h2, h3⟩ => ⟨h1, h2.up hz, h3⟩⟩
/-- The cells of a list, one behind the other. -/
def Encs {α : Type} (E : Elt α) (z : PH) : List α → List Value → Prop
  | [], cs => cs = []
  | x :: l, cs => ∃ vs r, cs = vs ++ r ∧ E.E z x vs ∧ Encs E z l r
theorem Encs.up {α : Type} {E : Elt α} {z z' : PH} (hz : PH.le z z') : ∀ {l : List α} {cs : List Value}, Encs E z l cs → Encs E z' l cs
  | [], _, h => h
  | _ :: _, _, ⟨vs, r, h, e, f⟩ => ⟨vs, r, h, E.up _ _ _ _ hz e, Encs.up hz f⟩
theorem Encs.length {α : Type} {E : Elt α} {z : PH} : ∀ {l : List α} {cs : List Value}, Encs E z l cs → cs.length = l.length * E.sz
  | [], _, h => by rw [show _ = [] from h]; simp
  | x :: l, _, ⟨vs, r, h, e, f⟩ => by rw [h, List.length_append, E.len _ _ _ e, Encs.length f, List.length_cons, Nat.succ_mul]; omega
theorem Encs.one {α : Type} {E : Elt α} {z : PH} : ∀ {l : List α} {cs : List Value}, Encs E z l cs → ∀ v ∈ cs, v.oneCell' = true
  | [], _, h, v, hv => by rw [show _ = [] from h] at hv; simp at hv
  | x :: l, _, ⟨vs, r, h, e, f⟩, v, hv => by
    rw [h] at hv
    rcases List.mem_append.1 hv with hv | hv
    · exact E.one _ _ _ e v hv
    · exact Encs.one f v hv
theorem Encs.app {α : Type} {E : Elt α} {z : PH} : ∀ {l m : List α} {cs ds : List Value}, Encs E z l cs → Encs E z m ds → Encs E z (l ++ m) (cs ++ ds)
  | [], m, _, _, h, g => by rw [show _ = [] from h]; exact g
  | x :: l, m, _, ds, ⟨vs, r, h, e, f⟩, g => ⟨vs, r ++ ds, by rw [h, List.append_assoc], e, Encs.app f g⟩
theorem Encs.get {α : Type} {E : Elt α} {z : PH} : ∀ {l : List α} {cs : List Value}, Encs E z l cs → ∀ {i : Nat} {x : α}, l[i]? = some x → ∃ vs, E.E z x vs ∧ ∀ j v, vs[j]? = some v → cs[i * E.sz + j]? = some v
  | [], _, _, i, x, hx => by simp at hx
  | y :: l, _, ⟨vs, r, h, e, f⟩, 0, x, hx => by
    simp only [List.getElem?_cons_zero, Option.some.injEq] at hx
    subst hx
    refine ⟨vs, e, fun j v hj => ?_⟩
    rw [h, Nat.zero_mul, Nat.zero_add, List.getElem?_append_left (List.getElem?_eq_some_iff.1 hj).1]; exact hj
  | y :: l, _, ⟨vs, r, h, e, f⟩, i + 1, x, hx => by
    obtain ⟨us, h1, h2⟩ := Encs.get f (i := i) (by simpa using hx)
    refine ⟨us, h1, fun j v hj => ?_⟩
    have hl := E.len _ _ _ e
    rw [h, Nat.succ_mul, List.getElem?_append_right (by omega), ← h2 j v hj]; congr 1; omega
theorem Encs.set {α : Type} {E : Elt α} {z : PH} : ∀ {l : List α} {cs : List Value}, Encs E z l cs → ∀ (i : Nat) {x : α} {vs : List Value}, E.E z x vs → i < l.length → Encs E z (l.set i x) (cs.take (i * E.sz) ++ vs ++ cs.drop (i * E.sz + vs.length))
  | [], _, _, i, x, vs, _, hi => by simp at hi
  | y :: l, _, ⟨us, r, h, e, f⟩, 0, x, vs, hx, hi => by
    have h1 := E.len _ _ _ e
    have h2 := E.len _ _ _ hx
    subst h
    refine ⟨vs, r, ?_, hx, f⟩
    rw [Nat.zero_mul, List.take_zero, List.nil_append, Nat.zero_add, List.drop_append, List.drop_of_length_le (by omega), List.nil_append, show vs.length - us.length = 0 by omega, List.drop_zero]
  | y :: l, _, ⟨us, r, h, e, f⟩, i + 1, x, vs, hx, hi => by
    have h1 := E.len _ _ _ e
    subst h
    refine ⟨us, _, ?_, e, Encs.set f i hx (by simpa using hi)⟩
    rw [Nat.succ_mul, Nat.add_comm (i * E.sz) E.sz, List.take_append, List.take_of_length_le (by omega), show E.sz + i * E.sz - us.length = i * E.sz by omega, List.drop_append, List.drop_of_length_le (l := us) (by omega), List.nil_append]
    simp only [List.append_assoc]
    congr 4
    omega
theorem Encs.sc {α : Type} {enc : α → Value} {h1 : ∀ x, (enc x).oneCell' = true} {z : PH} : ∀ (l : List α), Encs (Elt.sc enc h1) z l (l.map enc)
  | [] => rfl
  | x :: l => ⟨[enc x], l.map enc, rfl, rfl, Encs.sc l⟩
theorem Encs.flat {α : Type} {sz : Nat} {enc : α → List Value} {h1 : ∀ x, (enc x).length = sz} {h2 : ∀ x, ∀ v ∈ enc x, v.oneCell' = true} {z : PH} : ∀ (l : List α), Encs (Elt.flat sz enc h1 h2) z l (l.flatMap enc)
  | [] => rfl
  | x :: l => ⟨enc x, l.flatMap enc, by simp, rfl, Encs.flat l⟩
theorem Encs.take {α : Type} {E : Elt α} {z : PH} : ∀ {l : List α} {cs : List Value} (n : Nat), Encs E z l cs → Encs E z (l.take n) (cs.take (n * E.sz))
  | l, cs, 0, h => by simp [Encs]
  | [], cs, n + 1, h => by rw [show cs = [] from h]; simp [Encs]
  | x :: l, cs, n + 1, ⟨vs, r, h, e, f⟩ => by
    have h1 := E.len _ _ _ e
    refine ⟨vs, _, ?_, e, Encs.take n f⟩
    rw [h, Nat.succ_mul, Nat.add_comm, List.take_append, List.take_of_length_le (by omega), show E.sz + n * E.sz - vs.length = n * E.sz by omega]
theorem Encs.rd {α : Type} {E : Elt α} {z : PH} {l : List α} {cs sp : List Value} (h : Encs E z l cs) {b : Nat} {T : TypeId} {fr : Nat × Nat} (hb : z b = some (.cells (cs ++ sp).toArray T fr)) : Rd E z (some ⟨b, 0, none⟩) l :=
  .inr ⟨b, 0, _, T, fr, rfl, hb, fun i x hi => by
    obtain ⟨vs, h1, h2⟩ := h.get hi
    refine ⟨vs, h1, fun j v hj => ?_⟩
    have := h2 j v hj
    rw [Nat.zero_add, List.getElem?_toArray, List.getElem?_append_left (List.getElem?_eq_some_iff.1 this).1]; exact this⟩

/-- A slice that is one's own: nil, or a block from its beginning on; its elements; what lies behind them does not matter. -/
def Bf {α : Type} (E : Elt α) (T : TypeId) (A : Option Addr) (cap : Nat) (l : List α) : MP :=
  ⟨fun z h => (A = none ∧ cap = 0 ∧ l = [] ∧ h = PH.emp) ∨ ∃ b cs sp, A = some ⟨b, 0, none⟩ ∧ Encs E z l cs ∧ cs.length + sp.length = cap * E.sz ∧ cap ≤ maxLen ∧ h = PH.one b (.cells (cs ++ sp).toArray T (0, 0)),
   fun hz h => by
    rcases h with h | ⟨b, cs, sp, h1, h2, h3⟩
    · exact .inl h
    · exact .inr ⟨b, cs, sp, h1, h2.up hz, h3⟩⟩

/-- The place of a cell behind an address. -/
def ep (A : Option Addr) (q : Nat) : Value := .pointer (A.map fun a => ⟨a.block, a.off + q, none⟩)

section
variable {P : Program} {N : Nat} {D : List Deferred} {B : World} {env : Env} {hs : List MP} {Q : Exit → Act → World → Prop} {w : World}
variable {ops : Array Oper} {rest : List Oper} {o : Oper} {Kn Kr : Act → World → Prop} {kd : Nat} {x y c : Operand} {v u r : Value} {t e : TypeId} {k : IntKind} {i n m : Nat}
variable {size bytes : Nat} {agg : Bool} {zero : Value} {α : Type} {E : Elt α} {A : Option Addr} {l : List α} {cap cr : Nat}

theorem TI.get (h : TI P t size bytes agg zero) : ∃ i, P.info? t = some i ∧ i.zero = some zero ∧ i.size = size ∧ i.bytes = bytes := by
  obtain ⟨i, hi, hz⟩ := Option.map_eq_some_iff.1 h.info
  simp only [Prod.mk.injEq] at hz
  exact ⟨i, hi, hz.1, hz.2.1, hz.2.2⟩
theorem TI.sizeOf (h : TI P t size bytes agg zero) (w : World) : (sizeOf t).run P w = .ok size w := by
  obtain ⟨i, hi, hz, hs, hb⟩ := h.get
  simp [Go.sizeOf, typeInfo, hi, hs]
theorem TI.zeroValue (h : TI P t size bytes agg zero) (w : World) : (zeroValue t).run P w = .ok zero w := by
  obtain ⟨i, hi, hz, hs, hb⟩ := h.get
  simp [Go.zeroValue, typeInfo, hi, hz]
theorem TI.isAgg (h : TI P t size bytes agg zero) (w : World) : (isAgg t).run P w = .ok agg w := by
  obtain ⟨d, hd, ha⟩ := Option.map_eq_some_iff.1 h.row
  subst ha
  simp only [Go.isAgg, Sem.run_bind, run_underlying hd, Result.andThen_ok]
  cases d <;> rfl

/-! ### Loads -/
theorem run_load1 {T' : TypeId} {b off : Nat} {cs : Array Value} {fr : Nat × Nat} {v : Value} (ht : TI P t size bytes false zero) (hb : w.heap[b]? = some (.cells cs T' fr)) (hv : cs[off]? = some v) :
    (Instr.loadAt t (.pointer (some ⟨b, off, none⟩))).run P w = .ok v w := by
  have hc : w.cell? ⟨b, off, none⟩ = some v := by simp [World.cell?, hb, hv]
  simp [Instr.loadAt, Instr.sureAddr, loadVar, ht.isAgg, hc]
theorem run_loadN {T' : TypeId} {b off : Nat} {cs : Array Value} {fr : Nat × Nat} {vs : List Value} (ht : TI P t size bytes true zero) (hb : w.heap[b]? = some (.cells cs T' fr)) (hl : vs.length = size) (hv : ∀ j v, vs[j]? = some v → cs[off + j]? = some v) :
    (Instr.loadAt t (.pointer (some ⟨b, off, none⟩))).run P w = .ok (.agg vs.toArray) w := by
  obtain ⟨d, hd, ha⟩ := Option.map_eq_some_iff.1 ht.row
  refine run_loadAt_mid w b off t vs d (fun j v hj => ?_) hd ha ?_
  · simp [World.cell?, hb, hv j v hj]
  · obtain ⟨i, hi, _, hs, _⟩ := ht.get
    simp [hi, hs, hl]
/-- A cell of one's own. -/
theorem T.load (cx : Cx P ops Q o Kn Kr (kd + 1)) (i : Nat) {b off : Nat} {T' : TypeId} {cs : List Value} (hi : hs[i]? = some (Cl b T' cs)) [ht : TI P t size bytes false zero] (ho : o.op = .load t x) (hw : wants ops env o true) (hf : fits N o = true) (hx : ev env x = some (.pointer (some ⟨b, off, none⟩))) (hv : cs[off]? = some v)
    (h : T N D B (ptE o v env) hs Kr) : T N D B env hs Kn :=
  T.val cx v hw hf (fun a w h3 h4 => by simp [execOp, ho, h3.eval hx, run_load1 (cs := cs.toArray) ht (h4.block hi) (by simpa using hv)]) h
/-- Several of them. -/
theorem T.loads (cx : Cx P ops Q o Kn Kr (kd + 1)) (i : Nat) {b off : Nat} {T' : TypeId} {cs : List Value} (hi : hs[i]? = some (Cl b T' cs)) [ht : TI P t size bytes true zero] (ho : o.op = .load t x) (hw : wants ops env o true) (hf : fits N o = true) (hx : ev env x = some (.pointer (some ⟨b, off, none⟩))) {vs : List Value} (hv : (cs.drop off).take size = vs) (hl : vs.length = size)
    (h : T N D B (ptE o (.agg vs.toArray) env) hs Kr) : T N D B env hs Kn :=
  T.val cx _ hw hf (fun a w h3 h4 => by
    have := run_loadN (P := P) (w := w) (off := off) (vs := vs) ht (h4.block hi) hl (fun j v hj => by
      subst hv; rw [List.getElem?_take] at hj; split at hj
      · simpa using hj
      · cases hj)
    simp [execOp, ho, h3.eval hx, this]) h

/-! ### Stores -/
def splice (cs : List Value) (off : Nat) (vs : List Value) : List Value := cs.take off ++ vs ++ cs.drop (off + vs.length)
theorem run_storeN {T' : TypeId} {b off : Nat} {cs : Array Value} {v : Value} (ht : TI P t size bytes agg zero) (hb : w.heap[b]? = some (.cells cs T' (0, 0))) (hl : v.cells.size = size) (hfit : off + size ≤ cs.size) (h1 : ∀ u ∈ v.cells.toList, u.oneCell' = true) :
    (Instr.storeAt t (.pointer (some ⟨b, off, none⟩)) v).run P w = .ok () (w.setRow b (splice cs.toList off v.cells.toList).toArray) := by
  have hst := run_storeCells_at P b off T' v.cells.toList 0 cs w hb (by simp; omega) h1
  simp only [Nat.add_zero] at hst
  simp [Instr.storeAt, Instr.sureAddr, storeVar, ht.sizeOf, hl, hst, splice]
def oneCells (l : List Value) : Bool := l.all (·.oneCell')
theorem T.store (cx : Cx P ops Q o Kn Kr (kd + 2)) (i : Nat) {b off : Nat} {T' : TypeId} {cs : List Value} (hi : hs[i]? = some (Cl b T' cs)) [ht : TI P t size bytes agg zero] (ho : o.op = .store t x y) (hw : wants ops env o true) (hf : fits N o = true) (hx : ev env x = some (.pointer (some ⟨b, off, none⟩))) (hy : ev env y = some v)
    (hl : v.cells.size = size) (hfit : off + size ≤ cs.length) (h1 : oneCells v.cells.toList = true) {cs' : List Value} (hc : splice cs off v.cells.toList = cs') {hs' : List MP} (he : hs.set i (Cl b T' cs') = hs')
    (h : T N D B (ptE o undef env) hs' Kr) : T N D B env hs Kn :=
  T.stepW cx hw hf (fun a w h3 h4 => by
    subst he; subst hc
    refine ⟨_, ?_, h4.setRow i (splice cs off v.cells.toList).toArray hi⟩
    have := run_storeN (cs := cs.toArray) ht (h4.block hi) hl (by simpa using hfit) (fun u hu => by
      simp only [oneCells, List.all_eq_true] at h1
      exact h1 u hu)
    simp only [List.toList_toArray] at this
    simp only [execOp, ho, h3.eval hx, h3.eval hy, Sem.run_bind, this, Result.andThen_ok, Sem.run_pure]) (by subst he; subst hc; exact h)

/-! ### New memory -/
theorem T.alloc (cx : Cx P ops Q o Kn Kr (kd + 2)) [ht : TI P t size bytes agg zero] (ho : o.op = .alloc t) (hw : wants ops env o true) (hf : fits N o = true)
    (h : ∀ b, T N D B (ptE o (.pointer (some ⟨b, 0, none⟩)) env) (Cl b t zero.cells.toList :: hs) Kr) : T N D B env hs Kn :=
  T.valW cx (v := fun b => .pointer (some ⟨b, 0, none⟩)) hw hf (fun a w h3 h4 => ⟨w.heap.size, _, by simp [execOp, ho, Instr.alloc, ht.zeroValue, newVar, newRow], h4.allocCl zero.cells t⟩) h
theorem T.box (cx : Cx P ops Q o Kn Kr (kd + 2)) (ho : o.op = .box t x) (hw : wants ops env o true) (hf : fits N o = true) (hx : ev env x = some v)
    (h : ∀ b, T N D B (ptE o (.pointer (some ⟨b, 0, none⟩)) env) (Cl b t v.cells.toList :: hs) Kr) : T N D B env hs Kn :=
  T.valW cx (v := fun b => .pointer (some ⟨b, 0, none⟩)) hw hf (fun a w h3 h4 => ⟨w.heap.size, _, by simp [execOp, ho, h3.eval hx, Instr.box, newVar, newRow], h4.allocCl v.cells t⟩) h
theorem T.field (cx : Cx P ops Q o Kn Kr kd) [hfl : FLD P t n m] {b q : Nat} (ho : o.op = .fieldAddr t x n) (hw : wants ops env o true) (hf : fits N o = true) (hx : ev env x = some (.pointer (some ⟨b, q, none⟩)))
    (h : T N D B (ptE o (.pointer (some ⟨b, q + m, none⟩)) env) hs Kr) : T N D B env hs Kn :=
  T.valP cx _ hw hf (fun a w h3 => by simp [execOp, ho, h3.eval hx, hfl.eq]) h

/-! ### Slices that are read -/
theorem ep_some {b q j : Nat} {s : Option Nat} : ep (some ⟨b, q, s⟩) j = .pointer (some ⟨b, q + j, none⟩) := rfl
theorem run_indexAddr {b off j : Nat} {k : IntKind} [hsl : SL P t e] [ht : TI P e size bytes agg zero] (hj : j < n) :
    (Instr.indexAt t (.slice (some ⟨b, off, none⟩) n cap) (.int k (j : Int))).run P w = .ok (.pointer (some ⟨b, off + j * size, none⟩)) w := by
  have h1 : (0 : Int) ≤ (j : Int) ∧ (j : Int) < (n : Int) := ⟨by omega, by omega⟩
  have hadd := Addr.add_mid b off (j * size)
  simp only [Instr.indexAt, asIntOf, Sem.run_bind, Sem.run_pure, Result.andThen_ok, run_underlying hsl.eq, Sem.run_ite, h1, and_self, if_true, ht.sizeOf, Int.toNat_natCast, hadd]
theorem Ro.addr (hS : St B hs w) (hi : hs[i]? = some (Ro E A cr l)) (hl : 0 < l.length) : ∃ b o, A = some ⟨b, o, none⟩ := by
  obtain ⟨z, h, ⟨_, hr, _⟩, _, hz⟩ := hS.fact hi
  rcases hr with rfl | ⟨b, o, _, _, _, hA, _⟩
  · simp at hl
  · exact ⟨b, o, hA⟩
theorem Bf.addr {T' : TypeId} (hS : St B hs w) (hi : hs[i]? = some (Bf E T' A cap l)) (hl : 0 < l.length) : ∃ b, A = some ⟨b, 0, none⟩ := by
  obtain ⟨z, h, hr, _, hz⟩ := hS.fact hi
  rcases hr with ⟨_, _, rfl, _⟩ | ⟨b, _, _, hA, _⟩
  · simp at hl
  · exact ⟨b, hA⟩
theorem T.indexAny (cx : Cx P ops Q o Kn Kr kd) {j : Int} [hsl : SL P t e] [ht : TI P e size bytes agg zero] (ho : o.op = .indexAddr t x y) (hw : wants ops env o true) (hf : fits N o = true) (hx : ev env x = some (.slice A n cap)) (hy : ev env y = some (.int k j)) (h0 : 0 ≤ j) (h1 : j < (n : Int))
    (hA : ∀ w, St B hs w → ∃ b off, A = some ⟨b, off, none⟩)
    (h : T N D B (ptE o (ep A (j.toNat * size)) env) hs Kr) : T N D B env hs Kn :=
  T.valQ cx _ (hs' := hs) hw hf (fun a w h3 h4 => by
    obtain ⟨m, rfl⟩ := Int.eq_ofNat_of_zero_le h0
    obtain ⟨b, off, rfl⟩ := hA w h4
    refine ⟨fun w' => ?_, h4⟩
    have := run_indexAddr (P := P) (t := t) (off := off) (cap := cap) (k := k) (w := w') (size := size) (b := b) (e := e) (n := n) (j := m) (by omega)
    simp only [execOp, ho, h3.eval hx, h3.eval hy, Sem.run_bind, this, Result.andThen_ok, Sem.run_pure, ep_some, Int.toNat_natCast]) h
/-- The place of an element of a slice that is read. -/
theorem T.idxRo (cx : Cx P ops Q o Kn Kr kd) (i : Nat) {j : Int} [hsl : SL P t e] [ht : TI P e size bytes agg zero] (hi : hs[i]? = some (Ro E A cr l)) (ho : o.op = .indexAddr t x y) (hw : wants ops env o true) (hf : fits N o = true) (hx : ev env x = some (.slice A n cap)) (hy : ev env y = some (.int k j)) (h0 : 0 ≤ j) (h1 : j < (n : Int)) (hn : n ≤ l.length)
    (h : T N D B (ptE o (ep A (j.toNat * size)) env) hs Kr) : T N D B env hs Kn :=
  T.indexAny cx ho hw hf hx hy h0 h1 (fun w h4 => Ro.addr h4 hi (by omega)) h
theorem T.idxBf (cx : Cx P ops Q o Kn Kr kd) (i : Nat) {j : Int} {T' : TypeId} {cap' : Nat} [hsl : SL P t e] [ht : TI P e size bytes agg zero] (hi : hs[i]? = some (Bf E T' A cap' l)) (ho : o.op = .indexAddr t x y) (hw : wants ops env o true) (hf : fits N o = true) (hx : ev env x = some (.slice A n cap)) (hy : ev env y = some (.int k j)) (h0 : 0 ≤ j) (h1 : j < (n : Int)) (hn : n ≤ l.length)
    (h : T N D B (ptE o (ep A (j.toNat * size)) env) hs Kr) : T N D B env hs Kn :=
  T.indexAny cx ho hw hf hx hy h0 h1 (fun w h4 => let ⟨b, hb⟩ := Bf.addr h4 hi (by omega); ⟨b, 0, hb⟩) h

/-- What the cells behind an address say. -/
theorem rdRo [Inhabited α] (hS : St B hs w) (hi : hs[i]? = some (Ro E A cr l)) {j : Nat} (hj : j < l.length) :
    ∃ b off cs ty fr vs z, A = some ⟨b, off, none⟩ ∧ w.heap[b]? = some (.cells cs ty fr) ∧ E.E z (l.getD j default) vs ∧ (∀ q v, vs[q]? = some v → cs[off + j * E.sz + q]? = some v) ∧ PH.le z (PH.of w) := by
  obtain ⟨z, h, ⟨_, hr, _⟩, _, hz⟩ := hS.fact hi
  obtain ⟨b, off, cs, ty, fr, vs, hA, hb, hE, hv⟩ := hr.get (i := j) (x := l.getD j default) (by simp [List.getD_eq_getElem?_getD, hj])
  exact ⟨b, off, cs, ty, fr, vs, z, hA, hz b _ hb, hE, hv, hz⟩
theorem rdBf [Inhabited α] {T' : TypeId} (hS : St B hs w) (hi : hs[i]? = some (Bf E T' A cap l)) {j : Nat} (hj : j < l.length) :
    ∃ b off cs ty fr vs z, A = some ⟨b, off, none⟩ ∧ w.heap[b]? = some (.cells cs ty fr) ∧ E.E z (l.getD j default) vs ∧ (∀ q v, vs[q]? = some v → cs[off + j * E.sz + q]? = some v) ∧ PH.le z (PH.of w) := by
  obtain ⟨z, h, hr, hh, hz⟩ := hS.fact hi
  rcases hr with ⟨_, _, rfl, _⟩ | ⟨b, cs, sp, hA, hE, hl, hm, rfl⟩
  · simp at hj
  · obtain ⟨vs, h1, h2⟩ := hE.get (i := j) (x := l.getD j default) (by simp [List.getD_eq_getElem?_getD, hj])
    refine ⟨b, 0, _, _, _, vs, z, hA, hh b _ (PH.one_self _ _), h1, fun q v hq => ?_, hz⟩
    have := h2 q v hq
    rw [Nat.zero_add, List.getElem?_toArray, List.getElem?_append_left (List.getElem?_eq_some_iff.1 this).1]; exact this
/-- An element of one cell. -/
theorem T.ldSc (cx : Cx P ops Q o Kn Kr (kd + 1)) [Inhabited α] {enc : α → Value} {h1' : ∀ x, (enc x).oneCell' = true} {j : Int} [ht : TI P t 1 bytes false zero] (ho : o.op = .load t x) (hw : wants ops env o true) (hf : fits N o = true) (hx : ev env x = some (ep A (j.toNat * 1)))
    (hr : ∀ w, St B hs w → ∃ b off cs ty fr vs z, A = some ⟨b, off, none⟩ ∧ w.heap[b]? = some (.cells cs ty fr) ∧ (Elt.sc enc h1').E z (l.getD j.toNat default) vs ∧ (∀ q v, vs[q]? = some v → cs[off + j.toNat * 1 + q]? = some v) ∧ PH.le z (PH.of w))
    (h : T N D B (ptE o (enc (l.getD j.toNat default)) env) hs Kr) : T N D B env hs Kn :=
  T.val cx _ hw hf (fun a w h3 h4 => by
    obtain ⟨b, off, cs, ty, fr, vs, z, rfl, hb, hE, hv, _⟩ := hr w h4
    have hE : vs = [enc (l.getD j.toNat default)] := hE
    subst hE
    have hc := hv 0 _ rfl
    have := run_load1 (P := P) (w := w) (off := off + j.toNat * 1) (v := enc (l.getD j.toNat default)) ht hb (by simpa using hc)
    simp only [execOp, ho, h3.eval hx, ep_some, Sem.run_bind, this, Result.andThen_ok, Sem.run_pure]) h
theorem T.ldRo1 (cx : Cx P ops Q o Kn Kr (kd + 1)) [Inhabited α] (i : Nat) {enc : α → Value} {h1' : ∀ x, (enc x).oneCell' = true} {j : Int} [ht : TI P t 1 bytes false zero] (hi : hs[i]? = some (Ro (Elt.sc enc h1') A cr l)) (ho : o.op = .load t x) (hw : wants ops env o true) (hf : fits N o = true) (hx : ev env x = some (ep A (j.toNat * 1))) (h0 : 0 ≤ j) (hj : j < (l.length : Int))
    (h : T N D B (ptE o (enc (l.getD j.toNat default)) env) hs Kr) : T N D B env hs Kn :=
  T.ldSc cx (l := l) ho hw hf hx (fun w h4 => rdRo h4 hi (by omega)) h
theorem T.ldBf1 (cx : Cx P ops Q o Kn Kr (kd + 1)) [Inhabited α] (i : Nat) {enc : α → Value} {h1' : ∀ x, (enc x).oneCell' = true} {j : Int} {T' : TypeId} [ht : TI P t 1 bytes false zero] (hi : hs[i]? = some (Bf (Elt.sc enc h1') T' A cap l)) (ho : o.op = .load t x) (hw : wants ops env o true) (hf : fits N o = true) (hx : ev env x = some (ep A (j.toNat * 1))) (h0 : 0 ≤ j) (hj : j < (l.length : Int))
    (h : T N D B (ptE o (enc (l.getD j.toNat default)) env) hs Kr) : T N D B env hs Kn :=
  T.ldSc cx (l := l) ho hw hf hx (fun w h4 => rdBf h4 hi (by omega)) h
end
end Go.Proofs.YtpogdeibkghhaaaDoor
