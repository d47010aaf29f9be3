/- What came in, read as it lies. -/
import Derived.Test.YtfdogeebkbaadaaRules2
import Derived.WideShapes
import Derived.ChangeSlices
import Derived.ChangeShapes
import Derived.Carry
set_option linter.unusedVariables false
set_option linter.unusedSimpArgs false
namespace Go.Proofs.Ytfdogeebkbaadaa
open Go.RowKit Go.WideShapes Go.ChangeShapes

/-- Cells that are read as type t say a thing of E. -/
def Opn {α : Type} (P : Program) (t : TypeId) (E : Elt α) : Prop :=
  ∀ (H : Type) (enc : TypeId × Value → H) (W : World) (base : Nat) (sp : Nat → Bool) (held : Bool) (fuel : Nat) (cs : List Value) (x : DataW H × List MemPlace), DataW.trod enc P W base sp held fuel t cs = some x → ∃ a, E.E (PH.of W) a cs

/-- An integer, within its kind. -/
def EI (k : IntKind) : Elt Int := ⟨1, fun _ x vs => vs = [.int k x] ∧ (Lit.int k x).wf = true, fun _ _ _ h => by rw [h.1]; rfl, fun _ _ _ _ _ h => h, fun _ x vs h v hv => by rw [h.1] at hv; simp at hv; rw [hv]; rfl⟩
def EB : Elt Bool := Elt.sc Value.bool (fun _ => rfl)
/-- A string. -/
def ES : Elt ByteArray := ⟨1, fun _ x vs => vs = [.string x] ∧ x.size ≤ maxLen, fun _ _ _ h => by rw [h.1]; rfl, fun _ _ _ _ _ h => h, fun _ x vs h v hv => by rw [h.1] at hv; simp at hv; rw [hv]; rfl⟩

theorem opn_int {P : Program} {t : TypeId} {k : IntKind} (ht : P.underlying t = some (.int k)) : Opn P t (EI k) := by
  intro H enc W base sp held fuel cs x h
  cases fuel with
  | zero => simp [DataW.trod] at h
  | succ n =>
    unfold DataW.trod at h
    rw [ht] at h
    split at h <;> simp_all
    obtain ⟨⟨rfl, h1⟩, _⟩ := h
    exact ⟨_, rfl, h1⟩
theorem opn_bool {P : Program} {t : TypeId} (ht : P.underlying t = some .bool) : Opn P t EB := by
  intro H enc W base sp held fuel cs x h
  cases fuel with
  | zero => simp [DataW.trod] at h
  | succ n =>
    unfold DataW.trod at h
    rw [ht] at h
    split at h <;> simp_all
    rename_i b
    cases b
    · exact .inl rfl
    · exact .inr rfl
theorem opn_string {P : Program} {t : TypeId} (ht : P.underlying t = some .string) : Opn P t ES := by
  intro H enc W base sp held fuel cs x h
  cases fuel with
  | zero => simp [DataW.trod] at h
  | succ n =>
    unfold DataW.trod at h
    rw [ht] at h
    split at h <;> simp_all
    exact ⟨_, rfl, h.1⟩
theorem opn_u8 {P : Program} {t : TypeId} (ht : P.underlying t = some (.int .u8)) : Opn P t E8 := by
  intro H enc W base sp held fuel cs x h
  obtain ⟨a, rfl, hw⟩ := opn_int ht H enc W base sp held fuel cs x h
  have hb : 0 ≤ a ∧ a < 256 := by
    have := hw
    simp only [Lit.wf, show IntKind.u8.min = 0 from rfl, show IntKind.u8.max = 255 from rfl, Bool.and_eq_true, decide_eq_true_eq] at this
    omega
  refine ⟨UInt8.ofNat a.toNat, ?_⟩
  show [_] = [b8 _]
  simp only [b8, UInt8.toNat_ofNat']
  congr 2
  omega

theorem chop {α : Type} {f : Nat → Option α} : ∀ {n : Nat}, (∀ i, i < n → ∃ x, f i = some x) → ∃ l : List α, l.length = n ∧ ∀ i, i < n → f i = l[i]? := by
  intro n
  induction n with
  | zero => intro _; exact ⟨[], rfl, fun i hi => by omega⟩
  | succ n ih =>
    intro h
    obtain ⟨l, hl, hf⟩ := ih (fun i hi => h i (by omega))
    obtain ⟨x, hx⟩ := h n (by omega)
    refine ⟨l ++ [x], by simp [hl], fun i hi => ?_⟩
    by_cases e : i = n
    · subst e; rw [hx, ← hl]; simp
    · rw [hf i (by omega), List.getElem?_append_left (by omega)]

/-- A slice of what may be read. -/
theorem opn_slice {α : Type} {P : Program} {t e : TypeId} {E : Elt α} (ht : P.underlying t = some (.slice e)) (hc : P.cellsOf e = E.sz) (hpos : 0 < E.sz) (he : Opn P e E) : Opn P t (Elt.slice E) := by
  intro H enc W base sp held fuel cs x h
  rcases DataW.trod_slice ht h with ⟨rfl, _⟩ | ⟨a, len, cap, elems, rest, n, _, rfl, _, hb, hl, hm, hlen, hel, _, _⟩
  · exact ⟨[], none, 0, rfl, Nat.le_refl _, .inl rfl⟩
  have each : ∀ i, i < len → ∃ y vs, W.cells? base (a.add (i * E.sz)) E.sz = some vs ∧ E.E (PH.of W) y vs := by
    intro i hi
    have h1 := hel i hi
    rw [hc, List.getElem?_eq_getElem (by omega)] at h1
    simp only [Option.bind_eq_some_iff] at h1
    obtain ⟨vs, hvs, hy⟩ := h1
    obtain ⟨y, hy⟩ := he H enc W base sp held n vs _ hy
    exact ⟨y, vs, hvs, hy⟩
  obtain ⟨l, hll, hlf⟩ := chop (f := fun i => if h : i < len then some (Classical.choose (each i h)) else none) (n := len) (fun i hi => ⟨Classical.choose (each i hi), by simp [hi]⟩)
  have sp : ∀ i y, l[i]? = some y → ∃ vs, W.cells? base (a.add (i * E.sz)) E.sz = some vs ∧ E.E (PH.of W) y vs := by
    intro i y hy
    have hi : i < len := by rw [← hll]; exact (List.getElem?_eq_some_iff.1 hy).1
    have := hlf i hi
    simp only [hi, dite_true] at this
    rw [hy] at this
    cases this
    exact Classical.choose_spec (each i hi)
  refine ⟨l, some a, cap, by rw [hll], by omega, ?_⟩
  by_cases h0 : l = []
  · exact .inl h0
  right
  obtain ⟨b, off, spot⟩ := a
  have hcell : ∀ i y, l[i]? = some y → ∃ vs, E.E (PH.of W) y vs ∧ ∀ j v, vs[j]? = some v → W.cell? ((Addr.add ⟨b, off, spot⟩ (i * E.sz)).add j) = some v := by
    intro i y hy
    obtain ⟨vs, hv, hE⟩ := sp i y hy
    refine ⟨vs, hE, fun j v hj => ?_⟩
    have hjl : j < E.sz := by rw [← E.len _ _ _ hE]; exact (List.getElem?_eq_some_iff.1 hj).1
    rw [(World.cells?_some hv).2.2 j hjl, hj]
  have hne : 0 < l.length := List.length_pos_iff.2 h0
  obtain ⟨vs0, hE0, hv0⟩ := hcell 0 l[0] (by simp [hne])
  have hvl := E.len _ _ _ hE0
  have c0 := hv0 0 vs0[0] (by simp [hvl, hpos])
  have hspot : spot = none := by
    have := World.cell?_spot c0
    simpa [Addr.add] using this
  subst hspot
  have hadd : ∀ i j, ((Addr.add ⟨b, off, none⟩ (i * E.sz)).add j) = ⟨b, off + i * E.sz + j, none⟩ := fun i j => by rw [Addr.add_mid, Addr.add_mid]
  rw [hadd] at c0
  have hblk : ∃ cs' ty fr, W.heap[b]? = some (.cells cs' ty fr) := by
    simp only [World.cell?] at c0
    cases hb : W.heap[b]? with
    | none => simp [hb] at c0
    | some o => cases o with
      | cells cs ty fr => exact ⟨cs, ty, fr, rfl⟩
      | _ => simp [hb] at c0
  obtain ⟨cs', ty, fr, hblk⟩ := hblk
  refine ⟨b, off, cs', ty, fr, rfl, hblk, fun i y hy => ?_⟩
  obtain ⟨vs, hE, hv⟩ := hcell i y hy
  refine ⟨vs, hE, fun j v hj => ?_⟩
  have := hv j v hj
  rw [hadd] at this
  simpa [World.cell?, hblk] using this

/-- A run of fields, from cell o on. -/
def OpnF {α : Type} (P : Program) (fs : List Field) (o : Nat) (E : Elt α) : Prop :=
  ∀ (H : Type) (enc : TypeId × Value → H) (W : World) (base : Nat) (sp : Nat → Bool) (held : Bool) (n : Nat) (cs : List Value), (∀ f ∈ fs, ∃ y, DataW.trod enc P W base sp held n f.type ((cs.drop f.offset).take (P.cellsOf f.type)) = some y) → ∃ a, E.E (PH.of W) a ((cs.drop o).take E.sz)
theorem OpnF.one {α : Type} {P : Program} {f : Field} {o : Nat} {E : Elt α} (ho : f.offset = o) (hc : P.cellsOf f.type = E.sz) (he : Opn P f.type E) : OpnF P [f] o E := by
  intro H enc W base sp held n cs h
  obtain ⟨y, hy⟩ := h f (by simp)
  rw [ho, hc] at hy
  exact he _ _ _ _ _ _ _ _ _ hy
theorem OpnF.cons {α β : Type} {P : Program} {f : Field} {fs : List Field} {o : Nat} {E : Elt α} {F : Elt β} (ho : f.offset = o) (hc : P.cellsOf f.type = E.sz) (he : Opn P f.type E) (hf : OpnF P fs (o + E.sz) F) : OpnF P (f :: fs) o (Elt.pair E F) := by
  intro H enc W base sp held n cs h
  obtain ⟨y, hy⟩ := h f (by simp)
  rw [ho, hc] at hy
  obtain ⟨a, ha⟩ := he _ _ _ _ _ _ _ _ _ hy
  obtain ⟨b, hb⟩ := hf H enc W base sp held n cs (fun g hg => h g (by simp [hg]))
  refine ⟨(a, b), _, _, ?_, ha, hb⟩
  show (cs.drop o).take (E.sz + F.sz) = _
  rw [List.take_add, List.drop_drop]
theorem OpnF.struct {α : Type} {P : Program} {t : TypeId} {fs : Array Field} {E : Elt α} (ht : P.underlying t = some (.struct fs)) (hc : P.cellsOf t = E.sz) (h : OpnF P fs.toList 0 E) : Opn P t E := by
  intro H enc W base sp held fuel cs x hx
  cases fuel with
  | zero => simp [DataW.trod] at hx
  | succ n =>
    unfold DataW.trod at hx
    simp only [ht] at hx
    split at hx
    · rename_i hlen
      simp only [Option.map_eq_some_iff] at hx
      obtain ⟨xs, hxs, _⟩ := hx
      obtain ⟨a, ha⟩ := h H enc W base sp held n cs (fun f hf => by
        obtain ⟨i, hi, rfl⟩ := List.getElem_of_mem hf
        have := mapM_some_get hxs i fs.toList[i] (by simp [hi])
        have hl := mapM_some_length hxs
        rw [List.getElem?_eq_getElem (by omega)] at this
        exact ⟨_, this⟩)
      rw [hlen.trans hc |>.symm] at ha
      exact ⟨a, by simpa using ha⟩
    · cases hx
theorem Opn.iso {α β : Type} {P : Program} {t : TypeId} {E : Elt α} (f : β → α) (g : α → β) (hfg : ∀ a, f (g a) = a) (h : Opn P t E) : Opn P t (E.iso f) := by
  intro H enc W base sp held fuel cs x hx
  obtain ⟨a, ha⟩ := h _ _ _ _ _ _ _ _ _ hx
  exact ⟨g a, by show E.E _ (f (g a)) _; rw [hfg]; exact ha⟩

theorem roOf_start (W : World) : PH.le (PH.of W) (roOf W PH.emp) := fun b o h => h
/-- An argument that is a slice. -/
theorem arg_slice {H : Type} {enc : TypeId × Value → H} {α : Type} {P : Program} {t e : TypeId} {E : Elt α} {W : World} {r : Reach} {b0 : Nat} {v : Value} {d : DataW H} {p : List MemPlace} (ht : P.underlying t = some (.slice e)) (hv : Value.okWide P W r b0 t v)
    (h : DataW.Trod enc P W 0 (fun _ => true) true t v d p) (ho : Opn P t (Elt.slice E)) : ∃ A c l, v = .slice A l.length c ∧ l.length ≤ c ∧ Rd E (PH.of W) A l := by
  obtain ⟨a, len, cap, rfl⟩ := okWide_slice ht hv
  obtain ⟨fuel, hf⟩ := h
  obtain ⟨l, A, c, h1, h2, h3⟩ := ho _ _ _ _ _ _ _ _ _ hf
  simp only [Value.cells, List.cons.injEq, and_true] at h1
  exact ⟨A, c, l, h1, h2, h3⟩
end Go.Proofs.Ytfdogeebkbaadaa
