/- What came in, read as it lies: by kind, with its bounds and its bulk. -/
import Derived.Test.YtpogdeibkghhaaaDoorText
import Derived.Test.YtpogdeibkghhaaaDoorRows
import Derived.WideShapes
import Derived.ChangeSlices
import Derived.ChangeShapes
import Derived.ChangeMaps5
import Derived.Carry
set_option linter.unusedVariables false
set_option linter.unusedSimpArgs false
namespace Go.Proofs.YtpogdeibkghhaaaDoor
open Go.RowKit Go.WideShapes Go.ChangeShapes

theorem bulk_lit {H : Type} (l : Lit) : 1 ≤ Rows.uptoBulk (.lit l : DataW H) := by
  cases l <;> simp [Rows.uptoBulk]
theorem bulk_pos {H : Type} (d : DataW H) : 1 ≤ Rows.uptoBulk d := by
  cases d with
  | lit l => exact bulk_lit l
  | _ => simp [Rows.uptoBulk]
/-- Cells that are read as type t say a thing of E, within G, of no more weight than its bulk. -/
def Opn {α : Type} (P : Program) (t : TypeId) (E : Elt α) (G : α → Prop) (wt : α → Nat) : Prop :=
  ∀ (H : Type) (enc : TypeId × Value → H) (W : World) (base : Nat) (sp : Nat → Bool) (held : Bool) (fuel : Nat) (cs : List Value) (x : DataW H × List MemPlace), DataW.trod enc P W base sp held fuel t cs = some x → ∃ a, E.E (PH.of W) a cs ∧ G a ∧ wt a ≤ Rows.uptoBulk x.1
theorem trod_int' {P : Program} {t : TypeId} {k : IntKind} (ht : P.underlying t = some (.int k)) {H : Type} {enc : TypeId × Value → H} {W : World} {base : Nat} {sp : Nat → Bool} {held : Bool} {fuel : Nat} {cs : List Value} {x : DataW H × List MemPlace} (h : DataW.trod enc P W base sp held fuel t cs = some x) :
    ∃ n, cs = [.int k n] ∧ (Lit.int k n).wf = true := by
  obtain ⟨n, h1, _, h2⟩ := DataW.trod_int ht h
  exact ⟨n, h1, h2⟩
theorem opn_int {P : Program} {t : TypeId} {k : IntKind} (h1 : ∀ x, (Value.int k x).oneCell' = true) (ht : P.underlying t = some (.int k)) : Opn P t (Elt.sc (Value.int k) h1) (fun n => k.min ≤ n ∧ n ≤ k.max) (fun _ => 1) := by
  intro H enc W base sp held fuel cs x h
  obtain ⟨n, rfl, hw⟩ := trod_int' ht h
  exact ⟨n, rfl, by simpa [Lit.wf] using hw, bulk_pos _⟩
theorem opn_bool {P : Program} {t : TypeId} (ht : P.underlying t = some .bool) : Opn P t EBool (fun _ => True) (fun _ => 1) := by
  intro H enc W base sp held fuel cs x h
  obtain ⟨b, rfl, _⟩ : ∃ b, cs = [.bool b] ∧ True := by
    cases fuel with
    | zero => simp [DataW.trod] at h
    | succ n =>
      unfold DataW.trod at h
      rw [ht] at h
      split at h <;> simp_all
  exact ⟨b, rfl, trivial, bulk_pos _⟩
theorem str_of (s : ByteArray) : Value.string s = str s.data.toList := by unfold str; congr 1
theorem opn_string {P : Program} {t : TypeId} (ht : P.underlying t = some .string) : Opn P t EStr (fun l => l.length ≤ maxLen) (fun l => l.length + 1) := by
  intro H enc W base sp held fuel cs x h
  obtain ⟨s, h1, h2, h3⟩ := DataW.trod_string ht h
  refine ⟨s.data.toList, by rw [h1, str_of]; rfl, by simpa using h3, ?_⟩
  rw [h2]; simp [Rows.uptoBulk]

theorem chop {α : Type} {f : Nat → Option α} : ∀ {n : Nat}, (∀ i, i < n → ∃ x, f i = some x) → ∃ l : List α, l.length = n ∧ ∀ i, i < n → f i = l[i]? := by
  intro n
  induction n with
  | zero => intro _; exact ⟨[], rfl, fun i hi => by omega⟩
  | succ n ih =>
    intro h
    obtain ⟨l, hl, hf⟩ := ih (fun i hi => h i (by omega))
    obtain ⟨x, hx⟩ := h n (by omega)
    refine ⟨l ++ [x], by simp [hl], fun i hi => ?_⟩
    by_cases e : i = n
    · subst e; rw [hx, ← hl]; simp
    · rw [hf i (by omega), List.getElem?_append_left (by omega)]
/-- The weight of a list. -/
def wtl {α : Type} (wt : α → Nat) (l : List α) : Nat := (l.map wt).sum + 1
theorem wt_all {α H : Type} {wt : α → Nat} : ∀ {l : List α} {ds : List (DataW H)}, l.length = ds.length → (∀ (i : Nat) (a : α) (d : DataW H), l[i]? = some a → ds[i]? = some d → wt a ≤ Rows.uptoBulk d) → (l.map wt).sum ≤ Rows.uptoBulkAll ds
  | [], [], _, _ => by simp
  | [], _ :: _, h, _ => by simp at h
  | _ :: _, [], h, _ => by simp at h
  | a :: l, d :: ds, h, hh => by
    have h1 := hh 0 a d rfl rfl
    have h2 := wt_all (l := l) (ds := ds) (by simpa using h) (fun i a d ha hd => hh (i + 1) a d (by simpa using ha) (by simpa using hd))
    simp only [List.map_cons, List.sum_cons, Rows.uptoBulkAll]
    omega
theorem wtl_len {α : Type} {wt : α → Nat} (h : ∀ a, 1 ≤ wt a) : ∀ l : List α, l.length ≤ wtl wt l
  | [] => by simp [wtl]
  | a :: l => by
    have := wtl_len h l
    have := h a
    simp only [wtl, List.map_cons, List.sum_cons, List.length_cons] at *
    omega
/-- A slice of what may be read. -/
theorem opn_slice {α : Type} {P : Program} {t e : TypeId} {E : Elt α} {G : α → Prop} {wt : α → Nat} (ht : P.underlying t = some (.slice e)) (hc : P.cellsOf e = E.sz) (hpos : 0 < E.sz) (he : Opn P e E G wt) : Opn P t (Elt.slice E) (fun l => l.length ≤ maxLen ∧ ∀ a ∈ l, G a) (wtl wt) := by
  intro H enc W base sp held fuel cs x h
  rcases DataW.trod_slice ht h with ⟨rfl, hx⟩ | ⟨a, len, cap, elems, rest, n, _, rfl, hx, hb, hl, hm, hlen, hel, _, _⟩
  · exact ⟨[], ⟨none, 0, rfl, Nat.le_refl _, .inl rfl⟩, ⟨by simp, by simp⟩, by simp [wtl]; exact bulk_pos _⟩
  have each : ∀ i, i < len → ∃ y vs, W.cells? base (a.add (i * E.sz)) E.sz = some vs ∧ E.E (PH.of W) y vs ∧ G y ∧ ∀ e, elems[i]? = some e → wt y ≤ Rows.uptoBulk e.1 := by
    intro i hi
    have h1 := hel i hi
    rw [hc, List.getElem?_eq_getElem (by omega)] at h1
    simp only [Option.bind_eq_some_iff] at h1
    obtain ⟨vs, hvs, hy⟩ := h1
    obtain ⟨y, hy, hG, hwt⟩ := he H enc W base sp held n vs _ hy
    refine ⟨y, vs, hvs, hy, hG, fun e he => ?_⟩
    rw [List.getElem?_eq_getElem (by omega)] at he
    cases he; exact hwt
  obtain ⟨l, hll, hlf⟩ := chop (f := fun i => if h : i < len then some (Classical.choose (each i h)) else none) (n := len) (fun i hi => ⟨Classical.choose (each i hi), by simp [hi]⟩)
  have sp : ∀ i y, l[i]? = some y → ∃ vs, W.cells? base (a.add (i * E.sz)) E.sz = some vs ∧ E.E (PH.of W) y vs ∧ G y ∧ ∀ e, elems[i]? = some e → wt y ≤ Rows.uptoBulk e.1 := by
    intro i y hy
    have hi : i < len := by rw [← hll]; exact (List.getElem?_eq_some_iff.1 hy).1
    have := hlf i hi
    simp only [hi, dite_true] at this
    rw [hy] at this
    cases this
    exact Classical.choose_spec (each i hi)
  have hG : ∀ y ∈ l, G y := fun y hy => by
    obtain ⟨i, hi⟩ := List.mem_iff_getElem?.1 hy
    obtain ⟨_, _, _, h, _⟩ := sp i y hi
    exact h
  have hwt : wtl wt l ≤ Rows.uptoBulk x.1 := by
    rw [hx]
    have : (l.map wt).sum ≤ Rows.uptoBulkAll (elems.map (·.1)) := wt_all (by simp; omega) (fun i y d hy hd => by
      obtain ⟨_, _, _, _, h⟩ := sp i y hy
      rw [List.getElem?_map] at hd
      cases he : elems[i]? with
      | none => rw [he] at hd; cases hd
      | some e => rw [he] at hd; cases hd; exact h e he)
    simp only [wtl, Rows.uptoBulk]
    omega
  refine ⟨l, ⟨some a, cap, by rw [hll], by omega, ?_⟩, ⟨by rw [hll]; exact Nat.le_trans hl hm, hG⟩, hwt⟩
  by_cases h0 : l = []
  · exact .inl h0
  right
  obtain ⟨b, off, spot⟩ := a
  have hcell : ∀ i y, l[i]? = some y → ∃ vs, E.E (PH.of W) y vs ∧ ∀ j v, vs[j]? = some v → W.cell? ((Addr.add ⟨b, off, spot⟩ (i * E.sz)).add j) = some v := by
    intro i y hy
    obtain ⟨vs, hv, hE, _⟩ := sp i y hy
    refine ⟨vs, hE, fun j v hj => ?_⟩
    have hjl : j < E.sz := by rw [← E.len _ _ _ hE]; exact (List.getElem?_eq_some_iff.1 hj).1
    rw [(World.cells?_some hv).2.2 j hjl, hj]
  have hne : 0 < l.length := List.length_pos_iff.2 h0
  obtain ⟨vs0, hE0, hv0⟩ := hcell 0 l[0] (by simp [hne])
  have hvl := E.len _ _ _ hE0
  have c0 := hv0 0 vs0[0] (by simp [hvl, hpos])
  have hspot : spot = none := by
    have := World.cell?_spot c0
    simpa [Addr.add] using this
  subst hspot
  have hadd : ∀ i j, ((Addr.add ⟨b, off, none⟩ (i * E.sz)).add j) = ⟨b, off + i * E.sz + j, none⟩ := fun i j => by rw [Addr.add_mid, Addr.add_mid]
  rw [hadd] at c0
  have hblk : ∃ cs' ty fr, W.heap[b]? = some (.cells cs' ty fr) := by
    simp only [World.cell?] at c0
    cases hb : W.heap[b]? with
    | none => simp [hb] at c0
    | some o => cases o with
      | cells cs ty fr => exact ⟨cs, ty, fr, rfl⟩
      | _ => simp [hb] at c0
  obtain ⟨cs', ty, fr, hblk⟩ := hblk
  refine ⟨b, off, cs', ty, fr, rfl, hblk, fun i y hy => ?_⟩
  obtain ⟨vs, hE, hv⟩ := hcell i y hy
  refine ⟨vs, hE, fun j v hj => ?_⟩
  have := hv j v hj
  rw [hadd] at this
  simpa [World.cell?, hblk] using this

/-- A run of fields, from cell o on. -/
def OpnF {α : Type} (P : Program) (fs : List (TypeId × Nat)) (o : Nat) (E : Elt α) (G : α → Prop) (wt : α → Nat) : Prop :=
  ∀ (H : Type) (enc : TypeId × Value → H) (W : World) (base : Nat) (sp : Nat → Bool) (held : Bool) (n : Nat) (cs : List Value) (ys : List (DataW H × List MemPlace)), ys.length = fs.length → (∀ (i : Nat) (f : TypeId × Nat) (y : DataW H × List MemPlace), fs[i]? = some f → ys[i]? = some y → DataW.trod enc P W base sp held n f.1 ((cs.drop f.2).take (P.cellsOf f.1)) = some y) → ∃ a, E.E (PH.of W) a ((cs.drop o).take E.sz) ∧ G a ∧ wt a ≤ Rows.uptoBulkAll (ys.map (·.1))
theorem OpnF.one {α : Type} {P : Program} {f : TypeId} {o : Nat} {E : Elt α} {G : α → Prop} {wt : α → Nat} (hc : P.cellsOf f = E.sz) (he : Opn P f E G wt) : OpnF P [(f, o)] o E G wt := by
  intro H enc W base sp held n cs ys hl h
  obtain ⟨y, rfl⟩ : ∃ y, ys = [y] := by
    match ys, hl with
    | [y], _ => exact ⟨y, rfl⟩
  have hy := h 0 (f, o) y rfl rfl
  simp only [hc] at hy
  obtain ⟨a, h1, h2, h3⟩ := he _ _ _ _ _ _ _ _ _ hy
  exact ⟨a, h1, h2, by simpa [Rows.uptoBulkAll] using h3⟩
theorem OpnF.cons {α β : Type} {P : Program} {f : TypeId} {fs : List (TypeId × Nat)} {o : Nat} {E : Elt α} {F : Elt β} {G : α → Prop} {K : β → Prop} {wt : α → Nat} {ut : β → Nat} (hc : P.cellsOf f = E.sz) (he : Opn P f E G wt) (hf : OpnF P fs (o + E.sz) F K ut) : OpnF P ((f, o) :: fs) o (Elt.pair E F) (fun x => G x.1 ∧ K x.2) (fun x => wt x.1 + ut x.2) := by
  intro H enc W base sp held n cs ys hl h
  obtain ⟨y, ys, rfl⟩ : ∃ y zs, ys = y :: zs := by
    match ys, hl with
    | y :: zs, _ => exact ⟨y, zs, rfl⟩
  have hy := h 0 (f, o) y rfl rfl
  simp only [hc] at hy
  obtain ⟨a, ha, hG, hw⟩ := he _ _ _ _ _ _ _ _ _ hy
  obtain ⟨b, hb, hK, hu⟩ := hf H enc W base sp held n cs ys (by simpa using hl) (fun i g y hg hy => h (i + 1) g y (by simpa using hg) (by simpa using hy))
  refine ⟨(a, b), ⟨_, _, ?_, ha, hb⟩, ⟨hG, hK⟩, ?_⟩
  · show (cs.drop o).take (E.sz + F.sz) = _
    rw [List.take_add, List.drop_drop]
  · simp only [List.map_cons, Rows.uptoBulkAll]; omega
theorem OpnF.struct {α : Type} {P : Program} {t : TypeId} {fs : List (TypeId × Nat)} {E : Elt α} {G : α → Prop} {wt : α → Nat} [hsf : SF P t fs] (hc : P.cellsOf t = E.sz) (h : OpnF P fs 0 E G wt) : Opn P t E G (fun a => wt a + 1) := by
  intro H enc W base sp held fuel cs x hx
  have ht := hsf.eq
  split at ht
  · rename_i arr ht'
    cases ht
    cases fuel with
    | zero => simp [DataW.trod] at hx
    | succ n =>
      unfold DataW.trod at hx
      simp only [ht'] at hx
      split at hx
      · rename_i hlen
        simp only [Option.map_eq_some_iff] at hx
        obtain ⟨xs, hxs, hx⟩ := hx
        have hl := mapM_some_length hxs
        obtain ⟨a, ha, hG, hw⟩ := h H enc W base sp held n cs xs (by simpa using hl) (fun i f y hf hy => by
          rw [List.getElem?_map, Option.map_eq_some_iff] at hf
          obtain ⟨g, hg, rfl⟩ := hf
          have := mapM_some_get hxs i g hg
          rw [hy] at this
          exact this)
        rw [hlen.trans hc |>.symm] at ha
        refine ⟨a, by simpa using ha, hG, ?_⟩
        rw [← hx]
        simp only [Rows.uptoBulk]
        omega
      · cases hx
  · cases ht
/-- An argument that is a struct: its cells by what is not told of it, and what they lead to. -/
theorem arg_st {H : Type} {enc : TypeId × Value → H} {α : Type} {P : Program} {t : TypeId} {E : Elt α} {G : α → Prop} {wt : α → Nat} {W : World} {r : Reach} {b0 : Nat} {v : Value} {d : DataW H} {p : List MemPlace} {fs : List (TypeId × Nat)} (sh : Sh E) [hsf : SF P t fs] (hv : Value.okWide P W r b0 t v)
    (h : DataW.Trod enc P W 0 (fun _ => true) true t v d p) (ho : Opn P t E G wt) : ∃ x e, v = .agg (sh.cells x e).toArray ∧ (∀ m ∈ sh.ch x e, m.p (PH.of W) PH.emp) ∧ G x ∧ wt x ≤ Rows.uptoBulk d := by
  have ht := hsf.eq
  split at ht
  · rename_i arr ht'
    obtain ⟨cs, rfl, _⟩ := okWide_struct ht' hv
    obtain ⟨fuel, hf⟩ := h
    obtain ⟨x, hE, hG, hw⟩ := ho _ _ _ _ _ _ _ _ _ hf
    obtain ⟨e, h1, h2⟩ := sh.op _ _ _ hE
    refine ⟨x, e, ?_, h2, hG, hw⟩
    rw [← h1]
    simp [Value.cells]
  · cases ht
theorem St.args {B w : World} {hs l : List MP} (hS : St B hs w) (h : ∀ m ∈ l, m.p (PH.of B) PH.emp) : St B (l ++ hs) w := by
  obtain ⟨z, g, hp, hd, hz, hg, hB, hr⟩ := hS
  exact ⟨z, g, hp.adds (fun m hm => m.mono hB (h m hm)), hd, hz, hg, hB, hr⟩
theorem bulk_args {H : Type} {ds : List (DataW H)} (h : (Rows.uptoSmall H ds) = true) : Rows.uptoBulkAll ds ≤ 1048576 := by
  simpa [Rows.uptoSmall] using h
theorem room_cons {H : Type} {P : Program} {t : TypeId} {ts : List TypeId} {d : DataW H} {ds : List (DataW H)} (h : (DataW.weightsEach P (t :: ts) (d :: ds)).all (· ≤ reachBytes) = true) : (d.weights P t).all (· ≤ reachBytes) = true ∧ (DataW.weightsEach P ts ds).all (· ≤ reachBytes) = true := by
  unfold DataW.weightsEach at h
  rw [List.all_append, Bool.and_eq_true] at h
  exact h
end Go.Proofs.YtpogdeibkghhaaaDoor
