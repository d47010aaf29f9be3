/- The operations that touch memory, as rules over what is one's own. -/
import Derived.Test.YtfdogeebkbaadaaSep
import Derived.Deep.OwnRows
import Derived.Laws.CopyOwn
import Derived.Deep.AppendSrc
set_option linter.unusedVariables false
set_option linter.unusedSimpArgs false
namespace Go.Proofs.Ytfdogeebkbaadaa
open Go.RowKit

theorem int_max2 (k k' : IntKind) (x y : Int) : Builtin.max2 (.int k x) (.int k' y) = pure (.int k (max x y)) := by
  simp only [Builtin.max2, gt_iff_lt, Int.max_def]
  congr 2
  split <;> split <;> omega
theorem int_min2 (k k' : IntKind) (x y : Int) : Builtin.min2 (.int k x) (.int k' y) = pure (.int k (min x y)) := by
  simp only [Builtin.min2, Int.min_def]
  congr 2
  split <;> split <;> omega
theorem of_max2 (ats : Array TypeId) (ty : TypeId) (a b : Value) : Builtin.max_ ats ty #[a, b] = (Builtin.max2 a b >>= fun s => pure s) := by simp only [Builtin.max_, List.foldlM_cons, List.foldlM_nil]
theorem of_min2 (ats : Array TypeId) (ty : TypeId) (a b : Value) : Builtin.min_ ats ty #[a, b] = (Builtin.min2 a b >>= fun s => pure s) := by simp only [Builtin.min_, List.foldlM_cons, List.foldlM_nil]
theorem of_max3 (ats : Array TypeId) (ty : TypeId) (a b c : Value) : Builtin.max_ ats ty #[a, b, c] = (Builtin.max2 a b >>= fun s => Builtin.max2 s c >>= fun s => pure s) := by simp only [Builtin.max_, List.foldlM_cons, List.foldlM_nil]
theorem of_min3 (ats : Array TypeId) (ty : TypeId) (a b c : Value) : Builtin.min_ ats ty #[a, b, c] = (Builtin.min2 a b >>= fun s => Builtin.min2 s c >>= fun s => pure s) := by simp only [Builtin.min_, List.foldlM_cons, List.foldlM_nil]
theorem of_min4 (ats : Array TypeId) (ty : TypeId) (a b c d : Value) : Builtin.min_ ats ty #[a, b, c, d] = (Builtin.min2 a b >>= fun s => Builtin.min2 s c >>= fun s => Builtin.min2 s d >>= fun s => pure s) := by simp only [Builtin.min_, List.foldlM_cons, List.foldlM_nil]
attribute [go_sem] int_max2 int_min2 of_max2 of_min2 of_max3 of_min3 of_min4

/-- What the program's table says of a type. -/
class TI (P : Program) (T : TypeId) (size bytes : outParam Nat) (agg : outParam Bool) (zero : outParam Value) : Prop where
  info : (P.info? T).map (fun i => (i.zero, i.size, i.bytes)) = some (some zero, size, bytes)
  row : (P.underlying T).map TypeDesc.isRow = some agg
  zsize : zero.cells.size = size
/-- Where a field lies. -/
class FLD (P : Program) (T : TypeId) (f : Nat) (off : outParam Nat) : Prop where
  eq : ∀ (w : World) (b o : Nat), (Instr.fieldAt T (.pointer (some ⟨b, o, none⟩)) f).run P w = .ok (.pointer (some ⟨b, o + off, none⟩)) w
class SL (P : Program) (T : TypeId) (e : outParam TypeId) : Prop where
  eq : P.underlying T = some (.slice e)
class INT (P : Program) (T : TypeId) (k : outParam IntKind) : Prop where
  eq : P.underlying T = some (.int k)
class STR (P : Program) (T : TypeId) : Prop where
  eq : P.underlying T = some .string
class MPT (P : Program) (T : TypeId) (k e : outParam TypeId) : Prop where
  eq : P.underlying T = some (.map k e)

section
variable {P : Program} {T : TypeId} {size bytes : Nat} {agg : Bool} {zero : Value}
theorem TI.get (h : TI P T size bytes agg zero) : ∃ i, P.info? T = some i ∧ i.zero = some zero ∧ i.size = size ∧ i.bytes = bytes := by
  obtain ⟨i, hi, hz⟩ := Option.map_eq_some_iff.1 h.info
  simp only [Prod.mk.injEq] at hz
  exact ⟨i, hi, hz.1, hz.2.1, hz.2.2⟩
theorem TI.sizeOf (h : TI P T size bytes agg zero) (w : World) : (sizeOf T).run P w = .ok size w := by
  obtain ⟨i, hi, hz, hs, hb⟩ := h.get
  simp [Go.sizeOf, typeInfo, hi, hs]
theorem TI.zeroValue (h : TI P T size bytes agg zero) (w : World) : (zeroValue T).run P w = .ok zero w := by
  obtain ⟨i, hi, hz, hs, hb⟩ := h.get
  simp [Go.zeroValue, typeInfo, hi, hz]
theorem TI.isAgg (h : TI P T size bytes agg zero) (w : World) : (isAgg T).run P w = .ok agg w := by
  obtain ⟨d, hd, ha⟩ := Option.map_eq_some_iff.1 h.row
  subst ha
  simp only [Go.isAgg, Sem.run_bind, run_underlying hd, Result.andThen_ok]
  cases d <;> rfl

variable {ops : Array Oper} {rest : List Oper} {o : Oper} {a : Act} {Q : Exit → Act → World → Prop} {w : World} {B : World} {own0 : PH} {hs : List HP}

theorem wp_value {v : Value} {w' : World} (hg : Region.wanted o (yielded ops a.tmps) = true) (hr : (execOp a.eval o).run P w = .ok (.value v) w') (K : wpList P ops Q rest (a.put o.dst v) w') : wpList P ops Q (o :: rest) a w := by
  unfold wpList; rw [if_pos hg]; refine .inl ?_; unfold Oper.wp; rw [hr]; exact K
theorem wp_skip' {w' : World} (hg : Region.wanted o (yielded ops a.tmps) = true) (hr : (execOp a.eval o).run P w = .ok .skip w') (K : wpList P ops Q rest (a.put o.dst undef) w') : wpList P ops Q (o :: rest) a w := by
  unfold wpList; rw [if_pos hg]; refine .inl ?_; unfold Oper.wp; rw [hr]; exact K

theorem cells_eq_agg {v : Value} (h : v.cells = #[v]) : v.oneCell' = true ∨ ∃ c, v = .agg c ∨ v = .tuple c := by
  cases v <;> simp_all [Value.oneCell']

/-! ### Loads -/
theorem run_load1 {T' : TypeId} {b off : Nat} {cs : Array Value} {fr : Nat × Nat} {v : Value} (ht : TI P T size bytes false zero) (hb : w.heap[b]? = some (.cells cs T' fr)) (hv : cs[off]? = some v) :
    (Instr.loadAt T (.pointer (some ⟨b, off, none⟩))).run P w = .ok v w := by
  have hc : w.cell? ⟨b, off, none⟩ = some v := by simp [World.cell?, hb, hv]
  simp [Instr.loadAt, Instr.sureAddr, loadVar, ht.isAgg, hc]
theorem run_loadN {T' : TypeId} {b off : Nat} {cs : Array Value} {fr : Nat × Nat} {vs : List Value} (ht : TI P T size bytes true zero) (hb : w.heap[b]? = some (.cells cs T' fr)) (hl : vs.length = size) (hv : ∀ j v, vs[j]? = some v → cs[off + j]? = some v) :
    (Instr.loadAt T (.pointer (some ⟨b, off, none⟩))).run P w = .ok (.agg vs.toArray) w := by
  obtain ⟨d, hd, ha⟩ := Option.map_eq_some_iff.1 ht.row
  refine run_loadAt_mid w b off T vs d (fun j v hj => ?_) hd ha ?_
  · simp [World.cell?, hb, hv j v hj]
  · obtain ⟨i, hi, _, hs, _⟩ := ht.get
    simp [hi, hs, hl]

theorem st_load (hS : St B own0 hs w) (i : Nat) {b : Nat} {T' : TypeId} {cs : List Value} (hi : hs[i]? = some (Cl b T' cs)) {x : Operand} {off : Nat} {v : Value} (ho : o.op = .load T x) (hg : Region.wanted o (yielded ops a.tmps) = true)
    (hx : a.eval x = .pointer (some ⟨b, off, none⟩)) [ht : TI P T size bytes false zero] (hv : cs[off]? = some v) (K : wpList P ops Q rest (a.put o.dst v) w) : wpList P ops Q (o :: rest) a w :=
  wp_value (v := v) (w' := w) hg (by simp [execOp, ho, hx, run_load1 (cs := cs.toArray) ht (hS.block hi) (by simpa using hv)]) K
theorem st_loads (hS : St B own0 hs w) (i : Nat) {b : Nat} {T' : TypeId} {cs : List Value} (hi : hs[i]? = some (Cl b T' cs)) {x : Operand} {off : Nat} (ho : o.op = .load T x) (hg : Region.wanted o (yielded ops a.tmps) = true)
    (hx : a.eval x = .pointer (some ⟨b, off, none⟩)) [ht : TI P T size bytes true zero] (vs : List Value) (hv : (cs.drop off).take size = vs) (hl : vs.length = size) (K : wpList P ops Q rest (a.put o.dst (.agg vs.toArray)) w) : wpList P ops Q (o :: rest) a w :=
  wp_value (w' := w) hg (by
    have := run_loadN (P := P) (w := w) (off := off) (vs := vs) ht (hS.block hi) hl (fun j v hj => by
      subst hv; rw [List.getElem?_take] at hj; split at hj
      · simpa using hj
      · cases hj)
    simp [execOp, ho, hx, this]) K

/-! ### Stores -/
def splice (cs : List Value) (off : Nat) (vs : List Value) : List Value := cs.take off ++ vs ++ cs.drop (off + vs.length)
theorem run_storeN {T' : TypeId} {b off : Nat} {cs : Array Value} {v : Value} (ht : TI P T size bytes agg zero) (hb : w.heap[b]? = some (.cells cs T' (0, 0))) (hl : v.cells.size = size) (hfit : off + size ≤ cs.size) (h1 : ∀ u ∈ v.cells.toList, u.oneCell' = true) :
    (Instr.storeAt T (.pointer (some ⟨b, off, none⟩)) v).run P w = .ok () (w.setRow b (splice cs.toList off v.cells.toList).toArray) := by
  have hst := run_storeCells_at P b off T' v.cells.toList 0 cs w hb (by simp; omega) h1
  simp only [Nat.add_zero] at hst
  simp [Instr.storeAt, Instr.sureAddr, storeVar, ht.sizeOf, hl, hst, splice]

theorem st_store (hS : St B own0 hs w) (i : Nat) {b : Nat} {T' : TypeId} {cs : List Value} (hi : hs[i]? = some (Cl b T' cs)) {x y : Operand} {off : Nat} {v : Value} (ho : o.op = .store T x y) (hg : Region.wanted o (yielded ops a.tmps) = true)
    (hx : a.eval x = .pointer (some ⟨b, off, none⟩)) (hy : a.eval y = v) [ht : TI P T size bytes agg zero] (hl : v.cells.size = size) (hfit : off + size ≤ cs.length) (h1 : ∀ u ∈ v.cells.toList, u.oneCell' = true)
    (K : ∀ w', St B own0 (hs.set i (Cl b T' (splice cs off v.cells.toList))) w' → wpList P ops Q rest (a.put o.dst undef) w') : wpList P ops Q (o :: rest) a w :=
  wp_skip' hg (by simp [execOp, ho, hx, hy, run_storeN (cs := cs.toArray) ht (hS.block hi) hl (by simpa using hfit) h1]; rfl) (K _ (by simpa using hS.setRow i (splice cs off v.cells.toList).toArray hi))

/-! ### New memory -/
theorem st_alloc (hS : St B own0 hs w) (ho : o.op = .alloc T) (hg : Region.wanted o (yielded ops a.tmps) = true) [ht : TI P T size bytes agg zero]
    (K : ∀ b w', St B own0 (Cl b T zero.cells.toList :: hs) w' → wpList P ops Q rest (a.put o.dst (.pointer (some ⟨b, 0, none⟩))) w') : wpList P ops Q (o :: rest) a w :=
  wp_value (v := .pointer (some ⟨w.heap.size, 0, none⟩)) (w' := w.alloc (.cells zero.cells T)) hg (by simp [execOp, ho, Instr.alloc, ht.zeroValue, newVar, newRow]) (K _ _ (hS.allocCl _ _))
theorem st_box (hS : St B own0 hs w) {x : Operand} {v : Value} (ho : o.op = .box T x) (hg : Region.wanted o (yielded ops a.tmps) = true) (hx : a.eval x = v)
    (K : ∀ b w', St B own0 (Cl b T v.cells.toList :: hs) w' → wpList P ops Q rest (a.put o.dst (.pointer (some ⟨b, 0, none⟩))) w') : wpList P ops Q (o :: rest) a w :=
  wp_value (v := .pointer (some ⟨w.heap.size, 0, none⟩)) (w' := w.alloc (.cells v.cells T)) hg (by simp [execOp, ho, hx, Instr.box, newVar, newRow]) (K _ _ (hS.allocCl _ _))
theorem st_makeMap (hS : St B own0 hs w) (ho : o.op = .makeMap T none) (hg : Region.wanted o (yielded ops a.tmps) = true)
    (K : ∀ b w', St B own0 (Ob b (.map #[] 0) :: hs) w' → wpList P ops Q rest (a.put o.dst (.map (some b))) w') : wpList P ops Q (o :: rest) a w :=
  wp_value (v := .map (some w.heap.size)) (w' := w.alloc (.map #[] 0)) hg (by simp [execOp, ho, Instr.makeMap]) (K _ _ (hS.alloc _))
theorem st_makeSlice (hS : St B own0 hs w) {l c : Operand} {kl kc : IntKind} {e : TypeId} (n : Nat) (ho : o.op = .makeSlice T l c) (hg : o.guard = none) (hl : a.eval l = .int kl (n : Int)) (hc : a.eval c = .int kc (n : Int)) [hsl : SL P T e] [ht : TI P e 1 bytes agg zero] (hz : zero.cells = #[zero])
    (hb : bytes * n ≤ 281474976710656) (h63 : n ≤ 9223372036854775807)
    (K : ∀ b w', St B own0 (Cl b e (List.replicate n zero) :: hs) w' → wpList P ops Q rest (a.put o.dst (.slice (some ⟨b, 0, none⟩) n n)) w') : wpList P ops Q (o :: rest) a w := by
  obtain ⟨i, hi, hz', hs', hb'⟩ := ht.get
  refine wpList_make_row w hg l c T ho e i zero hsl.eq hi hz' hs' hz kl kc n hl hc (by rw [hb']; exact hb) h63 (K _ _ ?_)
  have := hS.allocCl (madeCells #[zero] n) e
  rwa [toList_madeCells_one] at this
end
end Go.Proofs.Ytfdogeebkbaadaa
