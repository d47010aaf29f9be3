/- copy; maps keyed by whole numbers. -/
import Derived.Test.YtfdogeebkbaadaaRules2
set_option linter.unusedVariables false
set_option linter.unusedSimpArgs false
namespace Go.Proofs.Ytfdogeebkbaadaa
open Go.RowKit
section
variable {P : Program} {T : TypeId} {size bytes : Nat} {agg : Bool} {zero : Value}
variable {ops : Array Oper} {rest : List Oper} {o o1 o2 : Oper} {a : Act} {Q : Exit → Act → World → Prop} {w : World} {B : World} {own0 : PH} {hs : List HP}

theorem st_copy (hS : St B own0 hs w) (i : Nat) {b : Nat} {T' : TypeId} {cs : List Value} (hi : hs[i]? = some (Cl b T' cs)) {d s : Operand} {dT sT e : TypeId}
    (ho : o.op = .call { callee := .builtin .copy, args := #[d, s], argTypes := #[dT, sT] }) (hg : Region.wanted o (yielded ops a.tmps) = true)
    {off dLen dCap sLen sCap : Nat} {As : Option Addr} (hd : a.eval d = .slice (some ⟨b, off, none⟩) dLen dCap) (hs' : a.eval s = .slice As sLen sCap) [hsl : SL P dT e] [ht : TI P e 1 bytes agg zero]
    (vs : List Value) (hn : vs.length = Nat.min sLen dLen) (hsrc : ∀ j u, vs[j]? = some u → ∃ ad, As = some ad ∧ w.cell? (ad.add j) = some u) (hfit : off + vs.length ≤ cs.length) (h1 : ∀ u ∈ vs, u.oneCell' = true)
    (K : ∀ w', St B own0 (hs.set i (Cl b T' (splice cs off vs))) w' → wpList P ops Q rest (a.put o.dst (.int .i64 (vs.length : Int))) w') : wpList P ops Q (o :: rest) a w := by
  have hinf : (P.info? e).map (·.size) = some 1 := by
    obtain ⟨inf, h, _, h2, _⟩ := ht.get
    simp [h, h2]
  have hblk := hS.block hi
  cases vs with
  | nil =>
    have hn0 : Nat.min sLen dLen = 0 := by simpa using hn.symm
    have hr := run_copy_none (P := P) w dT sT o.type e (some ⟨b, off, none⟩) As dLen dCap sLen sCap hsl.eq hinf hn0
    refine wp_value (w' := w) (v := .int .i64 0) hg ?_ (by
      refine K w ?_
      have := hS.conseq i hi (fun _ h => h)
      simpa [splice] using this)
    simp only [execOp, ho, resolve, invoke, builtin, Sem.run_bind, Sem.run_pure, Result.andThen_ok, List.map_toArray, List.map_cons, List.map_nil, hd, hs', hr]
    rfl
  | cons v0 vs =>
    obtain ⟨ad, hA, _⟩ := hsrc 0 v0 rfl
    subst hA
    have hr := run_copy_row (P := P) w dT sT o.type e b off dLen dCap ad sLen sCap cs.toArray T' (v0 :: vs) hsl.eq hinf hblk hn (fun j u hj => by
      obtain ⟨ad', he, hc⟩ := hsrc j u hj; cases he; exact hc) (by simpa using hfit) h1
    refine wp_value (v := .int .i64 ((v0 :: vs).length : Int)) hg ?_ (K _ (hS.setRow i _ hi))
    simp only [execOp, ho, resolve, invoke, builtin, Sem.run_bind, Sem.run_pure, Result.andThen_ok, List.map_toArray, List.map_cons, List.map_nil, hd, hs', hr]
    simp [splice, goInt]

/-! ### Maps keyed by whole numbers -/
def mget {α : Type} : List (Int × α) → Int → Option α
  | [], _ => none
  | (k, v) :: r, q => if q = k then some v else mget r q
def mset {α : Type} : List (Int × α) → Int → α → List (Int × α)
  | [], q, v => [(q, v)]
  | (k, u) :: r, q, v => if q = k then (q, v) :: r else (k, u) :: mset r q v
def mdel {α : Type} : List (Int × α) → Int → List (Int × α)
  | [], _ => []
  | (k, u) :: r, q => if q = k then r else (k, u) :: mdel r q
def ents (es : List MapEntry) (kv : List (Int × Value)) : Prop := es.map (fun e => (e.key, e.val)) = kv.map fun p => (.int .i64 p.1, p.2)
/-- A map: what it holds, in the order in which it came. -/
def Mi (b : Nat) (kv : List (Int × Value)) : HP := fun h => ∃ es clock, h = PH.one b (.map es clock) ∧ ents es.toList kv

theorem findNow_ents (q : Int) : ∀ (es : List MapEntry) (kv : List (Int × Value)) (i : Nat), ents es kv →
    (mget kv q = none ∧ Instr.findNow (.int .i64) (.int .i64 q) es i = some none) ∨ ∃ j v, mget kv q = some v ∧ Instr.findNow (.int .i64) (.int .i64 q) es i = some (some (i + j, v)) ∧ j < es.length ∧
      (∀ v', ents (es.modify j fun e => { e with key := .int .i64 q, val := v' }) (mset kv q v')) ∧ (∃ e, es[j]? = some e ∧ e.key = .int .i64 q) ∧ ents (es.eraseIdx j) (mdel kv q)
  | [], [], i, _ => .inl ⟨rfl, rfl⟩
  | [], p :: kv, i, h => by simp [ents] at h
  | e :: es, [], i, h => by simp [ents] at h
  | e :: es, (k, v) :: kv, i, h => by
    simp only [ents, List.map_cons, List.cons.injEq, Prod.mk.injEq] at h
    obtain ⟨⟨hk, hv⟩, h⟩ := h
    by_cases hq : q = k
    · subst hq
      refine .inr ⟨0, v, by simp [mget], ?_, by simp, fun v' => ?_, ⟨e, rfl, hk⟩, ?_⟩
      · simp [Instr.findNow, Instr.sameNow, hk, hv]
      · simp [ents, mset, h]
      · simpa [ents, mdel] using h
    · have hf : Instr.findNow (.int .i64) (.int .i64 q) (e :: es) i = Instr.findNow (.int .i64) (.int .i64 q) es (i + 1) := by
        have : (q == k) = false := by simpa using hq
        simp [Instr.findNow, Instr.sameNow, hk, this]
      rw [hf]
      rcases findNow_ents q es kv (i + 1) h with ⟨h1, h2⟩ | ⟨j, u, h1, h2, h3, h4, h5, h6⟩
      · exact .inl ⟨by simp [mget, hq, h1], h2⟩
      · refine .inr ⟨j + 1, u, by simp [mget, hq, h1], by rw [h2]; congr 3; omega, by simp; omega, fun v' => ?_, by simpa using h5, ?_⟩
        · have := h4 v'
          simp only [ents] at this ⊢
          simp [mset, hq, hk, hv, this]
        · simp only [ents] at h6 ⊢
          simp [mdel, hq, hk, hv, h6]
theorem ents_push (q : Int) (v : Value) : ∀ (es : List MapEntry) (kv : List (Int × Value)) (b : Nat), ents es kv → mget kv q = none → ents (es ++ [{ key := .int .i64 q, val := v, born := b }]) (mset kv q v)
  | [], [], b, _, _ => rfl
  | [], p :: kv, b, h, _ => by simp [ents] at h
  | e :: es, [], b, h, _ => by simp [ents] at h
  | e :: es, (k, u) :: kv, b, h, hm => by
    simp only [ents, List.map_cons, List.cons.injEq, Prod.mk.injEq] at h
    obtain ⟨⟨hk, hv⟩, h⟩ := h
    by_cases hq : q = k
    · simp [mget, hq] at hm
    · simp only [mget, hq, if_false] at hm
      have := ents_push q v es kv b h hm
      simp only [ents] at this ⊢
      simp [mset, hq, hk, hv, this]

theorem checkKey_int (empty : Bool) (t : TypeId) (k : IntKind) (q : Int) (hu : P.underlying t = some (.int k)) (w : World) : (Instr.checkKey empty 10000 t (.int k q)).run P w = .ok () w := by
  unfold Instr.checkKey
  simp [run_underlying hu]

theorem st_lookup (hS : St B own0 hs w) (i : Nat) {m : Nat} {kv : List (Int × Value)} (hi : hs[i]? = some (Mi m kv)) {x ix : Operand} {k e : TypeId} {q : Int} (ho : o.op = .lookup T x ix false) (hg : Region.wanted o (yielded ops a.tmps) = true)
    (hx : a.eval x = .map (some m)) (hix : a.eval ix = .int .i64 q) [hm : MPT P T k e] [hk : INT P k .i64] [ht : TI P e size bytes agg zero]
    (K : wpList P ops Q rest (a.put o.dst ((mget kv q).getD zero)) w) : wpList P ops Q (o :: rest) a w := by
  obtain ⟨h1, ⟨es, clock, rfl, hes⟩, hle⟩ := hS.fact i hi
  have hb : w.heap[m]? = some (.map es clock) := hle m _ (PH.one_self _ _)
  have hgo : (getObj m).run P w = .ok (.map es clock) w := by simp [getObj, Sem.run, hb]
  refine wp_value (w' := w) hg ?_ K
  have hck := fun b => checkKey_int (P := P) b k .i64 q hk.eq w
  rcases findNow_ents q es.toList kv 0 hes with ⟨h1, h2⟩ | ⟨j, u, h1, h2, _⟩
  · simp [execOp, ho, hx, hix, Instr.lookup, run_underlying hm.eq, hgo, hck, Instr.findKey, run_underlying hk.eq, h2, h1, ht.zeroValue]
  · simp [execOp, ho, hx, hix, Instr.lookup, run_underlying hm.eq, hgo, hck, Instr.findKey, run_underlying hk.eq, h2, h1]

theorem sameBits_int (k : IntKind) (q : Int) : Instr.sameBits 10000 (.int k q) (.int k q) = true := by simp [Instr.sameBits]

theorem st_mapUpdate (hS : St B own0 hs w) (i : Nat) {m : Nat} {kv : List (Int × Value)} (hi : hs[i]? = some (Mi m kv)) {x ix y : Operand} {k e : TypeId} {q : Int} {v : Value} (ho : o.op = .mapUpdate T x ix y) (hg : Region.wanted o (yielded ops a.tmps) = true)
    (hx : a.eval x = .map (some m)) (hix : a.eval ix = .int .i64 q) (hy : a.eval y = v) [hm : MPT P T k e] [hk : INT P k .i64]
    (K : ∀ w', St B own0 (hs.set i (Mi m (mset kv q v))) w' → wpList P ops Q rest (a.put o.dst undef) w') : wpList P ops Q (o :: rest) a w := by
  obtain ⟨h1, ⟨es, clock, rfl, hes⟩, hle⟩ := hS.fact i hi
  have hb : w.heap[m]? = some (.map es clock) := hle m _ (PH.one_self _ _)
  have hlt : m < w.heap.size := (Array.getElem?_eq_some_iff.1 hb).1
  have hgo : (getObj m).run P w = .ok (.map es clock) w := by simp [getObj, Sem.run, hb]
  have hso : ∀ ob, (setObj m ob).run P w = .ok () { w with heap := w.heap.setIfInBounds m ob } := by intro ob; simp [setObj, Sem.run, hb]
  have hck := fun b => checkKey_int (P := P) b k .i64 q hk.eq w
  have fin : ∀ es' clock', ents es'.toList (mset kv q v) → St B own0 (hs.set i (Mi m (mset kv q v))) { w with heap := w.heap.setIfInBounds m (.map es' clock') } := by
    intro es' clock' he'
    refine hS.mut i hi (fun g hgA _ => ⟨PH.one m (.map es' clock'), ⟨es', clock', rfl, he'⟩, fun k o' h => ?_, fun b hb' hn => ⟨?_, ?_⟩⟩) (by simp) rfl rfl rfl
    · obtain ⟨rfl, rfl⟩ := PH.one_some h; simp [PH.of, hlt]
    · refine PH.one_none ?_
      rintro rfl
      obtain ⟨_, _, rfl, _⟩ := hgA
      rw [PH.one_self] at hn; cases hn
    · have : m ≠ b := by
        rintro rfl
        obtain ⟨_, _, rfl, _⟩ := hgA
        rw [PH.one_self] at hn; cases hn
      simp [Array.getElem?_setIfInBounds, this]
  rcases findNow_ents q es.toList kv 0 hes with ⟨h1, h2⟩ | ⟨j, u, h1, h2, h3, h4, ⟨e0, h5, h6⟩, _⟩
  · refine wp_skip' hg ?_ (K _ (fin (es.push { key := .int .i64 q, val := v, born := clock }) (clock + 1) (by simpa using ents_push q v es.toList kv clock hes h1)))
    simp [execOp, ho, hx, hix, hy, Instr.mapUpdate, run_underlying hm.eq, hgo, hck, Instr.findKey, run_underlying hk.eq, h2, hso]
  · refine wp_skip' hg ?_ (K _ (fin (es.modify j fun e => { e with key := .int .i64 q, val := v }) clock (by simpa using h4 v)))
    have h5' : es[j]? = some e0 := by simpa using h5
    simp [execOp, ho, hx, hix, hy, Instr.mapUpdate, run_underlying hm.eq, hgo, hck, Instr.findKey, run_underlying hk.eq, h2, hso, h5', h6, Instr.keyThatStays, sameBits_int]
theorem st_emptyMap {i m : Nat} (hS : St B own0 hs w) (hi : hs[i]? = some (Ob m (.map #[] 0))) : St B own0 (hs.set i (Mi m [])) w :=
  hS.conseq i hi fun h hh => ⟨#[], 0, hh, rfl⟩

theorem st_buildSlice (hS : St B own0 hs w) {len : Nat} {parts : Array (Nat × Operand)} {e : TypeId} (ho : o.op = .buildSlice T len parts) (hg : Region.wanted o (yielded ops a.tmps) = true) [hsl : SL P T e] [ht : TI P e size bytes agg zero]
    (hsmall : Nat.ble (len * size) 16777216 = true) (hpos : Nat.ble 1 (len * size) = true) (cells : Array Value)
    (hf : Instr.fill (fun i => some (i * size, size)) ((Array.range (len * size)).map (zero.cells[· % zero.cells.size]!)) (parts.map fun (i, x) => (i, a.eval x)).toList = some cells)
    (K : ∀ b w', St B own0 (Cl b e cells.toList :: hs) w' → wpList P ops Q rest (a.put o.dst (.slice (some ⟨b, 0, none⟩) len len)) w') : wpList P ops Q (o :: rest) a w := by
  obtain ⟨inf, hinf, hz, hsz, _⟩ := ht.get
  have h1 := Nat.le_of_ble_eq_true hsmall
  have h2 := Nat.le_of_ble_eq_true hpos
  have hr := run_buildSlice (P := P) w T e len (parts.map fun (i, x) => (i, a.eval x)) cells inf zero hsl.eq hinf hz (by rw [hsz]; omega) (by rw [hsz]; omega) (by rw [hsz]; exact hf)
  refine wp_value hg ?_ (K w.heap.size _ (hS.allocCl cells e))
  simp only [execOp, ho, Sem.run_bind, hr, Result.andThen_ok, Sem.run_pure]
theorem news_cl (hS : St B own0 hs w) {i b : Nat} {T' : TypeId} {cs : List Value} (hi : hs[i]? = some (Cl b T' cs)) (j : Nat) (u : Value) (hj : cs[j]? = some u) : w.cell? ((⟨b, 0, none⟩ : Addr).add j) = some u := by
  rw [Addr.add_mid, Nat.zero_add]
  simp [World.cell?, hS.block hi, hj]
end
end Go.Proofs.Ytfdogeebkbaadaa
