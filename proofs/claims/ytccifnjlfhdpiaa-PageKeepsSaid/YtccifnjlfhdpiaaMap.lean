/- Maps keyed by whole numbers; copy; pointers held against nil. -/
import Derived.Test.YtccifnjlfhdpiaaObj
import Derived.Laws.CopyRow
import Derived.Laws.IdiomCopy
set_option linter.unusedVariables false
set_option linter.unusedSimpArgs false
namespace Go.Proofs.Ytccifnjlfhdpiaa
open Go.RowKit
/-! ### Maps as lists -/
def mget {α : Type} : List (Int × α) → Int → Option α
  | [], _ => none
  | (k, v) :: r, q => if q = k then some v else mget r q
def mset {α : Type} : List (Int × α) → Int → α → List (Int × α)
  | [], q, v => [(q, v)]
  | (k, u) :: r, q, v => if q = k then (q, v) :: r else (k, u) :: mset r q v
def mdel {α : Type} : List (Int × α) → Int → List (Int × α)
  | [], _ => []
  | (k, u) :: r, q => if q = k then r else (k, u) :: mdel r q
def ents (es : List MapEntry) (kv : List (Int × Value)) : Prop := es.map (fun e => (e.key, e.val)) = kv.map fun p => (.int .i64 p.1, p.2)
theorem findNow_ents (q : Int) : ∀ (es : List MapEntry) (kv : List (Int × Value)) (i : Nat), ents es kv →
    (mget kv q = none ∧ Instr.findNow (.int .i64) (.int .i64 q) es i = some none) ∨ ∃ j v, mget kv q = some v ∧ Instr.findNow (.int .i64) (.int .i64 q) es i = some (some (i + j, v)) ∧ j < es.length ∧
      (∀ v', ents (es.modify j fun e => { e with key := .int .i64 q, val := v' }) (mset kv q v')) ∧ (∃ e, es[j]? = some e ∧ e.key = .int .i64 q) ∧ ents (es.eraseIdx j) (mdel kv q)
  | [], [], i, _ => .inl ⟨rfl, rfl⟩
  | [], p :: kv, i, h => by simp [ents] at h
  | e :: es, [], i, h => by simp [ents] at h
  | e :: es, (k, v) :: kv, i, h => by
    simp only [ents, List.map_cons, List.cons.injEq, Prod.mk.injEq] at h
    obtain ⟨⟨hk, hv⟩, h⟩ := h
    by_cases hq : q = k
    · subst hq
      refine .inr ⟨0, v, by simp [mget], ?_, by simp, fun v' => ?_, ⟨e, rfl, hk⟩, ?_⟩
      · simp [Instr.findNow, Instr.sameNow, hk, hv]
      · simp [ents, mset, h]
      · simpa [ents, mdel] using h
    · have hf : Instr.findNow (.int .i64) (.int .i64 q) (e :: es) i = Instr.findNow (.int .i64) (.int .i64 q) es (i + 1) := by
        have : (q == k) = false := by simpa using hq
        simp [Instr.findNow, Instr.sameNow, hk, this]
      rw [hf]
      rcases findNow_ents q es kv (i + 1) h with ⟨h1, h2⟩ | ⟨j, u, h1, h2, h3, h4, h5, h6⟩
      · exact .inl ⟨by simp [mget, hq, h1], h2⟩
      · refine .inr ⟨j + 1, u, by simp [mget, hq, h1], by rw [h2]; congr 3; omega, by simp; omega, fun v' => ?_, by simpa using h5, ?_⟩
        · have := h4 v'
          simp only [ents] at this ⊢
          simp [mset, hq, hk, hv, this]
        · simp only [ents] at h6 ⊢
          simp [mdel, hq, hk, hv, h6]
theorem ents_push (q : Int) (v : Value) : ∀ (es : List MapEntry) (kv : List (Int × Value)) (b : Nat), ents es kv → mget kv q = none → ents (es ++ [{ key := .int .i64 q, val := v, born := b }]) (mset kv q v)
  | [], [], b, _, _ => rfl
  | [], p :: kv, b, h, _ => by simp [ents] at h
  | e :: es, [], b, h, _ => by simp [ents] at h
  | e :: es, (k, u) :: kv, b, h, hm => by
    simp only [ents, List.map_cons, List.cons.injEq, Prod.mk.injEq] at h
    obtain ⟨⟨hk, hv⟩, h⟩ := h
    by_cases hq : q = k
    · simp [mget, hq] at hm
    · simp only [mget, hq, if_false] at hm
      have := ents_push q v es kv b h hm
      simp only [ents] at this ⊢
      simp [mset, hq, hk, hv, this]
/-- The values of a map, in cells. -/
def VEnc {α : Type} (E : Elt α) (z : PH) : List (Int × α) → List (Int × Value) → Prop
  | [], kv => kv = []
  | (k, a) :: m, kv => ∃ v r, kv = (k, v) :: r ∧ E.E z a [v] ∧ VEnc E z m r
section
variable {α : Type} {E : Elt α} {z z' : PH}
theorem VEnc.up (hz : PH.le z z') : ∀ {m : List (Int × α)} {kv : List (Int × Value)}, VEnc E z m kv → VEnc E z' m kv
  | [], _, h => h
  | (_, _) :: _, _, ⟨v, r, h1, h2, h3⟩ => ⟨v, r, h1, E.up _ _ _ _ hz h2, VEnc.up hz h3⟩
theorem VEnc.get (q : Int) : ∀ {m : List (Int × α)} {kv : List (Int × Value)}, VEnc E z m kv → (mget m q = none ∧ mget kv q = none) ∨ ∃ a v, mget m q = some a ∧ mget kv q = some v ∧ E.E z a [v]
  | [], kv, h => by cases h; exact .inl ⟨rfl, rfl⟩
  | (k, a) :: m, _, ⟨v, r, rfl, h2, h3⟩ => by
    by_cases e : q = k
    · exact .inr ⟨a, v, by simp [mget, e], by simp [mget, e], h2⟩
    · rcases VEnc.get q h3 with ⟨a1, a2⟩ | ⟨a', v', a1, a2, a3⟩
      · exact .inl ⟨by simp [mget, e, a1], by simp [mget, e, a2]⟩
      · exact .inr ⟨a', v', by simp [mget, e, a1], by simp [mget, e, a2], a3⟩
theorem VEnc.set (q : Int) {b : α} {u : Value} (hb : E.E z b [u]) : ∀ {m : List (Int × α)} {kv : List (Int × Value)}, VEnc E z m kv → VEnc E z (mset m q b) (mset kv q u)
  | [], kv, h => by cases h; exact ⟨u, [], rfl, hb, rfl⟩
  | (k, a) :: m, _, ⟨v, r, rfl, h2, h3⟩ => by
    by_cases e : q = k
    · simp only [mset, e, if_true]; exact ⟨u, r, rfl, hb, h3⟩
    · simp only [mset, e, if_false]; exact ⟨v, _, rfl, h2, VEnc.set q hb h3⟩
theorem VEnc.del (q : Int) : ∀ {m : List (Int × α)} {kv : List (Int × Value)}, VEnc E z m kv → VEnc E z (mdel m q) (mdel kv q)
  | [], kv, h => by cases h; rfl
  | (k, a) :: m, _, ⟨v, r, rfl, h2, h3⟩ => by
    by_cases e : q = k
    · simp only [mdel, e, if_true]; exact h3
    · simp only [mdel, e, if_false]; exact ⟨v, _, rfl, h2, VEnc.del q h3⟩
theorem VEnc.length : ∀ {m : List (Int × α)} {kv : List (Int × Value)}, VEnc E z m kv → kv.length = m.length
  | [], kv, h => by cases h; rfl
  | (_, _) :: m, _, ⟨v, r, rfl, h2, h3⟩ => by simp [h3.length]
end
theorem ents_len {es : List MapEntry} {kv : List (Int × Value)} (h : ents es kv) : es.length = kv.length := by
  have := congrArg List.length h
  simpa using this
/-- A pointer that may be nil, and what it leads to. -/
def optp {α : Type} (r : Option α) (b : Nat) : Value := match r with | none => .pointer none | some _ => .pointer (some ⟨b, 0, none⟩)
def optc {α : Type} (r : Option α) (f : α → List MP) : List MP := match r with | none => [] | some v => f v
@[simp] theorem optp_none {α : Type} (b : Nat) : optp (none : Option α) b = .pointer none := rfl
@[simp] theorem optp_some {α : Type} (v : α) (b : Nat) : optp (some v) b = .pointer (some ⟨b, 0, none⟩) := rfl
@[simp] theorem optc_none {α : Type} (f : α → List MP) : optc none f = [] := rfl
@[simp] theorem optc_some {α : Type} (v : α) (f : α → List MP) : optc (some v) f = f v := rfl
/-- Entries are told apart by the time at which they came. -/
def Born (es : Array MapEntry) (clock : Nat) : Prop := (es.toList.map (·.born)).Nodup ∧ ∀ e ∈ es.toList, e.born < clock
theorem Born.push {es : Array MapEntry} {clock : Nat} (h : Born es clock) (k v : Value) : Born (es.push { key := k, val := v, born := clock }) (clock + 1) := by
  refine ⟨?_, fun e he => ?_⟩
  · simp only [Array.toList_push, List.map_append, List.map_cons, List.map_nil]
    refine List.nodup_append.2 ⟨h.1, by simp, fun a ha b hb => ?_⟩
    obtain ⟨e, he, rfl⟩ := List.mem_map.1 ha
    have := h.2 e he
    simp only [List.mem_singleton] at hb
    omega
  · simp only [Array.toList_push, List.mem_append, List.mem_singleton] at he
    rcases he with he | rfl
    · have := h.2 e he; omega
    · simp
theorem map_modify_same {α β : Type} (f : α → β) (g : α → α) (hg : ∀ x, f (g x) = f x) : ∀ (l : List α) (j : Nat), (l.modify j g).map f = l.map f
  | [], j => by simp
  | x :: l, 0 => by simp [hg]
  | x :: l, j + 1 => by
    have := map_modify_same f g hg l j
    simp [this]
theorem Born.modify {es : Array MapEntry} {clock : Nat} (h : Born es clock) (j : Nat) (k v : Value) : Born (es.modify j fun e => { e with key := k, val := v }) clock := by
  have key : ((es.modify j fun e => { e with key := k, val := v }).toList.map (·.born)) = es.toList.map (·.born) := by
    rw [Array.toList_modify]
    exact map_modify_same (fun e : MapEntry => e.born) (fun e => { e with key := k, val := v }) (fun _ => rfl) es.toList j
  refine ⟨by rw [key]; exact h.1, fun e he => ?_⟩
  have : e.born ∈ (es.modify j fun e => { e with key := k, val := v }).toList.map (·.born) := List.mem_map_of_mem he
  rw [key] at this
  obtain ⟨e', he', e2⟩ := List.mem_map.1 this
  have := h.2 e' he'
  omega
theorem mget_none {α : Type} {q : Int} : ∀ {m : List (Int × α)}, mget m q = none → q ∉ m.map Prod.fst
  | [], _ => by simp
  | (k, v) :: r, h => by
    by_cases e : q = k
    · simp [mget, e] at h
    · simp only [mget, e, if_false] at h
      simp only [List.map_cons, List.mem_cons, not_or]
      exact ⟨e, mget_none h⟩
theorem mset_keys {α : Type} {q : Int} {v : α} : ∀ {m : List (Int × α)}, (mset m q v).map Prod.fst = if q ∈ m.map Prod.fst then m.map Prod.fst else m.map Prod.fst ++ [q]
  | [] => by simp [mset]
  | (k, u) :: r => by
    by_cases e : q = k
    · subst e; simp [mset]
    · have := mset_keys (q := q) (v := v) (m := r)
      simp only [mset, e, if_false, List.map_cons, List.mem_cons, false_or, this]
      split <;> rfl
theorem mset_nodup {α : Type} {q : Int} {v : α} {m : List (Int × α)} (h : (m.map Prod.fst).Nodup) : ((mset m q v).map Prod.fst).Nodup := by
  rw [mset_keys]
  split
  · exact h
  · rename_i hq
    exact List.nodup_append.2 ⟨h, by simp, fun a ha b hb => by simp only [List.mem_singleton] at hb; rintro rfl; subst hb; exact hq ha⟩
/-- A map: what it holds, in the order in which it came. -/
def Mp {α : Type} (E : Elt α) (b : Nat) (m : List (Int × α)) : MP :=
  ⟨fun z h => ∃ es clock kv, h = PH.one b (.map es clock) ∧ ents es.toList kv ∧ VEnc E z m kv ∧ Born es clock ∧ (m.map Prod.fst).Nodup, fun hz ⟨es, clock, kv, h1, h2, h3, h4⟩ => ⟨es, clock, kv, h1, h2, h3.up hz, h4⟩⟩
section
variable {P : Program} {N : Nat} {D : List Deferred} {B : World} {env env' : Env} {hs hs' : List MP} {ops : Array Oper} {Q : Exit → Act → World → Prop} {K Kn Kr : Act → World → Prop} {o : Oper} {kd : Nat}
variable {α β : Type} {E : Elt α} {F : Elt β} {A : Option Addr} {cr cap : Nat} {l : List α} {x y : Operand} {t e : TypeId} {size bytes esz off : Nat} {agg : Bool} {zero v : Value} {w : World}
theorem checkKey_int (empty : Bool) (t : TypeId) (k : IntKind) (q : Int) (hu : P.underlying t = some (.int k)) (w : World) : (Instr.checkKey empty 10000 t (.int k q)).run P w = .ok () w := by
  unfold Instr.checkKey
  simp [run_underlying hu]
theorem sameBits_int (k : IntKind) (q : Int) : Instr.sameBits 10000 (.int k q) (.int k q) = true := by simp [Instr.sameBits]
theorem T.makeMap (E : Elt α) (cx : Cx P ops Q o Kn Kr (kd + 2)) (ho : o.op = .makeMap t none) (hw : wants ops env o true) (hf : fits N o = true)
    (h : ∀ b, T N D B (ptE o (.map (some b)) env) (Mp E b [] :: hs) Kr) : T N D B env hs Kn :=
  T.valW cx (v := fun b => .map (some b)) hw hf (fun a w h3 h4 => ⟨w.heap.size, w.alloc (.map #[] 0), by simp [execOp, ho, Instr.makeMap], by
    have := h4.alloc (.map #[] 0)
    exact this.conseq 0 rfl (fun z h1 hh => ⟨#[], 0, [], hh, rfl, rfl, ⟨by simp, by simp⟩, by simp⟩)⟩) h
/-- m[k]. -/
theorem T.lookup (cx : Cx P ops Q o Kn Kr (kd + 1)) (i : Nat) {b : Nat} {m : List (Int × α)} {q : Int} {d : α} {k ek : TypeId} {y : Operand} [hm : MPT P t k ek] [hk : INT P k .i64] [ht : TI P ek 1 bytes agg zero] (sh : Sh E) (hz : ∀ z, E.E z d [zero]) (hi : hs[i]? = some (Mp E b m))
    (ho : o.op = .lookup t x y false) (hw : wants ops env o true) (hf : fits N o = true) (hx : ev env x = some (.map (some b))) (hy : ev env y = some (.int .i64 q))
    {v : sh.X → Value} {hs' : sh.X → List MP} (hv : ∀ e, (sh.cells ((mget m q).getD d) e).headD undef = v e) (hh : ∀ e, sh.ch ((mget m q).getD d) e ++ hs = hs' e)
    (h : ∀ e, T N D B (ptE o (v e) env) (hs' e) Kr) : T N D B env hs Kn :=
  T.valR cx (v := v) (hs' := hs') hw hf (fun a w h3 h4 => by
    obtain ⟨z, g, hp, hd, hzw, hg, hB, hrest⟩ := h4
    obtain ⟨g1, ⟨es, clock, kv, rfl, hes, hV, _⟩, hle⟩ := hp.sub hi
    have hb : w.heap[b]? = some (.map es clock) := hg b _ (hle b _ (PH.one_self _ _))
    have hgo : (getObj b).run P w = .ok (.map es clock) w := by simp [getObj, Sem.run, hb]
    have hck := fun b => checkKey_int (P := P) b k .i64 q hk.eq w
    have key : ∃ u, E.E z ((mget m q).getD d) [u] ∧ (execOp a.eval o).run P w = .ok (.value u) w := by
      rcases findNow_ents q es.toList kv 0 hes with ⟨h1, h2⟩ | ⟨j, u, h1, h2, _⟩
      · rcases hV.get q with ⟨a1, _⟩ | ⟨_, _, _, a2, _⟩
        · rw [a1]
          exact ⟨zero, hz z, by simp [execOp, ho, h3.eval hx, h3.eval hy, Instr.lookup, run_underlying hm.eq, hgo, hck, Instr.findKey, run_underlying hk.eq, h2, ht.zeroValue]⟩
        · rw [h1] at a2; cases a2
      · rcases hV.get q with ⟨_, a2⟩ | ⟨a', v', a1, a2, a3⟩
        · rw [h1] at a2; cases a2
        · rw [h1] at a2; cases a2
          rw [a1]
          exact ⟨u, a3, by simp [execOp, ho, h3.eval hx, h3.eval hy, Instr.lookup, run_underlying hm.eq, hgo, hck, Instr.findKey, run_underlying hk.eq, h2]⟩
    obtain ⟨u, hE, hrun⟩ := key
    obtain ⟨e, h1, h2⟩ := sh.op _ _ _ hE
    refine ⟨e, ?_, ?_⟩
    · rw [hrun, ← hv e, ← h1]; rfl
    · rw [← hh e]
      exact ⟨z, g, hp.adds h2, hd, hzw, hg, hB, hrest⟩) h
/-- m[k] = v. -/
theorem T.mapUpdate (cx : Cx P ops Q o Kn Kr (kd + 2)) (i : Nat) {b : Nat} {m : List (Int × α)} {q : Int} {c : α} {k ek : TypeId} {y u : Operand} {hs' : List MP} [hm : MPT P t k ek] [hk : INT P k .i64] (hi : hs[i]? = some (Mp E b m))
    (ho : o.op = .mapUpdate t x y u) (hw : wants ops env o true) (hf : fits N o = true) (hx : ev env x = some (.map (some b))) (hy : ev env y = some (.int .i64 q)) (hu : ev env u = some v) (hv : Has hs E c [v]) (he : hs.set i (Mp E b (mset m q c)) = hs')
    (h : T N D B (ptE o undef env) hs' Kr) : T N D B env hs Kn :=
  T.stepW cx hw hf (fun a w h3 h4 => by
    subst he
    obtain ⟨z, g, hp, hd, hzw, hg, hT⟩ := h4
    have hE := hv z g hp
    obtain ⟨h1, h2, ⟨es, clock, kv, rfl, hes, hV, hbo, hnd⟩, hd12, rfl, hset⟩ := hp.get hi
    have lh1 : PH.le (PH.one b (.map es clock)) (PH.of w) := PH.le_trans (PH.le_join_l _ _) hg
    have lh2 : PH.le h2 (PH.of w) := PH.le_trans (PH.le_join_r hd12) hg
    have ⟨dz1, dz2⟩ := PH.disj_join_r.1 hd
    have hb : w.heap[b]? = some (.map es clock) := lh1 b _ (PH.one_self _ _)
    have hlt : b < w.heap.size := (Array.getElem?_eq_some_iff.1 hb).1
    have hgo : (getObj b).run P w = .ok (.map es clock) w := by simp [getObj, Sem.run, hb]
    have hso : ∀ ob, (setObj b ob).run P w = .ok () { w with heap := w.heap.setIfInBounds b ob } := by intro ob; simp [setObj, Sem.run, hb]
    have hck := fun b => checkKey_int (P := P) b k .i64 q hk.eq w
    have fin : ∀ es' clock', ents es'.toList (mset kv q v) → Born es' clock' → St B (hs.set i (Mp E b (mset m q c))) { w with heap := w.heap.setIfInBounds b (.map es' clock') } := by
      intro es' clock' he' hb'
      refine St.raw (h1' := PH.one b (.map es' clock')) hset hd12 dz1 dz2 hzw lh2 hT ⟨es', clock', _, rfl, he', hV.set q hE, hb', mset_nodup hnd⟩ ?_ ?_ (by simp) rfl rfl rfl
      · intro k' o' hb'
        obtain ⟨rfl, rfl⟩ := PH.one_some hb'
        simp [PH.of, hlt]
      · intro k' hb' hn
        have hkb : k' ≠ b := by rintro rfl; rw [PH.one_self] at hn; cases hn
        refine ⟨PH.one_none hkb, ?_⟩
        simp [Array.getElem?_setIfInBounds, Ne.symm hkb]
    rcases findNow_ents q es.toList kv 0 hes with ⟨h1, h2⟩ | ⟨j, u', h1, h2, h3', h4', ⟨e0, h5, h6⟩, _⟩
    · refine ⟨_, ?_, fin (es.push { key := .int .i64 q, val := v, born := clock }) (clock + 1) (by simpa using ents_push q v es.toList kv clock hes h1) (hbo.push _ _)⟩
      simp [execOp, ho, h3.eval hx, h3.eval hy, h3.eval hu, Instr.mapUpdate, run_underlying hm.eq, hgo, hck, Instr.findKey, run_underlying hk.eq, h2, hso]
    · refine ⟨_, ?_, fin (es.modify j fun e => { e with key := .int .i64 q, val := v }) clock (by simpa using h4' v) (hbo.modify _ _ _)⟩
      have h5' : es[j]? = some e0 := by simpa using h5
      simp [execOp, ho, h3.eval hx, h3.eval hy, h3.eval hu, Instr.mapUpdate, run_underlying hm.eq, hgo, hck, Instr.findKey, run_underlying hk.eq, h2, hso, h5', h6, Instr.keyThatStays, sameBits_int]) h
/-! ### Pointers held against nil -/
theorem run_eqPtr {pt : TypeId} (hp : P.underlying t = some (.pointer pt)) {a b : Option Addr} (h : a = none ∨ b = none) : (Op.equal t (.pointer a) (.pointer b)).run P w = .ok (decide (a = b)) w := by
  show (Op.equalIn (9999 + 1) t (.pointer a) (.pointer b)).run P w = _
  unfold Op.equalIn
  cases a with
  | none => cases b <;> simp [run_underlying hp]
  | some a =>
    obtain rfl : b = none := h.resolve_left (by simp)
    simp [run_underlying hp]
theorem T.ptrEq {a b : Option Addr} {yt pt : TypeId} {r : Bool} (cx : Cx P ops Q o Kn Kr kd) (ho : o.op = .binOp .eql t x y yt) (hw : wants ops env o true) (hf : fits N o = true) (hx : ev env x = some (.pointer a)) (hy : ev env y = some (.pointer b)) (ht : P.underlying t = some (.pointer pt)) (hn : a = none ∨ b = none) (hr : decide (a = b) = r) (h : T N D B (ptE o (.bool r) env) hs Kr) : T N D B env hs Kn :=
  T.bin' cx ho hw hf hx hy (fun w => by
    have hq := run_eqPtr (w := w) ht hn
    rw [eqGuard_at_pointer]
    simp only [binOp, Sem.run_bind, Sem.run_pure, Result.andThen_ok, hq, hr]) h
theorem T.ptrNe {a b : Option Addr} {yt pt : TypeId} {r : Bool} (cx : Cx P ops Q o Kn Kr kd) (ho : o.op = .binOp .neq t x y yt) (hw : wants ops env o true) (hf : fits N o = true) (hx : ev env x = some (.pointer a)) (hy : ev env y = some (.pointer b)) (ht : P.underlying t = some (.pointer pt)) (hn : a = none ∨ b = none) (hr : (!decide (a = b)) = r) (h : T N D B (ptE o (.bool r) env) hs Kr) : T N D B env hs Kn :=
  T.bin' cx ho hw hf hx hy (fun w => by
    have hq := run_eqPtr (w := w) ht hn
    rw [eqGuard_at_pointer]
    simp only [binOp, Sem.run_bind, Sem.run_pure, Result.andThen_ok, hq, hr]) h
/-! ### copy -/
theorem Encs.one1 {enc : α → Value} {h1' : ∀ x, (enc x).oneCell' = true} {z : PH} : ∀ {l : List α} {cs : List Value}, Encs (Elt.sc enc h1') z l cs → cs = l.map enc
  | [], _, h => h
  | x :: l, _, ⟨vs, r, h, e, f⟩ => by
    have e : vs = [enc x] := e
    rw [h, e, Encs.one1 f]; rfl
theorem Encs.of1 {enc : α → Value} {h1' : ∀ x, (enc x).oneCell' = true} {z : PH} : ∀ l : List α, Encs (Elt.sc enc h1') z l (l.map enc)
  | [] => rfl
  | x :: l => ⟨[enc x], l.map enc, rfl, rfl, Encs.of1 l⟩
/-- copy(d, s): into the beginning of what is one's own. -/
theorem T.copyBf (cx : Cx P ops Q o Kn Kr (kd + 2)) (i : Nat) {enc : α → Value} {h1' : ∀ x, (enc x).oneCell' = true} {T' dT sT : TypeId} {n cap' : Nat} {As : Option Addr} {ns caps : Nat} {ls : List α} {x y : Operand} {hs' : List MP} [hsl : SL P dT e] [ht : TI P e 1 bytes agg zero]
    (hi : hs[i]? = some (Bf (Elt.sc enc h1') T' A cap l)) (ho : o.op = .call { callee := .builtin .copy, args := #[x, y], argTypes := #[dT, sT] }) (hw : wants ops env o true) (hf : fits N o = true) (hx : ev env x = some (.slice A n cap')) (hy : ev env y = some (.slice As ns caps)) (hn : n ≤ l.length) (hns : ns = ls.length)
    (hr : ∀ w, St B hs w → Rd (Elt.sc enc h1') (PH.of w) As ls) (he : hs.set i (Bf (Elt.sc enc h1') T' A cap (ls.take (min ns n) ++ l.drop (min ns n))) = hs')
    (h : T N D B (ptE o (.int .i64 ((min ns n : Nat) : Int)) env) hs' Kr) : T N D B env hs Kn :=
  T.valW cx (X := Unit) (v := fun _ => .int .i64 ((min ns n : Nat) : Int)) (hs' := fun _ => hs') hw hf (fun a w h3 h4 => by
    subst he; subst hns
    have hinf : (P.info? e).map (·.size) = some 1 := by
      obtain ⟨inf, h, _, h2, _⟩ := ht.get
      simp [h, h2]
    have hRd := hr w h4
    obtain ⟨cs0, c1, c2⟩ := Rd.cells ls hRd
    have c1 := Encs.one1 c1
    obtain ⟨zz, hh0, ho', hd, hz, hh, hT⟩ := h4
    obtain ⟨g1, g2, hA, hd12, rfl, hset⟩ := ho'.get hi
    have lh1 : PH.le g1 (PH.of w) := PH.le_trans (PH.le_join_l _ _) hh
    have lh2 : PH.le g2 (PH.of w) := PH.le_trans (PH.le_join_r hd12) hh
    have ⟨dz1, dz2⟩ := PH.disj_join_r.1 hd
    have back : ∀ {l' : List α}, l' = l → St B (hs.set i (Bf (Elt.sc enc h1') T' A cap l')) w := fun {l'} e => by
      rw [e]
      exact ⟨zz, _, hset _ zz g1 (PH.le_refl _) hA hd12, hd, hz, hh, hT⟩
    by_cases hm : min ls.length n = 0
    · refine ⟨(), w, ?_, back (by rw [hm]; simp)⟩
      have hrun := run_copy_none (P := P) w dT sT o.type e A As n cap' ls.length caps hsl.eq hinf hm
      simp only [execOp, ho, resolve, invoke, builtin, Sem.run_bind, Sem.run_pure, Result.andThen_ok, List.map_toArray, List.map_cons, List.map_nil, h3.eval hx, h3.eval hy, hrun, hm]
      rfl
    · rcases hA with ⟨_, _, rfl, _⟩ | ⟨b, cs, sp, rfl, hE, hcl, hcm, rfl⟩
      · simp at hn; omega
      · have hls : ls ≠ [] := by intro e; rw [e] at hm; simp at hm
        obtain ⟨b2, o2, cells, ty, fr, rfl, hb2, hc2⟩ := c2 hls
        have hblk : w.heap[b]? = some (.cells (cs ++ sp).toArray T' (0, 0)) := lh1 b _ (PH.one_self _ _)
        have hE := Encs.one1 hE
        have hsz : (Elt.sc enc h1').sz = 1 := rfl
        have hcsl : cs.length = l.length := by rw [hE]; simp
        have hml : min ls.length n ≤ ls.length := Nat.min_le_left _ _
        have hmn : min ls.length n ≤ n := Nat.min_le_right _ _
        have hrun := run_copy_row (P := P) w dT sT o.type e b 0 n cap' ⟨b2, o2, none⟩ ls.length caps (cs ++ sp).toArray T' ((ls.take (min ls.length n)).map enc) hsl.eq hinf hblk (by simp) (fun j v hj => by
          have hj' : cs0[j]? = some v := by
            rw [c1, List.getElem?_map]
            rw [List.getElem?_map, List.getElem?_take] at hj
            split at hj
            · exact hj
            · cases hj
          have := hc2 j v hj'
          rw [Addr.add_mid]
          simpa [World.cell?, show w.heap[b2]? = _ from hb2] using this) (by simp; omega) (fun v hv => by
          obtain ⟨u, _, rfl⟩ := List.mem_map.1 hv
          exact h1' u)
        have hlen : ((ls.take (min ls.length n)).map enc).length = min ls.length n := by simp
        have hnew : ((cs ++ sp).toArray.toList.take 0 ++ (ls.take (min ls.length n)).map enc ++ (cs ++ sp).toArray.toList.drop (0 + ((ls.take (min ls.length n)).map enc).length)) = (ls.take (min ls.length n) ++ l.drop (min ls.length n)).map enc ++ sp := by
          rw [hlen]
          simp only [List.take_zero, List.nil_append, Nat.zero_add]
          rw [List.drop_append_of_le_length (by omega), hE, List.map_append, List.map_drop, List.append_assoc]
        rw [hnew, hlen] at hrun
        refine ⟨(), w.setRow b ((ls.take (min ls.length n) ++ l.drop (min ls.length n)).map enc ++ sp).toArray, ?_, ?_⟩
        · simp only [execOp, ho, resolve, invoke, builtin, Sem.run_bind, Sem.run_pure, Result.andThen_ok, List.map_toArray, List.map_cons, List.map_nil, h3.eval hx, h3.eval hy, hrun]
          rfl
        · refine St.raw (h1' := PH.one b (.cells ((ls.take (min ls.length n) ++ l.drop (min ls.length n)).map enc ++ sp).toArray T' (0, 0))) hset hd12 dz1 dz2 hz lh2 hT ?_ ?_ ?_ (by simp) rfl rfl rfl
          · refine .inr ⟨b, _, sp, rfl, Encs.of1 _, ?_, hcm, rfl⟩
            rw [hsz] at hcl ⊢
            simp only [List.length_map, List.length_append, List.length_take, List.length_drop]; omega
          · intro k o' hb'
            obtain ⟨rfl, rfl⟩ := PH.one_some hb'
            exact setRow_heap w _ _ _ _ _ hblk
          · intro k hb' hn'
            have hkb : k ≠ b := by rintro rfl; rw [PH.one_self] at hn'; cases hn'
            exact ⟨PH.one_none hkb, setRow_other w b k _ hkb⟩) (fun _ => h)
theorem Rd.ofRo {As : Option Addr} {cs : Nat} {ls : List α} (j : Nat) (hj : hs[j]? = some (Ro E As cs ls)) : ∀ w, St B hs w → Rd E (PH.of w) As ls := fun w h4 => (h4.roRo j hj).2.1
theorem Rd.ofBf {T' : TypeId} {As : Option Addr} {cs : Nat} {ls : List α} (j : Nat) (hpos : Nat.blt 0 E.sz = true) (hj : hs[j]? = some (Bf E T' As cs ls)) : ∀ w, St B hs w → Rd E (PH.of w) As ls := fun w h4 => (h4.roBf j hpos hj).2.1
end
end Go.Proofs.Ytccifnjlfhdpiaa
