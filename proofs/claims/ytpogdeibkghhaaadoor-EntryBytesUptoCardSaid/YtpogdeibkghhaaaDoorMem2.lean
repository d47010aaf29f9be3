/- append, make, literals, copies, cuts; bytes and texts. -/
import Derived.Test.YtpogdeibkghhaaaDoorMem
set_option linter.unusedVariables false
set_option linter.unusedSimpArgs false
set_option linter.unusedSectionVars false
namespace Go.Proofs.YtpogdeibkghhaaaDoor
open Go.RowKit
section
variable {P : Program} {N : Nat} {D : List Deferred} {B : World} {env : Env} {hs : List MP} {Q : Exit → Act → World → Prop} {w : World}
variable {ops : Array Oper} {rest : List Oper} {o : Oper} {Kn Kr : Act → World → Prop} {kd : Nat} {x y c : Operand} {v u r : Value} {t tx ty e : TypeId} {k : IntKind} {i n m : Nat}
variable {size bytes : Nat} {agg : Bool} {zero : Value} {α : Type} {E : Elt α} {A : Option Addr} {l l2 : List α} {cap cr : Nat}

theorem run_append_room' (ht : P.underlying t = some (.slice e)) {inf : TypeInfo} (hi : P.info? e = some inf) (b sLen sCap : Nat) (cur : Array Value) (T' : TypeId) (hb : w.heap[b]? = some (.cells cur T' (0, 0))) (xv : Value) (news : List Value) (hs : Src P inf.size tx xv n news w)
    (hroom : sLen + n ≤ sCap) (hfit : sLen * inf.size + news.length ≤ cur.size) :
    (Builtin.append_ #[t, tx] ty #[.slice (some ⟨b, 0, none⟩) sLen sCap, xv]).run P w = .ok (.slice (some ⟨b, 0, none⟩) (sLen + n) sCap) (w.setRow b (splice cur.toList (sLen * inf.size) news).toArray) := by
  have hst := run_storeCells_at P b (sLen * inf.size) T' news 0 cur w hb (by omega) hs.one
  simp only [Nat.add_zero] at hst
  rcases hs.kind with ⟨e', hk⟩ | hk <;> simp [Builtin.append_, run_underlying ht, run_underlying hk, sizeOf, typeInfo, hi, hs.len, hroom, hs.cells, Addr.add_lit, hst, splice]

theorem St.append (h4 : St B hs w) (hi : hs[i]? = some (Bf E e A cap l)) (hsl : SL P t e) (ht : TI P e size bytes agg zero) (hsz : E.sz = size) (hpos : 0 < size) {xv : Value}
    (hsrc : ∀ z h, Owns hs z h → PH.le z (PH.of w) → PH.le h (PH.of w) → ∃ news, Encs E z l2 news ∧ Src P size tx xv l2.length news w) (hb : (l.length + l2.length) * bytes ≤ 140737488355328) (hm : l.length + l2.length ≤ maxLen) :
    ∃ A' cap' w', (Builtin.append_ #[t, tx] ty #[.slice A l.length cap, xv]).run P w = .ok (.slice A' (l ++ l2).length cap') w' ∧ St B (hs.set i (Bf E e A' cap' (l ++ l2))) w' := by
  subst hsz
  obtain ⟨inf, hinf, hz0, hsz', hby⟩ := ht.get
  obtain ⟨z, h, ho, hd, hz, hh, hT⟩ := h4
  obtain ⟨news, hnews, hS⟩ := hsrc z h ho hz hh
  obtain ⟨h1, h2, hA, hd12, rfl, hset⟩ := ho.get hi
  have hnl := hnews.length
  have hlen : (l ++ l2).length = l.length + l2.length := List.length_append
  have hml : l.length + l2.length ≤ 9223372036854775807 := by simp only [maxLen] at hm; omega
  have lh1 : PH.le h1 (PH.of w) := PH.le_trans (PH.le_join_l _ _) hh
  have lh2 : PH.le h2 (PH.of w) := PH.le_trans (PH.le_join_r hd12) hh
  have ⟨dz1, dz2⟩ := PH.disj_join_r.1 hd
  rw [hlen]
  -- it grows
  have grow : ∀ (olds : List Value), Encs E z l olds → cap < l.length + l2.length → (Builtin.firstCells E.sz l.length (.slice A l.length cap)).run P w.drew = .ok olds.toArray w.drew →
      ∃ A' cap' w', (Builtin.append_ #[t, tx] ty #[.slice A l.length cap, xv]).run P w = .ok (.slice A' (l.length + l2.length) cap') w' ∧ St B (hs.set i (Bf E e A' cap' (l ++ l2))) w' := by
    intro olds holds hlt hfc
    have hr := run_append_grow_src (P := P) w t tx ty e inf zero hsl.eq hinf hz0 A l.length cap olds (by rw [hsz']; exact hfc) xv l2.length news (by rw [hsz']; exact hS) hlt (by omega) (by rw [hby]; exact growslice_fits hlt hb)
    refine ⟨_, _, _, hr, ?_⟩
    have hcap := grownCap_ge w (l.length + l2.length) cap e
    have hcm := grownCap_le_maxLen w (l.length + l2.length) cap e hm
    generalize grownCap w (l.length + l2.length) cap e = nc at *
    have holl := holds.length
    have hblk : ((olds ++ news).toArray ++ Builtin.zeroCells zero.cells (nc - (l.length + l2.length))) = (olds ++ news ++ (Builtin.zeroCells zero.cells (nc - (l.length + l2.length))).toList).toArray := by
      apply Array.ext'; simp
    rw [hblk]
    refine St.raw (h1' := PH.one w.heap.size (.cells (olds ++ news ++ (Builtin.zeroCells zero.cells (nc - (l.length + l2.length))).toList).toArray e (0, 0))) hset hd12 dz1 dz2 hz lh2 hT ?_ ?_ ?_ (by simp) rfl rfl rfl
    · refine .inr ⟨w.heap.size, olds ++ news, _, rfl, holds.app hnews, ?_, hcm, rfl⟩
      have ez : (Builtin.zeroCells zero.cells (nc - (l.length + l2.length))).toList.length = (nc - (l.length + l2.length)) * E.sz := by rw [Array.length_toList, size_zeroCells, ht.zsize]
      rw [List.length_append, holl, hnl, ez, ← Nat.add_mul, ← Nat.add_mul]
      congr 1; omega
    · intro b o' hb'
      obtain ⟨rfl, rfl⟩ := PH.one_some hb'
      exact heap_alloc_new w.drew _
    · exact fun b hb' hn => ⟨PH.one_none (by omega), Below.heap_alloc w.drew _ b hb'⟩
  rcases hA with ⟨rfl, rfl, rfl, rfl⟩ | ⟨b, cs, sp, rfl, hE, hcl, hcm, rfl⟩
  · by_cases h0 : l2 = []
    · subst h0
      have hn : news = [] := List.eq_nil_of_length_eq_zero (by rw [hnl]; simp)
      subst hn
      refine ⟨none, 0, w, ?_, St.raw (h1' := PH.emp) hset hd12 dz1 dz2 hz lh2 hT (.inl ⟨rfl, rfl, rfl, rfl⟩) (PH.emp_le _) (fun b _ _ => ⟨rfl, rfl⟩) (Nat.le_refl _) rfl rfl rfl⟩
      have hl0 := hS.len
      have hc0 := hS.cells
      rcases hS.kind with ⟨e', hk⟩ | hk <;> (simp only [List.length_nil] at hl0 hc0; simp [Builtin.append_, run_underlying hsl.eq, run_underlying hk, sizeOf, typeInfo, hinf, hsz', hl0, hc0])
    · refine grow [] rfl ?_ (run_firstCells_none w.drew _ 0 0 0)
      have := List.length_pos_iff.2 h0
      simpa using this
  · have hcsl := hE.length
    have hblk : w.heap[b]? = some (.cells (cs ++ sp).toArray e (0, 0)) := lh1 b _ (PH.one_self _ _)
    by_cases hroom : l.length + l2.length ≤ cap
    · have hmul := Nat.mul_le_mul_right E.sz hroom
      rw [Nat.add_mul] at hmul
      have hr := run_append_room' (P := P) (tx := tx) (ty := ty) hsl.eq hinf b l.length cap (cs ++ sp).toArray e hblk xv news (by rw [hsz']; exact hS) hroom (by rw [hsz', hnl]; simp; omega)
      refine ⟨_, _, _, hr, ?_⟩
      have hs1 : splice (cs ++ sp) (l.length * inf.size) news = (cs ++ news) ++ sp.drop news.length := by
        rw [hsz', ← hcsl]
        simp [splice]
      simp only [List.toList_toArray, hs1]
      refine St.raw (h1' := PH.one b (.cells ((cs ++ news) ++ sp.drop news.length).toArray e (0, 0))) hset hd12 dz1 dz2 hz lh2 hT ?_ ?_ ?_ (by simp) rfl rfl rfl
      · refine .inr ⟨b, cs ++ news, _, rfl, hE.app hnews, ?_, hcm, rfl⟩
        rw [List.length_append, List.length_drop]; omega
      · intro k o' hb'
        obtain ⟨rfl, rfl⟩ := PH.one_some hb'
        exact setRow_heap w _ _ _ e _ hblk
      · intro k hb' hn
        have hkb : k ≠ b := by rintro rfl; rw [PH.one_self] at hn; cases hn
        exact ⟨PH.one_none hkb, setRow_other w b k _ hkb⟩
    · refine grow cs hE (by omega) ?_
      have := run_firstCells_some (P := P) w.drew E.sz l.length ⟨b, 0, none⟩ l.length cap cs hcsl (fun j u hj => by
        rw [Addr.add_mid, Nat.zero_add]
        simp only [World.cell?, World.drew]
        rw [hblk]
        simp only [Option.isSome_none, Bool.false_eq_true, if_false, List.getElem?_toArray]
        rw [List.getElem?_append_left (List.getElem?_eq_some_iff.1 hj).1]; exact hj)
      exact this

/-! ### Where a list's cells lie -/
theorem Rd.cells {z : PH} : ∀ (l : List α) {A : Option Addr}, Rd E z A l → ∃ cs, Encs E z l cs ∧ (l ≠ [] → ∃ b o cells ty fr, A = some ⟨b, o, none⟩ ∧ z b = some (.cells cells ty fr) ∧ ∀ j u, cs[j]? = some u → cells[o + j]? = some u)
  | [], A, _ => ⟨[], rfl, fun h => absurd rfl h⟩
  | x :: l, A, r => by
    obtain ⟨b, o, cells, ty, fr, vs, rfl, hb, hE, hv⟩ := r.get (i := 0) (x := x) rfl
    obtain ⟨cs, h1, h2⟩ := Rd.cells l (by simpa using r.drop 1)
    refine ⟨vs ++ cs, ⟨vs, cs, rfl, hE, h1⟩, fun _ => ⟨b, o, cells, ty, fr, rfl, hb, fun j u hj => ?_⟩⟩
    have hvl := E.len _ _ _ hE
    rcases Nat.lt_or_ge j vs.length with hlt | hge
    · rw [List.getElem?_append_left hlt] at hj
      simpa using hv j u hj
    · rw [List.getElem?_append_right hge] at hj
      by_cases hl : l = []
      · subst hl
        have : cs = [] := h1
        subst this; simp at hj
      · obtain ⟨b', o', cells', ty', fr', hA, hb', hc⟩ := h2 hl
        cases hA
        rw [hb] at hb'; cases hb'
        have := hc _ u hj
        rw [← this]; congr 1; omega
theorem src_ro {z h : PH} {xA : Option Addr} {xc : Nat} (hR : Rd E z xA l2) (hz : PH.le z (PH.of w)) {e' : TypeId} (hk : P.underlying tx = some (.slice e')) (hsz : E.sz = size) : ∃ news, Encs E z l2 news ∧ Src P size tx (.slice xA l2.length xc) l2.length news w := by
  subst hsz
  obtain ⟨cs, h1, h2⟩ := Rd.cells l2 hR
  refine ⟨cs, h1, ?_⟩
  by_cases hl : l2 = []
  · subst hl
    have : cs = [] := h1
    subst this
    cases xA with
    | none => exact Src.ofNil (P := P) w hk xc
    | some ad => exact Src.ofSlice (P := P) w hk ad 0 xc [] (by simp) (by simp) (by simp)
  · obtain ⟨b, o, cells, ty, fr, rfl, hb, hc⟩ := h2 hl
    refine Src.ofSlice (P := P) w hk ⟨b, o, none⟩ l2.length xc cs h1.length (fun j u hj => ?_) (fun u hu => h1.one u hu)
    rw [Addr.add_mid]
    simp only [World.cell?, show w.heap[b]? = _ from hz b _ hb]
    simpa using hc j u hj
theorem src_bf {z h : PH} {T' : TypeId} {xA : Option Addr} {xc xc' : Nat} (hp : (Bf E T' xA xc' l2).p z h) (hh : PH.le h (PH.of w)) {e' : TypeId} (hk : P.underlying tx = some (.slice e')) (hsz : E.sz = size) : ∃ news, Encs E z l2 news ∧ Src P size tx (.slice xA l2.length xc) l2.length news w := by
  subst hsz
  rcases hp with ⟨rfl, rfl, rfl, rfl⟩ | ⟨b, cs, sp, rfl, h1, _, _, rfl⟩
  · exact ⟨[], rfl, Src.ofNil (P := P) w hk xc⟩
  · refine ⟨cs, h1, Src.ofSlice (P := P) w hk ⟨b, 0, none⟩ l2.length xc cs h1.length (fun j u hj => ?_) (fun u hu => h1.one u hu)⟩
    rw [Addr.add_mid, Nat.zero_add]
    simp only [World.cell?, show w.heap[b]? = _ from hh b _ (PH.one_self _ _)]
    rw [if_neg (by simp), List.getElem?_toArray, List.getElem?_append_left (List.getElem?_eq_some_iff.1 hj).1]; exact hj

section
variable {hs' : Option Addr → Nat → List MP}
theorem T.appendAny (cx : Cx P ops Q o Kn Kr (kd + 2)) (ho : o.op = .call { callee := .builtin .append, args := #[x, y], argTypes := #[t, tx] }) (hw : wants ops env o true) (hf : fits N o = true) (i : Nat) (hi : hs[i]? = some (Bf E e A cap l)) [hsl : SL P t e] [ht : TI P e size bytes agg zero] (hsz : E.sz = size) (hpos : Nat.blt 0 size = true)
    (hx : ev env x = some (.slice A n cap)) (hn : n = l.length) {xv : Value} (hy : ev env y = some xv)
    (hsrc : ∀ w z h, Owns hs z h → PH.le z (PH.of w) → PH.le h (PH.of w) → ∃ news, Encs E z l2 news ∧ Src P size tx xv l2.length news w) (hby : Nat.ble 1 bytes = true) (hb : (l.length + l2.length) * bytes ≤ 140737488355328)
    (he : ∀ A' cap', hs.set i (Bf E e A' cap' (l ++ l2)) = hs' A' cap')
    (h : ∀ A' cap', T N D B (ptE o (.slice A' (l ++ l2).length cap') env) (hs' A' cap') Kr) : T N D B env hs Kn :=
  T.valW cx (X := Option Addr × Nat) (v := fun q => .slice q.1 (l ++ l2).length q.2) (hs' := fun q => hs' q.1 q.2) hw hf (fun a w h3 h4 => by
    subst hn
    obtain ⟨A', cap', w', hr, hS⟩ := h4.append (ty := o.type) (tx := tx) hi hsl ht hsz (Nat.lt_of_succ_le (by simpa [Nat.blt] using hpos)) (hsrc w) hb (by
      have h1 := Nat.le_of_ble_eq_true hby
      have h2 : l.length + l2.length ≤ (l.length + l2.length) * bytes := Nat.le_mul_of_pos_right _ h1
      simp only [maxLen]; omega)
    refine ⟨(A', cap'), w', ?_, by rw [← he]; exact hS⟩
    simp only [execOp, ho, resolve, invoke, builtin, Sem.run_bind, Sem.run_pure, Result.andThen_ok, List.map_toArray, List.map_cons, List.map_nil, h3.eval hx, h3.eval hy, hr]) (fun q => h q.1 q.2)
/-- append(own, read...). -/
theorem T.appRo (cx : Cx P ops Q o Kn Kr (kd + 2)) (i j : Nat) {xA : Option Addr} {xc : Nat} (hi : hs[i]? = some (Bf E e A cap l)) (hj : hs[j]? = some (Ro E xA cr l2)) [hsl : SL P t e] [hsl' : SL P tx e] [ht : TI P e size bytes agg zero] (hsz : E.sz = size) (hpos : Nat.blt 0 size = true)
    (ho : o.op = .call { callee := .builtin .append, args := #[x, y], argTypes := #[t, tx] }) (hw : wants ops env o true) (hf : fits N o = true)
    (hx : ev env x = some (.slice A n cap)) (hn : n = l.length) (hy : ev env y = some (.slice xA m xc)) (hm' : m = l2.length) (hby : Nat.ble 1 bytes = true) (hb : (l.length + l2.length) * bytes ≤ 140737488355328)
    (he : ∀ A' cap', hs.set i (Bf E e A' cap' (l ++ l2)) = hs' A' cap')
    (h : ∀ A' cap', T N D B (ptE o (.slice A' (l ++ l2).length cap') env) (hs' A' cap') Kr) : T N D B env hs Kn := by
  subst hm'
  exact T.appendAny cx ho hw hf i hi hsz hpos hx hn hy (fun w z h ho hz hh => by
    obtain ⟨h1, ⟨_, hR, _⟩, _⟩ := ho.sub hj
    exact src_ro (h := h) hR hz hsl'.eq hsz) hby hb he h
/-- append(own, own...). -/
theorem T.appBf (cx : Cx P ops Q o Kn Kr (kd + 2)) (i j : Nat) {xA : Option Addr} {xc xc' : Nat} {T' : TypeId} (hi : hs[i]? = some (Bf E e A cap l)) (hj : hs[j]? = some (Bf E T' xA xc' l2)) [hsl : SL P t e] [hsl' : SL P tx e] [ht : TI P e size bytes agg zero] (hsz : E.sz = size) (hpos : Nat.blt 0 size = true)
    (ho : o.op = .call { callee := .builtin .append, args := #[x, y], argTypes := #[t, tx] }) (hw : wants ops env o true) (hf : fits N o = true)
    (hx : ev env x = some (.slice A n cap)) (hn : n = l.length) (hy : ev env y = some (.slice xA m xc)) (hm' : m = l2.length) (hby : Nat.ble 1 bytes = true) (hb : (l.length + l2.length) * bytes ≤ 140737488355328)
    (he : ∀ A' cap', hs.set i (Bf E e A' cap' (l ++ l2)) = hs' A' cap')
    (h : ∀ A' cap', T N D B (ptE o (.slice A' (l ++ l2).length cap') env) (hs' A' cap') Kr) : T N D B env hs Kn := by
  subst hm'
  exact T.appendAny cx ho hw hf i hi hsz hpos hx hn hy (fun w z h ho hz hh => by
    obtain ⟨h1, hp, hle⟩ := ho.sub hj
    exact src_bf hp (PH.le_trans hle hh) hsl'.eq hsz) hby hb he h
end
/-! ### Literals, make -/
/-- x[i] = v in a slice of one's own, elements of one cell. -/
theorem T.stBf (cx : Cx P ops Q o Kn Kr (kd + 2)) [Inhabited α] (i : Nat) {enc : α → Value} {h1' : ∀ x, (enc x).oneCell' = true} {j : Int} {T' : TypeId} {z : α} {hs' : List MP} [ht : TI P t 1 bytes false zero] (hi : hs[i]? = some (Bf (Elt.sc enc h1') T' A cap l)) (ho : o.op = .store t x y) (hw : wants ops env o true) (hf : fits N o = true)
    (hx : ev env x = some (ep A (j.toNat * 1))) (hy : ev env y = some v) (hv : v = enc z) (h0 : 0 ≤ j) (hj : j < (l.length : Int)) (he : hs.set i (Bf (Elt.sc enc h1') T' A cap (l.set j.toNat z)) = hs')
    (h : T N D B (ptE o undef env) hs' Kr) : T N D B env hs Kn :=
  T.stepW cx hw hf (fun a w h3 h4 => by
    subst he; subst hv
    obtain ⟨zz, h, ho', hd, hz, hh, hT⟩ := h4
    obtain ⟨h1, h2, hA, hd12, rfl, hset⟩ := ho'.get hi
    have lh1 : PH.le h1 (PH.of w) := PH.le_trans (PH.le_join_l _ _) hh
    have lh2 : PH.le h2 (PH.of w) := PH.le_trans (PH.le_join_r hd12) hh
    have ⟨dz1, dz2⟩ := PH.disj_join_r.1 hd
    rcases hA with ⟨_, _, rfl, _⟩ | ⟨b, cs, sp, rfl, hE, hcl, hcm, rfl⟩
    · simp at hj; omega
    · have hblk : w.heap[b]? = some (.cells (cs ++ sp).toArray T' (0, 0)) := lh1 b _ (PH.one_self _ _)
      have hcsl := hE.length
      have hsz1 : (Elt.sc enc h1').sz = 1 := rfl
      rw [hsz1] at hcl hcsl
      have hoc := h1' z
      have hcells : (enc z).cells = #[enc z] := by cases hz' : enc z <;> first | rfl | (rw [hz'] at hoc; cases hoc)
      have hr := run_storeN (P := P) (w := w) (b := b) (off := 0 + j.toNat * 1) (cs := (cs ++ sp).toArray) (v := enc z) ht hblk (by rw [hcells]; rfl) (by simp; omega) (by rw [hcells]; simp [hoc])
      have hspl : splice (cs ++ sp) (0 + j.toNat * 1) [enc z] = (cs.take (j.toNat * 1) ++ [enc z] ++ cs.drop (j.toNat * 1 + 1)) ++ sp := by
        have : j.toNat * 1 + 1 ≤ cs.length := by omega
        simp only [splice, Nat.zero_add, List.length_cons, List.length_nil]
        rw [List.take_append_of_le_length (by omega), List.drop_append_of_le_length (by omega)]
        simp [List.append_assoc]
      rw [hcells] at hr
      simp only [List.toList_toArray, hspl] at hr
      refine ⟨_, by simp only [execOp, ho, h3.eval hx, h3.eval hy, ep_some, Sem.run_bind, hr, Result.andThen_ok, Sem.run_pure]; rfl, ?_⟩
      refine St.raw (h1' := PH.one b (.cells ((cs.take (j.toNat * 1) ++ [enc z] ++ cs.drop (j.toNat * 1 + 1)) ++ sp).toArray T' (0, 0))) hset hd12 dz1 dz2 hz lh2 hT ?_ ?_ ?_ (by simp) rfl rfl rfl
      · refine .inr ⟨b, _, sp, rfl, hE.set j.toNat (vs := [enc z]) rfl (by omega), ?_, hcm, rfl⟩
        rw [hsz1]; simp only [List.length_append, List.length_take, List.length_drop, List.length_cons, List.length_nil]; omega
      · intro k o' hb'
        obtain ⟨rfl, rfl⟩ := PH.one_some hb'
        exact setRow_heap w _ _ _ _ _ hblk
      · intro k hb' hn
        have hkb : k ≠ b := by rintro rfl; rw [PH.one_self] at hn; cases hn
        exact ⟨PH.one_none hkb, setRow_other w b k _ hkb⟩) h
/-- make([]T, n), elements of one cell. -/
theorem T.make (cx : Cx P ops Q o Kn Kr (kd + 2)) {enc : α → Value} {h1' : ∀ x, (enc x).oneCell' = true} {z0 : α} {kl kc : IntKind} {j : Int} [hsl : SL P t e] [ht : TI P e 1 bytes false zero] (hz : zero = enc z0) (ho : o.op = .makeSlice t x y) (hw : wants ops env o true) (hf : fits N o = true)
    (hx : ev env x = some (.int kl j)) (hy : ev env y = some (.int kc j)) (hby : Nat.ble 1 bytes = true) (hc : 0 ≤ j ∧ j * bytes ≤ 140737488355328)
    (h : ∀ b, T N D B (ptE o (.slice (some ⟨b, 0, none⟩) (List.replicate j.toNat z0).length j.toNat) env) (Bf (Elt.sc enc h1') e (some ⟨b, 0, none⟩) j.toNat (List.replicate j.toNat z0) :: hs) Kr) : T N D B env hs Kn :=
  T.valW cx (v := fun b => .slice (some ⟨b, 0, none⟩) (List.replicate j.toNat z0).length j.toNat) hw hf (fun a w h3 h4 => by
    subst hz
    obtain ⟨h0, hcb⟩ := hc
    obtain ⟨n, rfl⟩ := Int.eq_ofNat_of_zero_le h0
    have h1b := Nat.le_of_ble_eq_true hby
    have hb : bytes * n ≤ 140737488355328 := by rw [Nat.mul_comm]; omega
    have h63 : n ≤ 140737488355328 := Nat.le_trans (Nat.le_mul_of_pos_left _ h1b) hb
    rw [Int.toNat_natCast] at *
    obtain ⟨inf, hi, hz', hs', hb'⟩ := ht.get
    have hoc := h1' z0
    have hcells : (enc z0).cells = #[enc z0] := by cases hz' : enc z0 <;> first | rfl | (rw [hz'] at hoc; cases hoc)
    have hr := run_make_row (P := P) (w := w) t e inf (enc z0) hsl.eq hi hz' hs' hcells kl kc n (by rw [hb']; omega) (by omega)
    refine ⟨w.heap.size, _, by simp only [execOp, ho, h3.eval hx, h3.eval hy, Sem.run_bind, hr, Result.andThen_ok, Sem.run_pure, List.length_replicate]; rfl, ?_⟩
    have hA := h4.allocCl (madeCells #[enc z0] n) e
    rw [toList_madeCells_one] at hA
    refine hA.conseq 0 rfl (A' := Bf (Elt.sc enc h1') e (some ⟨w.heap.size, 0, none⟩) n (List.replicate n z0)) fun z g hg => .inr ⟨w.heap.size, List.replicate n (enc z0), [], rfl, ?_, ?_, ?_, ?_⟩
    · have := Encs.sc (z := z) (h1 := h1') (List.replicate n z0)
      rwa [List.map_replicate] at this
    · simp [Elt.sc, Elt.flat]
    · simp only [maxLen]; omega
    · rw [List.append_nil]; exact hg) h
/-- A literal. -/
theorem T.lit (cx : Cx P ops Q o Kn Kr (kd + 2)) {len : Nat} {parts : Array (Nat × Operand)} {vals : List (Nat × Value)} {cells : Array Value} (ho : o.op = .buildSlice t len parts) (hw : wants ops env o true) (hf : fits N o = true) [hsl : SL P t e] [ht : TI P e size bytes agg zero] (hsz : E.sz = size)
    (hvals : (parts.toList.map fun q => (q.1, ev env q.2)) = vals.map fun q => (q.1, some q.2))
    (hsmall : Nat.ble (len * size) 16777216 = true) (hpos : Nat.ble 1 (len * size) = true)
    (hfill : Instr.fill (fun i => some (i * size, size)) ((Array.range (len * size)).map (zero.cells[· % zero.cells.size]!)) vals = some cells) (l : List α) (hl : l.length = len) (hE : ∀ w, St B hs w → ∀ z h, Owns hs z h → Encs E z l cells.toList)
    (h : ∀ b, T N D B (ptE o (.slice (some ⟨b, 0, none⟩) l.length len) env) (Bf E e (some ⟨b, 0, none⟩) len l :: hs) Kr) : T N D B env hs Kn :=
  T.valW cx (v := fun b => .slice (some ⟨b, 0, none⟩) l.length len) hw hf (fun a w h3 h4 => by
    subst hl; subst hsz
    obtain ⟨inf, hinf, hz, hsz, _⟩ := ht.get
    have h1 := Nat.le_of_ble_eq_true hsmall
    have h2 := Nat.le_of_ble_eq_true hpos
    have key : ∀ (ps : List (Nat × Operand)) (vs : List (Nat × Value)), (ps.map fun q => (q.1, ev env q.2)) = (vs.map fun q => (q.1, some q.2)) → ps.map (fun q => (q.1, a.eval q.2)) = vs := by
      intro ps
      induction ps with
      | nil => intro vs hv; cases vs <;> simp_all
      | cons p ps ih =>
        intro vs hv
        cases vs with
        | nil => simp at hv
        | cons q vs =>
          simp only [List.map_cons, List.cons.injEq, Prod.mk.injEq] at hv
          simp only [List.map_cons, ih vs hv.2, h3.eval hv.1.2, ← hv.1.1]
          rw [hv.1.1]
    have hp : (parts.map fun (i, x) => (i, a.eval x)).toList = vals := by rw [Array.toList_map]; exact key _ _ hvals
    have hr := run_buildSlice (P := P) w t e l.length (parts.map fun (i, x) => (i, a.eval x)) cells inf zero hsl.eq hinf hz (by rw [hsz]; omega) (by rw [hsz]; omega) (by rw [hsz, hp]; exact hfill)
    refine ⟨w.heap.size, _, by simp only [execOp, ho, Sem.run_bind, hr, Result.andThen_ok, Sem.run_pure]; rfl, ?_⟩
    obtain ⟨z, g, ho', hd, hzz, hg, hT⟩ := h4
    have hE' := hE w ⟨z, g, ho', hd, hzz, hg, hT⟩ z g ho'
    have hst : St B (⟨fun z' h => PH.le z z' ∧ h = PH.one w.heap.size (.cells cells e (0, 0)), fun hz ⟨p, q⟩ => ⟨PH.le_trans p hz, q⟩⟩ :: hs) (w.alloc (.cells cells e)) := by
      refine ⟨z, PH.join (PH.one w.heap.size (.cells cells e (0, 0))) g, ⟨_, g, ⟨PH.le_refl _, rfl⟩, ho', ?_, rfl⟩, PH.disj_join_r.2 ⟨?_, hd⟩, ?_, PH.join_le ?_ ?_, hT.1, ?_, hT.2.2⟩
      · intro b
        by_cases hb : b = w.heap.size
        · subst hb
          refine .inr ?_
          cases hgb : g w.heap.size with
          | none => rfl
          | some o' => exact absurd (lt_of_of (hg _ _ hgb)) (by omega)
        · exact .inl (PH.one_none hb)
      · intro b
        by_cases hb : b = w.heap.size
        · subst hb
          refine .inl ?_
          cases hgb : z w.heap.size with
          | none => rfl
          | some o' => exact absurd (lt_of_of (hzz _ _ hgb)) (by omega)
        · exact .inr (PH.one_none hb)
      · intro b o' hb
        show (w.alloc _).heap[b]? = some o'
        rw [Below.heap_alloc w _ b (lt_of_of (hzz _ _ hb))]; exact hzz _ _ hb
      · intro b o' hb
        obtain ⟨rfl, rfl⟩ := PH.one_some hb
        exact heap_alloc_new w _
      · intro b o' hb
        show (w.alloc _).heap[b]? = some o'
        rw [Below.heap_alloc w _ b (lt_of_of (hg _ _ hb))]; exact hg _ _ hb
      · have := hT.2.1
        simp; omega
    refine hst.conseq 0 rfl (A' := Bf E e (some ⟨w.heap.size, 0, none⟩) l.length l) fun z' g' hg' => .inr ⟨w.heap.size, cells.toList, [], rfl, hE'.up hg'.1, ?_, ?_, ?_⟩
    · have := hE'.length
      simpa using this
    · simp only [maxLen]
      have : l.length ≤ l.length * E.sz := Nat.le_mul_of_pos_right _ (Nat.pos_of_ne_zero (by rintro hz0; rw [hz0] at h2; simp at h2))
      omega
    · rw [List.append_nil]; simpa using hg'.2) h

/-! ### What is one's own is never written again -/
theorem Bf.frozen {T' : TypeId} (hpos : Nat.blt 0 E.sz = true) (z h : PH) (hp : (Bf E T' A cap l).p z h) (hd : PH.disj z h) : (Ro E A cap l).p (PH.join z h) PH.emp := by
  have hpos : 0 < E.sz := Nat.lt_of_succ_le (by simpa [Nat.blt] using hpos)
  refine ⟨rfl, ?_⟩
  rcases hp with ⟨_, rfl, rfl, _⟩ | ⟨b, cs, sp, rfl, hE, hcl, _, rfl⟩
  · exact ⟨.inl rfl, by simp⟩
  · refine ⟨(hE.up (PH.le_join_l _ _)).rd (PH.le_join_r hd _ _ (PH.one_self _ _)), ?_⟩
    have := hE.length
    exact Nat.le_of_mul_le_mul_right (show l.length * E.sz ≤ cap * E.sz by omega) hpos
theorem T.freeze (i : Nat) {T' : TypeId} {K : Act → World → Prop} {hs' : List MP} (hi : hs[i]? = some (Bf E T' A cap l)) (hpos : Nat.blt 0 E.sz = true) (he : hs.set i (Ro E A cap l) = hs') (h : T N D B env hs' K) : T N D B env hs K :=
  T.st (fun w h4 => by rw [← he]; exact h4.freeze i hi (Bf.frozen hpos)) h
/-- nil. -/
theorem T.nilBf (E : Elt α) (T' : TypeId) {K : Act → World → Prop} (h : T N D B env (Bf E T' none 0 ([] : List α) :: hs) K) : T N D B env hs K :=
  T.st (fun w h4 => h4.tell fun z => Or.inl ⟨rfl, rfl, rfl, rfl⟩) h
theorem T.nilRo (E : Elt α) (A : Option Addr) {K : Act → World → Prop} (c : Nat) (h : T N D B env (Ro E A c ([] : List α) :: hs) K) : T N D B env hs K :=
  T.st (fun w h4 => h4.tell fun z => And.intro rfl (And.intro (Or.inl rfl) (Nat.zero_le _))) h
/-- What came in stands in front. -/
theorem T.front (i : Nat) {K : Act → World → Prop} (hi : hs[i]? = some (Ro E A cr l)) (h : T N D B env (Ro E A cr l :: hs) K) : T N D B env hs K :=
  T.st (fun w h4 => h4.dup i hi fun z h ⟨h1, h2⟩ => And.intro rfl h2) h

/-! ### Cuts -/
def subl (l : List α) (lo hi : Int) : List α := (l.take hi.toNat).drop lo.toNat
theorem subl_length {lo hi : Int} (h0 : 0 ≤ lo) (h1 : lo ≤ hi) (h2 : hi ≤ l.length) : (subl l lo hi).length = hi.toNat - lo.toNat := by simp [subl]; omega
theorem run_slice {lo hi : Option Value} {a b : Int} (hsl : SL P t e) (ht : TI P e size bytes agg zero) (hlo : lo = none ∧ a = 0 ∨ ∃ k, lo = some (.int k a)) (hhi : hi = none ∧ b = (n : Int) ∨ ∃ k, hi = some (.int k b)) (h0 : 0 ≤ a) (h1 : a ≤ b) (h2 : b ≤ (cap : Int)) :
    (Instr.sliceAt t (.slice A n cap) lo hi none).run P w = .ok (.slice (if cap = a.toNat then A else A.map (·.add (a.toNat * size))) (b.toNat - a.toNat) (cap - a.toNat)) w := by
  have hb : ∀ (k : IntKind), (Instr.sliceBound (.int k b) cap .sliceAcap).run P w = .ok b.toNat w := fun k => by
    simp [Instr.sliceBound, asIntOf, show (0 ≤ b ∧ b ≤ (cap : Int)) from ⟨by omega, h2⟩]
  have ha : ∀ (k : IntKind) , (Instr.sliceBound (.int k a) b.toNat .sliceB).run P w = .ok a.toNat w := fun k => by
    simp only [Instr.sliceBound, asIntOf, Sem.run_bind, Sem.run_pure, Result.andThen_ok]
    rw [if_pos ⟨h0, by omega⟩]; rfl
  have hbounds : (Instr.sliceBounds true n cap lo hi none).run P w = .ok (a.toNat, b.toNat, cap) w := by
    rcases hlo with ⟨rfl, rfl⟩ | ⟨k, rfl⟩ <;> rcases hhi with ⟨rfl, rfl⟩ | ⟨k', rfl⟩ <;> simp [Instr.sliceBounds, ha, hb]
    · have := ha k
      simp only [Int.toNat_natCast] at this
      simp [this]
  simp only [Instr.sliceAt, Sem.run_bind, run_underlying hsl.eq, Result.andThen_ok, Instr.slice, hbounds, ht.sizeOf, Sem.run_pure]
/-- Where a cut begins. -/
def cutA (A : Option Addr) (cap : Nat) (a : Int) (size : Nat) : Option Addr := if cap = a.toNat then A else A.map (·.add (a.toNat * size))
theorem Rd.cut {z : PH} {a b : Int} (hsz : E.sz = size) (hR : Rd E z A l) (hc : l.length ≤ cap) (h0 : 0 ≤ a) (h1 : a ≤ b) (h2 : b ≤ (l.length : Int)) : Rd E z (cutA A cap a size) (subl l a b) ∧ (subl l a b).length ≤ cap - a.toNat := by
  refine ⟨?_, by rw [subl_length h0 h1 h2]; omega⟩
  subst hsz
  by_cases he : subl l a b = []
  · exact .inl he
  · have hlt : a.toNat < b.toNat := by
      have := List.length_pos_iff.2 he
      rw [subl_length h0 h1 h2] at this; omega
    unfold cutA
    rw [if_neg (by omega)]
    rcases hR.take b.toNat with hnil | ⟨bb, oo, cs, ty, fr, rfl, hb', hc'⟩
    · exfalso; apply he; simp [subl, hnil]
    · have := Rd.drop (E := E) (b := bb) (o := oo) a.toNat (show Rd E z (some ⟨bb, oo, none⟩) (l.take b.toNat) from .inr ⟨bb, oo, cs, ty, fr, rfl, hb', hc'⟩)
      simpa [Addr.add_mid, subl] using this
/-- x[lo:hi] of what is read: what is known of it reaches to hi at least. -/
theorem T.cut (cx : Cx P ops Q o Kn Kr kd) (i : Nat) {lo hi : Option Operand} {a b : Int} [hsl : SL P t e] [ht : TI P e size bytes agg zero] (hsz : E.sz = size) (hi' : hs[i]? = some (Ro E A cap l)) (ho : o.op = .slice t x lo hi none) (hw : wants ops env o true) (hf : fits N o = true)
    (hx : ev env x = some (.slice A n cap)) (hlo : lo = none ∧ a = 0 ∨ ∃ k z, lo = some z ∧ ev env z = some (.int k a)) (hhi : hi = none ∧ b = (n : Int) ∨ ∃ k z, hi = some z ∧ ev env z = some (.int k b)) (h0 : 0 ≤ a) (h1 : a ≤ b) (h2 : b ≤ (l.length : Int))
    (h : T N D B (ptE o (.slice (cutA A cap a size) (subl l a b).length (cap - a.toNat)) env) (Ro E (cutA A cap a size) (cap - a.toNat) (subl l a b) :: hs) Kr) : T N D B env hs Kn :=
  T.valQ cx _ hw hf (fun ac w g3 h4 => by
    have h3 : l.length ≤ cap := by
      obtain ⟨_, _, ⟨_, _, h3⟩, _, _⟩ := h4.fact hi'
      exact h3
    refine ⟨fun w' => ?_, ?_⟩
    · have hr := run_slice (P := P) (A := A) (n := n) (cap := cap) (w := w') (lo := lo.map ac.eval) (hi := hi.map ac.eval) (a := a) (b := b) hsl ht
        (by rcases hlo with ⟨rfl, rfl⟩ | ⟨k, z, rfl, hz⟩; exact .inl ⟨rfl, rfl⟩; exact .inr ⟨k, by rw [Option.map_some, g3.eval hz]⟩)
        (by rcases hhi with ⟨rfl, rfl⟩ | ⟨k, z, rfl, hz⟩; exact .inl ⟨rfl, rfl⟩; exact .inr ⟨k, by rw [Option.map_some, g3.eval hz]⟩) h0 h1 (by omega)
      simp only [execOp, ho, g3.eval hx, Option.map_none, Sem.run_bind, hr, Result.andThen_ok, Sem.run_pure, subl_length h0 h1 h2]; rfl
    · refine h4.dup i hi' fun z g ⟨q1, q2, q3⟩ => ?_
      obtain ⟨r1, r2⟩ := Rd.cut hsz q2 q3 h0 h1 h2
      exact ⟨rfl, r1, r2⟩) h

/-! ### Bytes as a text, a text as bytes -/
theorem run_str {src dst : TypeId} [hs1 : SL P src e] [he : INT P e .u8] [hd : STR P dst] {l : List UInt8} {cs : List Value} (ad : Option Addr) (hcs : cs = l.map b8) (hm : l ≠ [] → ∃ a, ad = some a ∧ ∀ j u, cs[j]? = some u → w.cell? (a.add j) = some u) :
    (convert src dst (.slice ad l.length cap)).run P w = .ok (str l) w := by
  rcases Decidable.em (l = []) with rfl | hne
  · rw [run_convert_bytes_string w src dst e ad _ cap hs1.eq he.eq hd.eq]
    cases ad with
    | none => simp [Conv.bytesToString, str]; rfl
    | some ad =>
      have hl := run_loadCells_list (P := P) w ad [] (fun j v hj => by simp at hj)
      simp only [List.length_nil] at hl
      have := run_bytesToString (P := P) w ad 0 cap [] hl
      rw [show str [] = .string ByteArray.empty from rfl]; simpa using this
  · obtain ⟨a, rfl, ha⟩ := hm hne
    refine run_convert_bytes_back w src dst e a cap l hs1.eq he.eq hd.eq (fun j hj => ?_)
    exact ha j _ (by rw [hcs, List.getElem?_map, List.getElem?_eq_getElem hj]; rfl)
theorem encs8 {z : PH} : ∀ {l : List UInt8} {cs : List Value}, Encs E8 z l cs → cs = l.map b8
  | [], _, h => h
  | x :: l, _, ⟨vs, r, h, e, f⟩ => by
    have e : vs = [b8 x] := e
    rw [h, e, encs8 f]; rfl
theorem T.strRo (cx : Cx P ops Q o Kn Kr (kd + 1)) (i : Nat) {src dst : TypeId} {l : List UInt8} [hs1 : SL P src e] [he : INT P e .u8] [hd : STR P dst] (hi : hs[i]? = some (Ro E8 A cr l)) (ho : o.op = .convert src dst x) (hw : wants ops env o true) (hf : fits N o = true) (hx : ev env x = some (.slice A n cap)) (hn : n = l.length)
    (h : T N D B (ptE o (str l) env) hs Kr) : T N D B env hs Kn :=
  T.val cx _ hw hf (fun a w h3 h4 => by
    subst hn
    obtain ⟨z, g, ⟨_, hR, _⟩, _, hz⟩ := h4.fact hi
    obtain ⟨cs, h1, h2⟩ := Rd.cells l hR
    have := run_str (P := P) (src := src) (dst := dst) (w := w) (cap := cap) A (encs8 h1) (fun hne => by
      obtain ⟨b, o', cells, ty, fr, rfl, hb, hc⟩ := h2 hne
      refine ⟨_, rfl, fun j u hj => ?_⟩
      rw [Addr.add_mid]
      simp only [World.cell?, show w.heap[b]? = _ from hz b _ hb]
      simpa using hc j u hj)
    simp only [execOp, ho, h3.eval hx, Sem.run_bind, this, Result.andThen_ok, Sem.run_pure]) h
theorem T.strBf (cx : Cx P ops Q o Kn Kr (kd + 1)) (i : Nat) {src dst T' : TypeId} {cap' : Nat} {l : List UInt8} [hs1 : SL P src e] [he : INT P e .u8] [hd : STR P dst] (hi : hs[i]? = some (Bf E8 T' A cap' l)) (ho : o.op = .convert src dst x) (hw : wants ops env o true) (hf : fits N o = true) (hx : ev env x = some (.slice A n cap)) (hn : n = l.length)
    (h : T N D B (ptE o (str l) env) hs Kr) : T N D B env hs Kn :=
  T.val cx _ hw hf (fun a w h3 h4 => by
    subst hn
    obtain ⟨z, g, hp, hh, hz⟩ := h4.fact hi
    have := run_str (P := P) (src := src) (dst := dst) (w := w) (cap := cap) A (rfl : l.map b8 = _) (fun hne => by
      rcases hp with ⟨_, _, rfl, _⟩ | ⟨b, cs, sp, rfl, h1, _, _, rfl⟩
      · exact absurd rfl hne
      · refine ⟨_, rfl, fun j u hj => ?_⟩
        have := encs8 h1
        subst this
        rw [Addr.add_mid, Nat.zero_add]
        simp only [World.cell?, show w.heap[b]? = _ from hh b _ (PH.one_self _ _)]
        rw [if_neg (by simp), List.getElem?_toArray, List.getElem?_append_left (List.getElem?_eq_some_iff.1 hj).1]; exact hj)
    simp only [execOp, ho, h3.eval hx, Sem.run_bind, this, Result.andThen_ok, Sem.run_pure]) h
/-- x[:hi]: it begins where it began. -/
theorem T.cut0 (cx : Cx P ops Q o Kn Kr kd) (i : Nat) {lo hi : Option Operand} {b : Int} [hsl : SL P t e] [ht : TI P e size bytes agg zero] (hsz : E.sz = size) (hi' : hs[i]? = some (Ro E A cap l)) (ho : o.op = .slice t x lo hi none) (hw : wants ops env o true) (hf : fits N o = true)
    (hx : ev env x = some (.slice A n cap)) (hlo : lo = none ∨ ∃ k z, lo = some z ∧ ev env z = some (.int k 0)) (hhi : hi = none ∧ b = (n : Int) ∨ ∃ k z, hi = some z ∧ ev env z = some (.int k b)) (h1 : 0 ≤ b) (h2 : b ≤ (l.length : Int))
    (h : T N D B (ptE o (.slice A (subl l 0 b).length cap) env) (Ro E A cap (subl l 0 b) :: hs) Kr) : T N D B env hs Kn :=
  T.valQ cx (.slice A (subl l 0 b).length cap) hw hf (fun ac w g3 h4 => by
    have h3 : l.length ≤ cap := by
      obtain ⟨_, _, ⟨_, _, h3⟩, _, _⟩ := h4.fact hi'
      exact h3
    have hr := fun w' => run_slice (P := P) (A := A) (n := n) (cap := cap) (w := w') (lo := lo.map ac.eval) (hi := hi.map ac.eval) (a := 0) (b := b) hsl ht
      (by rcases hlo with rfl | ⟨k, z, rfl, hz⟩; exact .inl ⟨rfl, rfl⟩; exact .inr ⟨k, by rw [Option.map_some, g3.eval hz]⟩)
      (by rcases hhi with ⟨rfl, rfl⟩ | ⟨k, z, rfl, hz⟩; exact .inl ⟨rfl, rfl⟩; exact .inr ⟨k, by rw [Option.map_some, g3.eval hz]⟩) (by omega) h1 (by omega)
    have hA : (if cap = (0 : Int).toNat then A else A.map (·.add ((0 : Int).toNat * size))) = A := by
      split
      · rfl
      · cases A with
        | none => rfl
        | some ad => simp [Addr.add]
    have hl := subl_length (l := l) (lo := 0) (hi := b) (by omega) h1 h2
    refine ⟨fun w' => ?_, ?_⟩
    · simp only [execOp, ho, g3.eval hx, Option.map_none, Sem.run_bind, hr w', Result.andThen_ok, Sem.run_pure, hl, hA]
      simp
    · exact h4.dup i hi' fun z g ⟨q1, q2, q3⟩ => ⟨rfl, by have := q2.take b.toNat; simpa [subl] using this, by rw [hl]; omega⟩) h

/-! ### Arrays that lie in memory -/
section
variable {γ : Type} [Inhabited γ] {enc : γ → Value} {L : List γ} {T' : TypeId} {b : Nat}
end
/-- A struct or an array, out of its parts. -/
theorem T.build {parts : Array (Nat × Operand)} {vals : List (Nat × Value)} {cells : Array Value} (cx : Cx P ops Q o Kn Kr kd) (ho : o.op = .build t parts) (hw : wants ops env o true) (hf : fits N o = true)
    (hvals : (parts.toList.map fun q => (q.1, ev env q.2)) = vals.map fun q => (q.1, some q.2)) (hr : ∀ w, (Instr.build t vals.toArray).run P w = .ok (.agg cells) w)
    (h : T N D B (ptE o (.agg cells) env) hs Kr) : T N D B env hs Kn :=
  T.valP cx _ hw hf (fun a w h3 => by
    have key : ∀ (ps : List (Nat × Operand)) (vs : List (Nat × Value)), (ps.map fun q => (q.1, ev env q.2)) = (vs.map fun q => (q.1, some q.2)) → ps.map (fun q => (q.1, a.eval q.2)) = vs := by
      intro ps
      induction ps with
      | nil => intro vs hv; cases vs <;> simp_all
      | cons p ps ih =>
        intro vs hv
        cases vs with
        | nil => simp at hv
        | cons q vs =>
          simp only [List.map_cons, List.cons.injEq, Prod.mk.injEq] at hv
          simp only [List.map_cons, ih vs hv.2, h3.eval hv.1.2, ← hv.1.1]
          rw [hv.1.1]
    have hp : parts.map (fun (i, x) => (i, a.eval x)) = vals.toArray := by
      rw [← Array.toList_inj, Array.toList_map]; exact key _ _ hvals
    simp only [execOp, ho, Sem.run_bind, hp, hr w, Result.andThen_ok, Sem.run_pure]) h
/-- A text's bytes, laid anew. -/
theorem T.bytesOf (cx : Cx P ops Q o Kn Kr (kd + 2)) {src : TypeId} {l : List UInt8} (ho : o.op = .convert src t x) (hw : wants ops env o true) (hf : fits N o = true) (hx : ev env x = some (str l)) [hs' : STR P src] [hd : SL P t e] [he : INT P e .u8]
    (h : ∀ q : Nat × Nat, T N D B (ptE o (.slice (some ⟨q.1, 0, none⟩) l.length q.2) env) (Ro E8 (some ⟨q.1, 0, none⟩) q.2 l :: hs) Kr) : T N D B env hs Kn :=
  T.valW cx (v := fun q : Nat × Nat => .slice (some ⟨q.1, 0, none⟩) l.length q.2) hw hf (fun a w h3 h4 => by
    have hrun := run_bytes_of_string (P := P) w src t e ⟨l.toArray⟩ hs'.eq hd.eq he.eq
    refine ⟨(w.heap.size, grownCap w l.length 0 e), _, by simp only [execOp, ho, h3.eval hx, str, Sem.run_bind, hrun, Result.andThen_ok, Sem.run_pure]; rfl, ?_⟩
    have hcap := grownCap_ge w l.length 0 e
    have h2 := h4.drew.alloc (.cells (bytesRow ⟨l.toArray⟩ (grownCap w (ByteArray.mk l.toArray).size 0 e)) e ((bytesRow ⟨l.toArray⟩ (grownCap w (ByteArray.mk l.toArray).size 0 e)).size, (bytesRow ⟨l.toArray⟩ (grownCap w (ByteArray.mk l.toArray).size 0 e)).size + 1))
    have e2 : bytesRow ⟨l.toArray⟩ (grownCap w (ByteArray.mk l.toArray).size 0 e) = (l.map b8 ++ List.replicate (grownCap w l.length 0 e - l.length) (Value.int .u8 0)).toArray := by
      have e1 : (ByteArray.mk l.toArray).size = l.length := by simp [ByteArray.size]
      simp only [bytesRow, e1]
      simp
      exact fun _ _ => rfl
    refine h2.freeze 0 rfl (A' := Ro E8 (some ⟨w.heap.size, 0, none⟩) (grownCap w l.length 0 e) l) fun z g hg hdj => ⟨rfl, ?_, hcap⟩
    rw [e2] at hg
    have hg : g = _ := hg
    subst hg
    exact (Encs.sc (z := PH.join z _) (h1 := fun _ => rfl) l).rd (PH.le_join_r hdj _ _ (PH.one_self _ _))) h
end
end Go.Proofs.YtpogdeibkghhaaaDoor
