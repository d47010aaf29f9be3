/- Slices: what is read, what is one's own. -/
import Derived.Test.YtfdogeebkbaadaaRules
import Derived.Maps.AppendAt
set_option linter.unusedVariables false
set_option linter.unusedSimpArgs false
namespace Go.Proofs.Ytfdogeebkbaadaa
open Go.RowKit

/-- What the cells of a thing say; it may lead to further parts. Upward closed. -/
structure Elt (α : Type) where
  sz : Nat
  E : PH → α → List Value → Prop
  len : ∀ h x vs, E h x vs → vs.length = sz
  up : ∀ h k x vs, PH.le h k → E h x vs → E k x vs
  one : ∀ h x vs, E h x vs → ∀ v ∈ vs, v.oneCell' = true
def Elt.sc {α : Type} (enc : α → Value) (h1 : ∀ x, (enc x).oneCell' = true) : Elt α := ⟨1, fun _ x vs => vs = [enc x], fun _ _ _ h => by rw [h]; rfl, fun _ _ _ _ _ h => h, fun _ x vs h v hv => by rw [h] at hv; simp at hv; rw [hv]; exact h1 x⟩
def b8 (x : UInt8) : Value := .int .u8 (x.toNat : Int)
def E8 : Elt UInt8 := Elt.sc b8 (fun _ => rfl)
def E64 : Elt Int := Elt.sc (Value.int .i64) (fun _ => rfl)

/-- A slice's elements, read in h. -/
def Rd {α : Type} (E : Elt α) (h : PH) (A : Option Addr) (l : List α) : Prop :=
  l = [] ∨ ∃ b o cs ty fr, A = some ⟨b, o, none⟩ ∧ h b = some (.cells cs ty fr) ∧ ∀ i x, l[i]? = some x → ∃ vs, E.E h x vs ∧ ∀ j v, vs[j]? = some v → cs[o + i * E.sz + j]? = some v
theorem Rd.up {α : Type} {E : Elt α} {h k : PH} {A : Option Addr} {l : List α} (r : Rd E h A l) (hk : PH.le h k) : Rd E k A l := by
  rcases r with r | ⟨b, o, cs, ty, fr, hA, hb, hc⟩
  · exact .inl r
  · refine .inr ⟨b, o, cs, ty, fr, hA, hk b _ hb, fun i x hi => ?_⟩
    obtain ⟨vs, hE, hv⟩ := hc i x hi
    exact ⟨vs, E.up _ _ _ _ hk hE, hv⟩
theorem Rd.nil {α : Type} {E : Elt α} {h : PH} {A : Option Addr} : Rd E h A ([] : List α) := .inl rfl
/-- A slice as an element. -/
def Elt.slice {α : Type} (E : Elt α) : Elt (List α) := ⟨1, fun h l vs => ∃ A c, vs = [.slice A l.length c] ∧ l.length ≤ c ∧ Rd E h A l, fun _ _ _ ⟨_, _, h, _⟩ => by rw [h]; rfl,
  fun _ _ _ _ hk ⟨A, c, h, hc, r⟩ => ⟨A, c, h, hc, r.up hk⟩, fun _ _ _ ⟨A, c, h, _⟩ v hv => by rw [h] at hv; simp at hv; rw [hv]; rfl⟩
/-- Two behind each other. -/
def Elt.pair {α β : Type} (E : Elt α) (F : Elt β) : Elt (α × β) := ⟨E.sz + F.sz, fun h x vs => ∃ us ws, vs = us ++ ws ∧ E.E h x.1 us ∧ F.E h x.2 ws,
  fun _ _ _ ⟨us, ws, h, e, f⟩ => by rw [h, List.length_append, E.len _ _ _ e, F.len _ _ _ f],
  fun _ _ _ _ hk ⟨us, ws, h, e, f⟩ => ⟨us, ws, h, E.up _ _ _ _ hk e, F.up _ _ _ _ hk f⟩,
  fun _ _ _ ⟨us, ws, h, e, f⟩ v hv => by rw [h] at hv; rcases List.mem_append.1 hv with hv | hv; exact E.one _ _ _ e v hv; exact F.one _ _ _ f v hv⟩
def Elt.iso {α β : Type} (E : Elt α) (f : β → α) : Elt β := ⟨E.sz, fun h x vs => E.E h (f x) vs, fun _ _ _ h => E.len _ _ _ h, fun _ _ _ _ hk h => E.up _ _ _ _ hk h, fun _ _ _ h => E.one _ _ _ h⟩

theorem Rd.take {α : Type} {E : Elt α} {h : PH} {A : Option Addr} {l : List α} (r : Rd E h A l) (n : Nat) : Rd E h A (l.take n) := by
  rcases r with rfl | ⟨b, o, cs, ty, fr, hA, hb, hc⟩
  · simp [Rd]
  · refine .inr ⟨b, o, cs, ty, fr, hA, hb, fun i x hi => hc i x ?_⟩
    rw [List.getElem?_take] at hi; split at hi
    · exact hi
    · cases hi

/-- The one cell of an element of a list that is read. -/
theorem Rd.get {α : Type} {E : Elt α} {h : PH} {A : Option Addr} {l : List α} (r : Rd E h A l) {i : Nat} {x : α} (hi : l[i]? = some x) :
    ∃ b o cs ty fr vs, A = some ⟨b, o, none⟩ ∧ h b = some (.cells cs ty fr) ∧ E.E h x vs ∧ ∀ j v, vs[j]? = some v → cs[o + i * E.sz + j]? = some v := by
  rcases r with rfl | ⟨b, o, cs, ty, fr, hA, hb, hc⟩
  · simp at hi
  · obtain ⟨vs, h1, h2⟩ := hc i x hi
    exact ⟨b, o, cs, ty, fr, vs, hA, hb, h1, h2⟩

/-- All the cells, one behind the other. -/
theorem Rd.cells8 {w : World} {h : PH} {A : Option Addr} {l : List UInt8} (r : Rd E8 h A l) (hw : PH.le h (PH.of w)) {ad : Addr} (hA : l ≠ [] → A = some ad) (j : Nat) (u : Value) (hj : (l.map b8)[j]? = some u) : w.cell? (ad.add j) = some u := by
  rw [List.getElem?_map] at hj
  obtain ⟨x, hx, rfl⟩ := Option.map_eq_some_iff.1 hj
  have hne : l ≠ [] := by rintro rfl; simp at hx
  obtain ⟨b, o, cs, ty, fr, vs, hA', hb, hE, hv⟩ := r.get hx
  rw [hA hne] at hA'
  cases hA'
  have hE : vs = [b8 x] := hE
  subst hE
  have := hv 0 (b8 x) rfl
  rw [Addr.add_mid]
  simp only [World.cell?, show w.heap[b]? = _ from hw b _ hb]
  simpa [E8, Elt.sc] using this

theorem Rd.src8 {w : World} {h : PH} {A : Option Addr} {l : List UInt8} (r : Rd E8 h A l) (hw : PH.le h (PH.of w)) (j : Nat) (u : Value) (hj : (l.map b8)[j]? = some u) : ∃ ad, A = some ad ∧ w.cell? (ad.add j) = some u := by
  have hne : l ≠ [] := by rintro rfl; simp at hj
  have hA : ∃ ad, A = some ad := by
    rcases r with rfl | ⟨b, o, _, _, _, hA, _⟩
    · exact absurd rfl hne
    · exact ⟨_, hA⟩
  obtain ⟨ad, hA⟩ := hA
  exact ⟨ad, hA, r.cells8 hw (fun _ => hA) j u hj⟩

/-- A slice that is one's own: nil, or a whole block; its cells; what lies behind its length. -/
def Bf (T : TypeId) (sz : Nat) (A : Option Addr) (cap : Nat) (cells : List Value) : HP := fun h =>
  (A = none ∧ cap = 0 ∧ cells = [] ∧ h = PH.emp) ∨ ∃ b spare, A = some ⟨b, 0, none⟩ ∧ cells.length + spare.length = cap * sz ∧ cap ≤ maxLen ∧ h = PH.one b (.cells (cells ++ spare).toArray T (0, 0))

section
variable {P : Program} {T : TypeId} {size bytes : Nat} {agg : Bool} {zero : Value}
variable {ops : Array Oper} {rest : List Oper} {o o1 o2 : Oper} {a : Act} {Q : Exit → Act → World → Prop} {w : World} {B : World} {own0 : PH} {hs : List HP}

theorem Bf.nil (T : TypeId) (sz : Nat) : Bf T sz none 0 [] PH.emp := .inl ⟨rfl, rfl, rfl, rfl⟩
theorem Bf.of_cl {b cap sz : Nat} {cs : List Value} {h : PH} (hc : Cl b T cs h) (hl : cs.length = cap * sz) (hm : cap ≤ maxLen) : Bf T sz (some ⟨b, 0, none⟩) cap cs h := .inr ⟨b, [], rfl, by simpa using hl, hm, by simpa [Cl] using hc⟩

theorem run_indexAddr {e : TypeId} {b off n cap j : Nat} {k : IntKind} [hsl : SL P T e] [ht : TI P e size bytes agg zero] (hj : j < n) :
    (Instr.indexAt T (.slice (some ⟨b, off, none⟩) n cap) (.int k (j : Int))).run P w = .ok (.pointer (some ⟨b, off + j * size, none⟩)) w := by
  have h1 : (0 : Int) ≤ (j : Int) ∧ (j : Int) < (n : Int) := ⟨by omega, by omega⟩
  have hadd := Addr.add_mid b off (j * size)
  simp only [Instr.indexAt, asIntOf, Sem.run_bind, Sem.run_pure, Result.andThen_ok, run_underlying hsl.eq, Sem.run_ite, h1, and_self, if_true, ht.sizeOf, Int.toNat_natCast, hadd]

theorem run_index' {e : TypeId} {x ix : Operand} {b off n cap j : Nat} {k : IntKind} (ho : o.op = .indexAddr T x ix) (hx : a.eval x = .slice (some ⟨b, off, none⟩) n cap) (hix : a.eval ix = .int k (j : Int)) [hsl : SL P T e] [ht : TI P e size bytes agg zero]
    (h1 : j < n) (w : World) : (execOp a.eval o).run P w = .ok (.value (.pointer (some ⟨b, off + j * size, none⟩))) w := by
  have := run_indexAddr (P := P) (T := T) (off := off) (cap := cap) (k := k) (w := w) (size := size) (b := b) (e := e) h1
  simp only [execOp, ho, hx, hix, Sem.run_bind, this, Result.andThen_ok, Sem.run_pure]

theorem st_index {e : TypeId} {x ix : Operand} {b off n cap : Nat} {A : Option Addr} {k : IntKind} {j : Int} (ho : o.op = .indexAddr T x ix) (hg : Region.wanted o (yielded ops a.tmps) = true) (hx : a.eval x = .slice A n cap) (hix : a.eval ix = .int k j) [hsl : SL P T e] [ht : TI P e size bytes agg zero]
    (h0 : 0 ≤ j) (h1 : j < n) (hA : A = some ⟨b, off, none⟩)
    (K : wpList P ops Q rest (a.put o.dst (.pointer (some ⟨b, off + j.toNat * size, none⟩))) w) : wpList P ops Q (o :: rest) a w := by
  obtain ⟨m, rfl⟩ := Int.eq_ofNat_of_zero_le h0
  subst hA
  exact wp_value (w' := w) hg (run_index' ho hx hix (by omega) w) (by simpa using K)

theorem eval_put {d : Tmp} {v : Value} (hd : o.dst = some d) (hdl : d < a.tmps.size) : (a.put o.dst v).eval (.tmp d) = v := by
  simp [hd, Act.put, Act.eval, Array.getElem?_setIfInBounds, hdl]

/-- x[i], read out of what came in: one cell. -/
theorem st_rd1 {α : Type} [Inhabited α] {enc : α → Value} {h1' : ∀ x, (enc x).oneCell' = true} {h : PH} {A : Option Addr} {l : List α} (r : Rd (Elt.sc enc h1') h A l) (hw : PH.le h (PH.of w)) {e : TypeId} {x ix : Operand} {n cap : Nat} {k : IntKind} {j : Int} {d : Tmp}
    (ho1 : o1.op = .indexAddr T x ix) (hg1 : Region.wanted o1 (yielded ops a.tmps) = true) (hx : a.eval x = .slice A n cap) (hix : a.eval ix = .int k j) [hsl : SL P T e] [ht : TI P e 1 bytes false zero]
    (h0 : 0 ≤ j) (h1 : j < l.length) (hn : l.length ≤ n) (hd : o1.dst = some d) (ho2 : o2.op = .load e (.tmp d)) (hg2 : ∀ p, Region.wanted o2 (yielded ops (a.put o1.dst p).tmps) = true) (hdl : d < a.tmps.size)
    (K : ∀ p, wpList P ops Q rest ((a.put o1.dst p).put o2.dst (enc (l.getD j.toNat default))) w) :
    wpList P ops Q (o1 :: o2 :: rest) a w := by
  obtain ⟨m, rfl⟩ := Int.eq_ofNat_of_zero_le h0
  have hm : m < l.length := by omega
  have hget : l[m]? = some (l.getD m default) := by simp [List.getD_eq_getElem?_getD, hm]
  obtain ⟨b, off, cs, ty, fr, vs, hA, hb, hE, hv⟩ := r.get hget
  subst hA
  have hE : vs = [enc (l.getD m default)] := hE
  subst hE
  have hc := hv 0 _ rfl
  refine wp_value (w' := w) hg1 (run_index' ho1 hx hix (by omega) w) ?_
  refine wp_value (w' := w) (hg2 _) ?_ (by have := K (.pointer (some ⟨b, off + m * 1, none⟩)); rw [Int.toNat_natCast] at this; exact this)
  have hblk : w.heap[b]? = some (.cells cs ty fr) := hw b _ hb
  have := run_load1 (P := P) (w := w) (off := off + m * 1) (v := enc (l.getD m default)) ht hblk (by simpa [Elt.sc] using hc)
  simp only [execOp, ho2, eval_put hd hdl, Sem.run_bind, this, Result.andThen_ok, Sem.run_pure]
/-- x[i], read out of what came in: a struct. -/
theorem st_rdN {α : Type} [Inhabited α] {E : Elt α} {h : PH} {A : Option Addr} {l : List α} (r : Rd E h A l) (hw : PH.le h (PH.of w)) {e : TypeId} {x ix : Operand} {n cap : Nat} {k : IntKind} {j : Int} {d : Tmp}
    (ho1 : o1.op = .indexAddr T x ix) (hg1 : Region.wanted o1 (yielded ops a.tmps) = true) (hx : a.eval x = .slice A n cap) (hix : a.eval ix = .int k j) [hsl : SL P T e] [ht : TI P e size bytes true zero] (hsz : E.sz = size)
    (h0 : 0 ≤ j) (h1 : j < l.length) (hn : l.length ≤ n) (hd : o1.dst = some d) (ho2 : o2.op = .load e (.tmp d)) (hg2 : ∀ p, Region.wanted o2 (yielded ops (a.put o1.dst p).tmps) = true) (hdl : d < a.tmps.size)
    (K : ∀ p vs, E.E h (l.getD j.toNat default) vs → wpList P ops Q rest ((a.put o1.dst p).put o2.dst (.agg vs.toArray)) w) :
    wpList P ops Q (o1 :: o2 :: rest) a w := by
  obtain ⟨m, rfl⟩ := Int.eq_ofNat_of_zero_le h0
  have hm : m < l.length := by omega
  have hget : l[m]? = some (l.getD m default) := by simp [List.getD_eq_getElem?_getD, hm]
  obtain ⟨b, off, cs, ty, fr, vs, hA, hb, hE, hv⟩ := r.get hget
  subst hA
  refine wp_value (w' := w) hg1 (run_index' ho1 hx hix (by omega) w) ?_
  refine wp_value (w' := w) (hg2 _) ?_ (K _ vs (by simpa using hE))
  have hblk : w.heap[b]? = some (.cells cs ty fr) := hw b _ hb
  have hlen := E.len _ _ _ hE
  have := run_loadN (P := P) (w := w) (off := off + m * size) (vs := vs) ht hblk (by omega) (fun j v hj => by have := hv j v hj; rwa [hsz] at this)
  simp only [execOp, ho2, eval_put hd hdl, Sem.run_bind, this, Result.andThen_ok, Sem.run_pure]

/-! ### append, copy -/
/-- append(v, x...): v is one's own; the new cells lie at ad. -/
theorem st_append (hS : St B own0 hs w) (i : Nat) {A : Option Addr} {cap : Nat} {xs : List Value} {e : TypeId} (hi : hs[i]? = some (Bf e size A cap xs)) {s x : Operand} (ho : o.op = .call { callee := .builtin .append, args := #[s, x], argTypes := #[T, T] }) (hg : o.guard = none)
    {n m c : Nat} {ad : Addr} (news : List Value) (hs' : a.eval s = .slice A n cap) (hx : a.eval x = .slice (some ad) m c) [hsl : SL P T e] [ht : TI P e size bytes agg zero] (hsz : 0 < size)
    (hl : xs.length = n * size) (hl2 : news.length = m * size) (hnews : ∀ j u, news[j]? = some u → w.cell? (ad.add j) = some u) (h1 : ∀ u ∈ news, u.oneCell' = true)
    (hb : (n + m) * bytes ≤ 140737488355328) (hm : n + m ≤ 140737488355328)
    (K : ∀ A' cap' w', St B own0 (hs.set i (Bf e size A' cap' (xs ++ news))) w' → wpList P ops Q rest (a.put o.dst (.slice A' (n + m) cap')) w') : wpList P ops Q (o :: rest) a w := by
  obtain ⟨inf, hinf, hz, hsz', hby⟩ := ht.get
  obtain ⟨h0, hA0, hle0⟩ := hS.fact i hi
  have h63 : n + m ≤ maxLen := by simp only [maxLen]; omega
  have hown : w.ownsRow 0 e size (.slice A n cap) n xs := by
    refine ⟨hl, ?_⟩
    rcases hA0 with ⟨rfl, rfl, rfl, rfl⟩ | ⟨b, spare, rfl, hlen, hcap, rfl⟩
    · have hn : n = 0 := by
        rcases Nat.eq_zero_or_pos n with h | h
        · exact h
        · have := Nat.mul_pos h hsz; simp at hl; omega
      subst hn
      exact .inl ⟨rfl, rfl⟩
    · refine .inr ⟨b, cap, _, rfl, Nat.zero_le _, hle0 b _ (PH.one_self _ _), ?_, hcap, by simpa using hlen, by simp [← hl]⟩
      have : n * size ≤ cap * size := by omega
      exact Nat.le_of_mul_le_mul_right this hsz
  refine wpList_append_own_at w hg s x T ho 0 e inf zero size bytes hsl.eq hinf hz hsz' hby ht.zsize hsz _ n xs hs' hown ad m c news hx hl2 hnews h1 h63 hb (Nat.zero_le _) ?_
  intro v' w' hown' hgr hnil hat
  rcases hown'.2 with ⟨rfl, h0'⟩ | ⟨b', cap', cur, rfl, _, hb', hle', hcm, hcs, htk⟩
  · -- nothing was appended to nothing
    have hn0 : n = 0 ∧ m = 0 := by omega
    obtain ⟨rfl, rfl⟩ := hn0
    have hx0 : xs ++ news = [] := List.eq_nil_of_length_eq_zero (by simpa using hown'.1)
    refine K none 0 w' ?_
    rw [hx0]
    refine hS.mut i hi (fun g hgA hgl => ⟨PH.emp, Bf.nil _ _, PH.emp_le _, fun b hb hn => ⟨rfl, ?_⟩⟩) hgr.size hgr.os hgr.tape hgr.output
    refine hgr.block b hb ?_
    have := (hnil.1 rfl).1
    injection this with hA' _ _
    subst hA'
    simp [Value.ownBlock]
  · refine K (some ⟨b', 0, none⟩) cap' w' ?_
    refine hS.mut i hi (fun g hgA hgl => ⟨PH.one b' (.cells cur e (0, 0)), .inr ⟨b', cur.toList.drop ((n + m) * size), rfl, ?_, hcm, ?_⟩, fun k o' h => by obtain ⟨rfl, rfl⟩ := PH.one_some h; exact hb', fun b hb hn => ⟨?_, ?_⟩⟩) hgr.size hgr.os hgr.tape hgr.output
    · rw [hown'.1]; simp [hcs]
      have : (n + m) * size ≤ cap' * size := Nat.mul_le_mul_right _ hle'
      omega
    · rw [← htk]; simp
    · refine PH.one_none ?_
      rintro rfl
      rcases hat with hat | hat
      · rcases hgA with ⟨rfl, _⟩ | ⟨b0, spare, rfl, _, _, rfl⟩
        · simp [Value.ownBlock] at hat
        · simp only [Value.ownBlock, Option.some.injEq] at hat
          subst hat
          rw [PH.one_self] at hn; cases hn
      · simp only [Value.ownBlock, Option.some.injEq] at hat
        omega
    · refine hgr.block b hb ?_
      rcases hgA with ⟨rfl, _⟩ | ⟨b0, spare, rfl, _, _, rfl⟩
      · simp [Value.ownBlock]
      · simp only [Value.ownBlock, ne_eq, Option.some.injEq]
        rintro rfl
        rw [PH.one_self] at hn; cases hn

/-- x[i], read out of one's own: a struct. -/
theorem st_bfN (hS : St B own0 hs w) (i : Nat) {A : Option Addr} {cap n c : Nat} {cells : List Value} {e : TypeId} (hi : hs[i]? = some (Bf e size A cap cells)) {x ix : Operand} {k : IntKind} {j : Int} {d : Tmp}
    (ho1 : o1.op = .indexAddr T x ix) (hg1 : Region.wanted o1 (yielded ops a.tmps) = true) (hx : a.eval x = .slice A n c) (hix : a.eval ix = .int k j) [hsl : SL P T e] [ht : TI P e size bytes true zero]
    (h0 : 0 ≤ j) (h1 : j < n) (hn : cells.length = n * size) (hsz : 0 < size) (hd : o1.dst = some d) (ho2 : o2.op = .load e (.tmp d)) (hg2 : ∀ p, Region.wanted o2 (yielded ops (a.put o1.dst p).tmps) = true) (hdl : d < a.tmps.size)
    (vs : List Value) (hv : (cells.drop (j.toNat * size)).take size = vs) (K : ∀ p, wpList P ops Q rest ((a.put o1.dst p).put o2.dst (.agg vs.toArray)) w) :
    wpList P ops Q (o1 :: o2 :: rest) a w := by
  subst hv
  obtain ⟨m, rfl⟩ := Int.eq_ofNat_of_zero_le h0
  have hm : m < n := by omega
  have hmul : m * size + size ≤ n * size := by rw [← Nat.succ_mul]; exact Nat.mul_le_mul_right _ hm
  obtain ⟨h1', hA, hle⟩ := hS.fact i hi
  rcases hA with ⟨_, _, hc, _⟩ | ⟨b, spare, rfl, hl, _, rfl⟩
  · subst hc; simp at hn; have := Nat.mul_pos (show 0 < n by omega) hsz; omega
  · have hblk : w.heap[b]? = some (.cells (cells ++ spare).toArray e (0, 0)) := hle b _ (PH.one_self _ _)
    refine wp_value (w' := w) hg1 (run_index' ho1 hx hix hm w) ?_
    refine wp_value (w' := w) (hg2 _) ?_ (by have := K (.pointer (some ⟨b, 0 + m * size, none⟩)); rw [Int.toNat_natCast] at this; exact this)
    have := run_loadN (P := P) (w := w) (off := 0 + m * size) (vs := (cells.drop (m * size)).take size) ht hblk (by simp; omega) (fun j v hj => by
      rw [List.getElem?_take] at hj
      split at hj
      · rw [List.getElem?_drop] at hj
        rw [Nat.zero_add]
        have hlt : m * size + j < cells.length := (List.getElem?_eq_some_iff.1 hj).1
        rw [List.getElem?_toArray, List.getElem?_append_left hlt]; exact hj
      · cases hj)
    simp only [execOp, ho2, eval_put hd hdl, Sem.run_bind, this, Result.andThen_ok, Sem.run_pure]
/-- x[i], read out of one's own: one cell. -/
theorem st_bf1 (hS : St B own0 hs w) (i : Nat) {A : Option Addr} {cap n c : Nat} {cells : List Value} {e : TypeId} (hi : hs[i]? = some (Bf e 1 A cap cells)) {x ix : Operand} {k : IntKind} {j : Int} {d : Tmp} {v : Value}
    (ho1 : o1.op = .indexAddr T x ix) (hg1 : Region.wanted o1 (yielded ops a.tmps) = true) (hx : a.eval x = .slice A n c) (hix : a.eval ix = .int k j) [hsl : SL P T e] [ht : TI P e 1 bytes false zero]
    (h0 : 0 ≤ j) (h1 : j < n) (hv : cells[j.toNat]? = some v) (hd : o1.dst = some d) (ho2 : o2.op = .load e (.tmp d)) (hg2 : ∀ p, Region.wanted o2 (yielded ops (a.put o1.dst p).tmps) = true) (hdl : d < a.tmps.size)
    (K : ∀ p, wpList P ops Q rest ((a.put o1.dst p).put o2.dst v) w) :
    wpList P ops Q (o1 :: o2 :: rest) a w := by
  obtain ⟨m, rfl⟩ := Int.eq_ofNat_of_zero_le h0
  have hm : m < n := by omega
  rw [Int.toNat_natCast] at hv
  obtain ⟨h1', hA, hle⟩ := hS.fact i hi
  rcases hA with ⟨_, _, hc, _⟩ | ⟨b, spare, rfl, hl, _, rfl⟩
  · subst hc; simp at hv
  · have hblk : w.heap[b]? = some (.cells (cells ++ spare).toArray e (0, 0)) := hle b _ (PH.one_self _ _)
    refine wp_value (w' := w) hg1 (run_index' ho1 hx hix hm w) ?_
    refine wp_value (w' := w) (hg2 _) ?_ (K (.pointer (some ⟨b, 0 + m * 1, none⟩)))
    have hlt : m < cells.length := (List.getElem?_eq_some_iff.1 hv).1
    have := run_load1 (P := P) (w := w) (off := 0 + m * 1) (v := v) ht hblk (by rw [Nat.zero_add, Nat.mul_one, List.getElem?_toArray, List.getElem?_append_left hlt]; exact hv)
    simp only [execOp, ho2, eval_put hd hdl, Sem.run_bind, this, Result.andThen_ok, Sem.run_pure]

/-- A slice of one's own that is not empty, as the block that it is. -/
theorem st_bfCl {A : Option Addr} {cap sz : Nat} {cells : List Value} {l : List HP} (hS : St B own0 (Bf T sz A cap cells :: l) w) (hne : cells ≠ []) :
    ∃ b spare, A = some ⟨b, 0, none⟩ ∧ cells.length + spare.length = cap * sz ∧ cap ≤ maxLen ∧ St B own0 (Cl b T (cells ++ spare) :: l) w := by
  obtain ⟨x, hS⟩ := hS.exists 0 (A' := fun (x : Nat × List Value) => fun h => (A = some ⟨x.1, 0, none⟩ ∧ cells.length + x.2.length = cap * sz ∧ cap ≤ maxLen) ∧ Cl x.1 T (cells ++ x.2) h) rfl (fun h hh => by
    rcases hh with ⟨_, _, e, _⟩ | ⟨b, spare, e, hl, hm, rfl⟩
    · exact absurd e hne
    · exact ⟨(b, spare), ⟨e, hl, hm⟩, rfl⟩)
  obtain ⟨⟨h1, h2, h3⟩, hS⟩ := hS.andAt 0 rfl
  exact ⟨x.1, x.2, h1, h2, h3, hS⟩
theorem Owns.bf {b cap sz : Nat} {cells spare : List Value} {l : List HP} (hl : cells.length + spare.length = cap * sz) (hm : cap ≤ maxLen) {h : PH} (ho : Owns (Cl b T (cells ++ spare) :: l) h) : Owns (Bf T sz (some ⟨b, 0, none⟩) cap cells :: l) h :=
  Owns.hd (fun _ hh => .inr ⟨b, spare, rfl, hl, hm, hh⟩) ho
end
end Go.Proofs.Ytfdogeebkbaadaa
