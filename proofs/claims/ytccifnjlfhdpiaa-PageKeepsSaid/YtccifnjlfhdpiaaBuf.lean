/- Slices of one's own whose elements lead to buffers of one's own; a thing that is lent whole to a piece of code that only reads. -/
import Derived.Test.YtccifnjlfhdpiaaOwn
set_option linter.unusedVariables false
set_option linter.unusedSimpArgs false
set_option linter.unusedSectionVars false
namespace Go.Proofs.Ytccifnjlfhdpiaa
open Go.RowKit
abbrev Hd := Option Addr × Nat × Nat
def EHd : Elt Hd := Elt.sc (fun x => .slice x.1 x.2.1 x.2.2) (fun _ => rfl)
def EOp : Elt (Int × Hd) := Elt.pair E64 EHd
abbrev OpL := List (Int × List UInt8)
/-- The elements, with the headers of their buffers. -/
def hdr : Ads → OpL → List (Int × Hd)
  | _, [] => []
  | ads, x :: r => (x.1, (ads 0).1, x.2.length, (ads 0).2) :: hdr (tlA ads) r
theorem hdr_length : ∀ {ads : Ads} {l : OpL}, (hdr ads l).length = l.length
  | _, [] => rfl
  | ads, x :: r => by simp [hdr, hdr_length]
theorem hdr_getD : ∀ {ads : Ads} {l : OpL} {j : Nat}, j < l.length → (hdr ads l).getD j default = ((l.getD j default).1, (ads j).1, (l.getD j default).2.length, (ads j).2)
  | _, [], j, h => by simp at h
  | ads, x :: r, 0, h => by simp [hdr]
  | ads, x :: r, j + 1, h => by
    have := hdr_getD (ads := tlA ads) (l := r) (j := j) (by simpa using h)
    simp only [hdr, List.getD_cons_succ, this]; rfl
theorem hdr_snoc {A : Option Addr} {c : Nat} {a : Int} {bs : List UInt8} : ∀ {ads : Ads} {l : OpL}, hdr ads l ++ [(a, A, bs.length, c)] = hdr (upd ads l.length (A, c)) (l ++ [(a, bs)])
  | ads, [] => by simp [hdr, upd_0]
  | ads, x :: r => by
    simp only [hdr, List.cons_append, List.length_cons, upd_s0, tl_upd]
    rw [hdr_snoc]
theorem hdr_set {x : List UInt8} : ∀ {ads : Ads} {l : OpL} {j : Nat}, x.length = (l.getD j default).2.length → hdr ads (l.set j ((l.getD j default).1, x)) = hdr ads l
  | _, [], j, h => by simp
  | ads, y :: r, 0, h => by
    have h' : x.length = y.2.length := h
    simp [hdr, h']
  | ads, y :: r, j + 1, h => by
    have h' : x.length = (r.getD j default).2.length := by simpa using h
    simp only [List.set_cons_succ, hdr, List.getD_cons_succ]
    rw [hdr_set h']
theorem map_snd_getD {l : OpL} {j : Nat} (hj : j < l.length) : (l.map Prod.snd).getD j default = (l.getD j default).2 := by
  simp [List.getD_eq_getElem?_getD, hj]
theorem map_snd_set {l : OpL} {j : Nat} {a : Int} {x : List UInt8} : (l.set j (a, x)).map Prod.snd = (l.map Prod.snd).set j x := by rw [List.map_set]
abbrev Hb (T : TypeId) (A : Option Addr) (c : Nat) (ads : Ads) (l : OpL) : MP := Bf EOp T A c (hdr ads l)
abbrev Bb (U : TypeId) (ads : Ads) (l : OpL) : MP := Bfs E8 U ads (l.map Prod.snd)
/-- The same, but for the j-th buffer. -/
abbrev Bh (U : TypeId) (ads : Ads) (l : OpL) (j : Nat) : MP := Bfs E8 U (upd ads j (none, 0)) ((l.map Prod.snd).set j [])
/-- What never is written again, read as it is. -/
def Rc (b : Nat) (T : TypeId) (cs : List Value) : MP := ⟨fun z h => h = PH.emp ∧ z b = some (.cells cs.toArray T (0, 0)), fun hz ⟨h1, h2⟩ => ⟨h1, hz _ _ h2⟩⟩
section
variable {P : Program} {N : Nat} {D : List Deferred} {B : World} {env env' : Env} {hs hs' : List MP} {ops : Array Oper} {Q : Exit → Act → World → Prop} {K Kn Kr : Act → World → Prop} {o : Oper} {kd : Nat}
variable {A : Option Addr} {cr cap c b : Nat} {l : OpL} {ads : Ads} {x y : Operand} {t e U T' : TypeId} {size bytes off n : Nat} {agg : Bool} {zero v : Value} {w : World}
theorem hdr_lt {j : Int} (h : j < (l.length : Int)) : j < ((hdr ads l).length : Int) := by rw [hdr_length]; exact h
theorem toNat_lt {j : Int} {n : Nat} (h0 : 0 ≤ j) (h : j < (n : Int)) : j.toNat < n := by omega
theorem hdr_le {n : Nat} (h : n ≤ l.length) : n ≤ (hdr ads l).length := by rw [hdr_length]; exact h
theorem T.focusB (i j : Nat) (hi : hs[i]? = some (Bb U ads l)) (hj : j < l.length) (he : hs.set i (Bh U ads l j) = hs')
    (h : T N D B env (Bf E8 U (ads j).1 (ads j).2 (l.getD j default).2 :: hs') K) : T N D B env hs K :=
  T.focus i j hi (by simpa using hj) he (by rw [map_snd_getD hj]; exact h)
theorem T.unfocusB (j : Nat) (hj : j < l.length) (h : T N D B env (Bb U ads l :: hs) K) : T N D B env (Bf E8 U (ads j).1 (ads j).2 (l.getD j default).2 :: Bh U ads l j :: hs) K := by
  have := T.unfocus (E := E8) (U := U) (ads := ads) (ls := l.map Prod.snd) (N := N) (D := D) (B := B) (env := env) (hs := hs) (K := K) j (by simpa using hj) h
  rwa [map_snd_getD hj] at this
theorem T.fillB {m : List UInt8} (j : Nat) (hj : j < l.length) (hm : m.length = (l.getD j default).2.length)
    (h : T N D B env (Bb U ads (l.set j ((l.getD j default).1, m)) :: Hb T' A c ads (l.set j ((l.getD j default).1, m)) :: hs) K) : T N D B env (Bf E8 U (ads j).1 (ads j).2 m :: Bh U ads l j :: Hb T' A c ads l :: hs) K := by
  refine T.fillIn j (by simpa using hj) ?_
  have e : upd ads j ((ads j).1, (ads j).2) = ads := upd_back ads j
  rw [e, ← map_snd_set (a := (l.getD j default).1)]
  unfold Hb at h
  rw [hdr_set hm] at h
  exact h
theorem T.fldHb (i : Nat) {j : Int} {q : Nat} [ht : TI P t 1 bytes false zero] (cx : Cx P ops Q o Kn Kr (kd + 1))
    (hi : hs[i]? = some (Hb T' A cap ads l)) (h0 : 0 ≤ j) (hj : j < (l.length : Int)) (ho : o.op = .load t x) (hw : wants ops env o true) (hf : fits N o = true) (hx : ev env x = some (ep A q)) (hq : q = j.toNat * 2)
    (h : T N D B (ptE o (.int .i64 (l.getD j.toNat default).1) env) hs Kr) : T N D B env hs Kn :=
  T.fldBf i cx (Fd.fst Fd.self) (esz := 2) rfl hi h0 (hdr_lt hj) ho hw hf hx (by rw [hq]; rfl) (by
    rw [hdr_getD (show j.toNat < l.length by omega)]; exact h)
theorem T.bufHb (i : Nat) {j : Int} {q : Nat} [ht : TI P t 1 bytes false zero] (cx : Cx P ops Q o Kn Kr (kd + 1))
    (hi : hs[i]? = some (Hb T' A cap ads l)) (h0 : 0 ≤ j) (hj : j < (l.length : Int)) (ho : o.op = .load t x) (hw : wants ops env o true) (hf : fits N o = true) (hx : ev env x = some (ep A q)) (hq : q = j.toNat * 2 + 1)
    (h : T N D B (ptE o (.slice (ads j.toNat).1 (l.getD j.toNat default).2.length (ads j.toNat).2) env) hs Kr) : T N D B env hs Kn :=
  T.fldBf i cx (Fd.snd Fd.self) (esz := 2) rfl hi h0 (hdr_lt hj) ho hw hf hx (by rw [hq]; rfl) (by
    rw [hdr_getD (show j.toNat < l.length by omega)]; exact h)
theorem T.ldHb (i : Nat) {j : Int} {q : Nat} [ht : TI P t 2 bytes true zero] (cx : Cx P ops Q o Kn Kr (kd + 1))
    (hi : hs[i]? = some (Hb T' A cap ads l)) (h0 : 0 ≤ j) (hj : j < (l.length : Int)) (ho : o.op = .load t x) (hw : wants ops env o true) (hf : fits N o = true) (hx : ev env x = some (ep A q)) (hq : q = j.toNat * 2)
    (h : T N D B (ptE o (.agg #[.int .i64 (l.getD j.toNat default).1, .slice (ads j.toNat).1 (l.getD j.toNat default).2.length (ads j.toNat).2]) env) hs Kr) : T N D B env hs Kn :=
  T.ldFBf i cx Fd.self (Sh.pair Sh.sc Sh.sc) rfl (.inl rfl) (esz := 2) rfl hi h0 (hdr_lt hj) ho hw hf hx (by rw [hq]; rfl)
    (v := fun _ => .agg #[.int .i64 (l.getD j.toNat default).1, .slice (ads j.toNat).1 (l.getD j.toNat default).2.length (ads j.toNat).2]) (hs' := fun _ => hs)
    (fun e => by rw [hdr_getD (show j.toNat < l.length by omega)]; rfl) (fun e => rfl) (fun _ => h)
theorem encsOp {z : PH} {a : Int} {n : Nat} : Encs EOp z [(a, A, n, c)] [.int .i64 a, .slice A n c] := ⟨[_, _], [], rfl, ⟨[_], [_], rfl, rfl, rfl⟩, rfl⟩
theorem T.appHb (cx : Cx P ops Q o Kn Kr (kd + 2)) (i j : Nat) {ts : TypeId} {xA A1 : Option Addr} {a : Int} {bs : List UInt8} {m xc xc' c1 : Nat} {hs' : Option Addr → Nat → List MP} (hi : hs[i]? = some (Hb e A cap ads l)) (hj : hs[j]? = some (Bf EOp T' xA xc' [(a, A1, bs.length, c1)])) [hsl : SL P t e] [hsl' : SL P ts e] [ht : TI P e 2 bytes agg zero]
    (ho : o.op = .call { callee := .builtin .append, args := #[x, y], argTypes := #[t, ts] }) (hw : wants ops env o true) (hf : fits N o = true)
    (hx : ev env x = some (.slice A n cap)) (hn : n = l.length) (hy : ev env y = some (.slice xA m xc)) (hm : m = ([(a, A1, bs.length, c1)] : List (Int × Hd)).length) (hby : Nat.ble 1 bytes = true) (hb : (l.length + 1) * bytes ≤ 140737488355328)
    (he : ∀ A' cap', hs.set i (Bf EOp e A' cap' (hdr ads l ++ [(a, A1, bs.length, c1)])) = hs' A' cap')
    (h : ∀ A' cap', T N D B (ptE o (.slice A' (l ++ [(a, bs)]).length cap') env) (hs' A' cap') Kr) : T N D B env hs Kn :=
  T.appBf cx i j hi hj (size := 2) rfl rfl ho hw hf hx (by rw [hdr_length]; exact hn) hy hm hby (by rw [hdr_length]; exact hb) he (fun A' cap' => by
    have e1 : (hdr ads l ++ [(a, A1, bs.length, c1)]).length = (l ++ [(a, bs)]).length := by simp [hdr_length]
    rw [e1]; exact h A' cap')
theorem Bfs.snoc {α : Type} {E : Elt α} {m : List α} {z : PH} : ∀ {ads : Ads} {ls : List (List α)} {h : PH}, (MP.star (Bf E U A c m) (Bfs E U ads ls)).p z h → (Bfs E U (upd ads ls.length (A, c)) (ls ++ [m])).p z h
  | ads, [], h, hp => by
    obtain ⟨h1, h2, a, b, d, rfl⟩ := hp
    have b' : h2 = PH.emp := b
    subst b'
    refine ⟨h1, PH.emp, ?_, rfl, d, rfl⟩
    simp only [List.length_nil, upd_0]; exact a
  | ads, y :: r, h, hp => by
    simp only [List.cons_append, List.length_cons, Bfs, upd_s0, tl_upd] at hp ⊢
    exact star_r (fun h' h2 => Bfs.snoc h2) (star_assoc.1 hp)
theorem T.snocHb {A1 : Option Addr} {a : Int} {bs : List UInt8} {c1 : Nat} (h : T N D B env (Hb T' A c (upd ads l.length (A1, c1)) (l ++ [(a, bs)]) :: Bb U (upd ads l.length (A1, c1)) (l ++ [(a, bs)]) :: hs) K) :
    T N D B env (Bf E8 U A1 c1 bs :: Bb U ads l :: Bf EOp T' A c (hdr ads l ++ [(a, A1, bs.length, c1)]) :: hs) K :=
  T.st (fun w hS => by
    have h1 := hS.close2
    have h2 : St B (Bb U (upd ads l.length (A1, c1)) (l ++ [(a, bs)]) :: Bf EOp T' A c (hdr ads l ++ [(a, A1, bs.length, c1)]) :: hs) w := h1.conseq 0 rfl fun z h hp => by
      have := Bfs.snoc hp
      rw [List.length_map] at this
      show (Bfs E8 U _ (List.map Prod.snd (l ++ [(a, bs)]))).p z h
      rw [List.map_append]; exact this
    have h3 : St B (Bf EOp T' A c (hdr ads l ++ [(a, A1, bs.length, c1)]) :: Bb U (upd ads l.length (A1, c1)) (l ++ [(a, bs)]) :: hs) w := h2.pick [1, 0] 2 rfl rfl (by simp) rfl
    rw [hdr_snoc] at h3
    exact h3) h
theorem T.nilHb (T' U : TypeId) (h : T N D B env (Hb T' none 0 noAds [] :: Bb U noAds [] :: hs) K) : T N D B env hs K :=
  T.st (fun w hS => (hS.tell (A := Bb U noAds []) fun z => rfl).tell (A := Hb T' none 0 noAds []) fun z => Or.inl ⟨rfl, rfl, rfl, rfl⟩) h
theorem Bfs.frozen {z : PH} : ∀ {ads : Ads} {ls : List (List UInt8)} {h : PH}, (Bfs E8 U ads ls).p z h → PH.disj z h → ∀ (j : Nat) (m : List UInt8), ls[j]? = some m → Rd E8 (PH.join z h) (ads j).1 m ∧ m.length ≤ (ads j).2
  | _, [], _, _, _, j, m, hj => by simp at hj
  | ads, y :: r, h, ⟨h1, h2, a, b, d, e⟩, dz, j, m, hj => by
    subst e
    have ⟨d1, d2⟩ := PH.disj_join_r.1 dz
    cases j with
    | zero =>
      simp only [List.getElem?_cons_zero, Option.some.injEq] at hj; subst hj
      have := Bf.frozen (E := E8) rfl z h1 a d1
      refine ⟨this.2.1.up ?_, this.2.2⟩
      rw [← PH.join_assoc]; exact PH.le_join_l _ _
    | succ j =>
      simp only [List.getElem?_cons_succ] at hj
      have := Bfs.frozen b d2 j m hj
      refine ⟨this.1.up ?_, this.2⟩
      rw [PH.join_comm d, ← PH.join_assoc]; exact PH.le_join_l _ _
theorem encs_hdr {z : PH} : ∀ {l : OpL} {ads : Ads} {cs : List Value}, Encs EOp z (hdr ads l) cs → (∀ (j : Nat) (m : List UInt8), (l.map Prod.snd)[j]? = some m → Rd E8 z (ads j).1 m ∧ m.length ≤ (ads j).2) → Encs (Elt.pair E64 (Elt.slice E8)) z l cs
  | [], _, _, h, _ => h
  | x :: r, ads, cs, ⟨vs, ds, e, ⟨us, ws, e2, hu, hw⟩, hr⟩, hf => by
    have h0 := hf 0 x.2 rfl
    refine ⟨vs, ds, e, ⟨us, ws, e2, hu, ?_⟩, encs_hdr hr fun j m hj => hf (j + 1) m (by simpa using hj)⟩
    exact ⟨(ads 0).1, (ads 0).2, hw, h0.2, h0.1⟩
def Fz (ads : Ads) (l : OpL) : MP := ⟨fun z h => h = PH.emp ∧ ∀ (j : Nat) (m : List UInt8), (l.map Prod.snd)[j]? = some m → Rd E8 z (ads j).1 m ∧ m.length ≤ (ads j).2, fun hz ⟨h1, h2⟩ => ⟨h1, fun j m hj => ⟨(h2 j m hj).1.up hz, (h2 j m hj).2⟩⟩⟩
theorem St.hbFreeze (hS : St B (Hb T' A c ads l :: Bb U ads l :: hs) w) : St B (Bf (Elt.pair E64 (Elt.slice E8)) T' A c l :: hs) w := by
  have h1 := hS.freeze 1 (A' := Fz ads l) rfl fun z h hp hd => ⟨rfl, Bfs.frozen hp hd⟩
  have h2 : St B (MP.star (Hb T' A c ads l) (Fz ads l) :: hs) w := h1.close2
  exact h2.conseq 0 (A' := Bf (Elt.pair E64 (Elt.slice E8)) T' A c l) rfl fun z h hp => by
    obtain ⟨g1, g2, a, ⟨rfl, hf⟩, d, rfl⟩ := hp
    rw [PH.join_comm d, PH.emp_join]
    rcases a with ⟨h1, h2, h3, h4⟩ | ⟨b, cs, sp, h1, h2, h3, h4, h5⟩
    · refine .inl ⟨h1, h2, ?_, h4⟩
      have := hdr_length (ads := ads) (l := l)
      rw [h3] at this
      exact List.length_eq_zero_iff.1 this.symm
    · exact .inr ⟨b, cs, sp, h1, encs_hdr h2 hf, h3, h4, h5⟩
theorem T.hbFreeze (h : T N D B env (Bf (Elt.pair E64 (Elt.slice E8)) T' A c l :: hs) K) : T N D B env (Hb T' A c ads l :: Bb U ads l :: hs) K := T.st (fun w hS => hS.hbFreeze) h
theorem St.roHb (hS : St B (Hb T' A c ads l :: Bb U ads l :: hs) w) : (Ro (Elt.pair E64 (Elt.slice E8)) A c l).p (PH.of w) PH.emp := hS.hbFreeze.roBf 0 rfl rfl
theorem St.rcCl (hS : St B hs w) (i : Nat) {cs : List Value} (hi : hs[i]? = some (Cl b T' cs)) : (Rc b T' cs).p (PH.of w) PH.emp := ⟨rfl, hS.block hi⟩
/-- All that is known is lent to code that only reads: it runs as if nothing were one's own. -/
theorem T.lend {ros : List MP} (hr : ∀ w, St B hs w → Ros w ros) (h : ∀ (w0 : World) (hs0 : List MP), hs0 = [] → St B hs w0 → T N D w0 env (ros ++ hs0) K) : T N D B env hs K :=
  fun a w h1 h2 h3 h4 => h w [] rfl h4 a w h1 h2 h3 (by rw [List.append_nil]; exact St.borrow (hr w h4))
theorem T.loadRc (cx : Cx P ops Q o Kn Kr (kd + 1)) (i : Nat) {b off : Nat} {T' : TypeId} {cs : List Value} (hi : hs[i]? = some (Rc b T' cs)) [ht : TI P t size bytes false zero] (ho : o.op = .load t x) (hw : wants ops env o true) (hf : fits N o = true) (hx : ev env x = some (.pointer (some ⟨b, off, none⟩))) (hv : cs[off]? = some v) (hsz : size = 1)
    (h : T N D B (ptE o v env) hs Kr) : T N D B env hs Kn := by
  subst hsz
  exact T.val cx _ hw hf (fun a w h3 h4 => by
    obtain ⟨z, g, ⟨_, hb⟩, _, hz⟩ := h4.fact hi
    have hb' : w.heap[b]? = some (.cells cs.toArray T' (0, 0)) := hz b _ hb
    have := run_load1 (P := P) (w := w) (off := off) (v := v) ht hb' (by simpa using hv)
    simp only [execOp, ho, h3.eval hx, Sem.run_bind, this, Result.andThen_ok, Sem.run_pure]) h
/-- Cells in other words. -/
theorem T.clEq (i : Nat) {cs cs' : List Value} (hi : hs[i]? = some (Cl b T' cs)) (hc : cs = cs') (he : hs.set i (Cl b T' cs') = hs') (h : T N D B env hs' K) : T N D B env hs K := by
  subst hc; subst he
  rwa [show hs.set i (Cl b T' cs) = hs from by
    obtain ⟨hl, hg⟩ := List.getElem?_eq_some_iff.1 hi
    rw [← hg]; exact List.set_getElem_self hl] at h
end
section
variable {P : Program} {N : Nat} {D : List Deferred} {B : World} {env env' : Env} {hs hs' : List MP} {ops : Array Oper} {Q : Exit → Act → World → Prop} {K Kn Kr : Act → World → Prop} {o : Oper} {kd : Nat}
variable {α : Type} {E : Elt α} {A : Option Addr} {cap : Nat} {l : List α} {x y : Operand} {t e : TypeId} {bytes : Nat} {zero v : Value} {w : World}
/-- A store of a value of one cell. -/
theorem T.stBfV (cx : Cx P ops Q o Kn Kr (kd + 2)) [Inhabited α] (i : Nat) {j : Int} {T' : TypeId} {z : α} {hs' : List MP} [ht : TI P t 1 bytes false zero] (hsz1 : E.sz = 1) (hi : hs[i]? = some (Bf E T' A cap l)) (ho : o.op = .store t x y) (hw : wants ops env o true) (hf : fits N o = true)
    (hx : ev env x = some (ep A (j.toNat * 1))) (hy : ev env y = some v) (hv : Has hs E z [v]) (h0 : 0 ≤ j) (hj : j < (l.length : Int)) (he : hs.set i (Bf E T' A cap (l.set j.toNat z)) = hs')
    (h : T N D B (ptE o undef env) hs' Kr) : T N D B env hs Kn :=
  T.stepW cx hw hf (fun a w h3 h4 => by
    subst he
    obtain ⟨zz, h, ho', hd, hz, hh, hT⟩ := h4
    have hE0 := hv zz h ho'
    have hoc := E.one _ _ _ hE0 v (by simp)
    obtain ⟨h1, h2, hA, hd12, rfl, hset⟩ := ho'.get hi
    have lh1 : PH.le h1 (PH.of w) := PH.le_trans (PH.le_join_l _ _) hh
    have lh2 : PH.le h2 (PH.of w) := PH.le_trans (PH.le_join_r hd12) hh
    have ⟨dz1, dz2⟩ := PH.disj_join_r.1 hd
    rcases hA with ⟨_, _, rfl, _⟩ | ⟨b, cs, sp, rfl, hE, hcl, hcm, rfl⟩
    · simp at hj; omega
    · have hblk : w.heap[b]? = some (.cells (cs ++ sp).toArray T' (0, 0)) := lh1 b _ (PH.one_self _ _)
      have hcsl := hE.length
      have hcl0 := hcl
      have hcsl0 := hcsl
      rw [hsz1] at hcl hcsl
      have hcells : v.cells = #[v] := by cases v <;> first | rfl | cases hoc
      have hr := run_storeN (P := P) (w := w) (b := b) (off := 0 + j.toNat * 1) (cs := (cs ++ sp).toArray) (v := v) ht hblk (by rw [hcells]; rfl) (by simp; omega) (by rw [hcells]; simp [hoc])
      have hspl : splice (cs ++ sp) (0 + j.toNat * 1) [v] = (cs.take (j.toNat * 1) ++ [v] ++ cs.drop (j.toNat * 1 + 1)) ++ sp := by
        have : j.toNat * 1 + 1 ≤ cs.length := by omega
        simp only [splice, Nat.zero_add, List.length_cons, List.length_nil]
        rw [List.take_append_of_le_length (by omega), List.drop_append_of_le_length (by omega)]
        simp [List.append_assoc]
      rw [hcells] at hr
      simp only [List.toList_toArray, hspl] at hr
      refine ⟨_, by simp only [execOp, ho, h3.eval hx, h3.eval hy, ep_some, Sem.run_bind, hr, Result.andThen_ok, Sem.run_pure]; rfl, ?_⟩
      refine St.raw (h1' := PH.one b (.cells ((cs.take (j.toNat * 1) ++ [v] ++ cs.drop (j.toNat * 1 + 1)) ++ sp).toArray T' (0, 0))) hset hd12 dz1 dz2 hz lh2 hT ?_ ?_ ?_ (by simp) rfl rfl rfl
      · have hs2 := hE.set j.toNat (vs := [v]) hE0 (by omega)
        rw [hsz1] at hs2
        refine .inr ⟨b, _, sp, rfl, hs2, ?_, hcm, rfl⟩
        rw [hsz1]; simp only [List.length_append, List.length_take, List.length_drop, List.length_cons, List.length_nil]; omega
      · intro k o' hb'
        obtain ⟨rfl, rfl⟩ := PH.one_some hb'
        exact setRow_heap w _ _ _ _ _ hblk
      · intro k hb' hn
        have hkb : k ≠ b := by rintro rfl; rw [PH.one_self] at hn; cases hn
        exact ⟨PH.one_none hkb, setRow_other w b k _ hkb⟩) h
theorem Encs.rep1 {z : PH} {z0 : α} (hE : E.E z z0 [v]) : ∀ n, Encs E z (List.replicate n z0) (List.replicate n v)
  | 0 => rfl
  | n + 1 => ⟨[v], List.replicate n v, by rw [List.replicate_succ]; rfl, hE, Encs.rep1 hE n⟩
/-- make([]T, n), elements of one cell that lead nowhere as they are. -/
theorem T.makeE (cx : Cx P ops Q o Kn Kr (kd + 2)) (E : Elt α) {z0 : α} {kl kc : IntKind} {j : Int} [hsl : SL P t e] [ht : TI P e 1 bytes false zero] (hsz : E.sz = 1) (hz : ∀ z, E.E z z0 [zero]) (ho : o.op = .makeSlice t x y) (hw : wants ops env o true) (hf : fits N o = true)
    (hx : ev env x = some (.int kl j)) (hy : ev env y = some (.int kc j)) (hby : Nat.ble 1 bytes = true) (hc : 0 ≤ j ∧ j * bytes ≤ 140737488355328)
    (h : ∀ b, T N D B (ptE o (.slice (some ⟨b, 0, none⟩) (List.replicate j.toNat z0).length j.toNat) env) (Bf E e (some ⟨b, 0, none⟩) j.toNat (List.replicate j.toNat z0) :: hs) Kr) : T N D B env hs Kn :=
  T.valW cx (v := fun b => .slice (some ⟨b, 0, none⟩) (List.replicate j.toNat z0).length j.toNat) hw hf (fun a w h3 h4 => by
    obtain ⟨h0, hcb⟩ := hc
    obtain ⟨n, rfl⟩ := Int.eq_ofNat_of_zero_le h0
    have h1b := Nat.le_of_ble_eq_true hby
    have hb : bytes * n ≤ 140737488355328 := by rw [Nat.mul_comm]; omega
    have h63 : n ≤ 140737488355328 := Nat.le_trans (Nat.le_mul_of_pos_left _ h1b) hb
    rw [Int.toNat_natCast] at *
    obtain ⟨inf, hi, hz', hs', hb'⟩ := ht.get
    have hoc := E.one _ _ _ (hz PH.emp) zero (by simp)
    have hcells : zero.cells = #[zero] := by cases zero <;> first | rfl | cases hoc
    have hr := run_make_row (P := P) (w := w) t e inf zero hsl.eq hi hz' hs' hcells kl kc n (by rw [hb']; omega) (by omega)
    refine ⟨w.heap.size, _, by simp only [execOp, ho, h3.eval hx, h3.eval hy, Sem.run_bind, hr, Result.andThen_ok, Sem.run_pure, List.length_replicate]; rfl, ?_⟩
    have hA := h4.allocCl (madeCells #[zero] n) e
    rw [toList_madeCells_one] at hA
    refine hA.conseq 0 rfl (A' := Bf E e (some ⟨w.heap.size, 0, none⟩) n (List.replicate n z0)) fun z g hg => .inr ⟨w.heap.size, List.replicate n zero, [], rfl, Encs.rep1 (hz z) n, ?_, ?_, ?_⟩
    · simp [hsz]
    · simp only [maxLen]; omega
    · rw [hg, List.append_nil]) h
end
section
variable {P : Program} {env : Env} {o : Oper}
variable {α β : Type} {E : Elt α} {A : Option Addr} {l : List α} {x : Operand} {t : TypeId} {bytes esz off : Nat} {zero : Value}
/-- A part of one cell, read in an open order. -/
theorem run_fldRo [Inhabited α] {z0 : PH} {enc : β → Value} {h1' : ∀ x, (enc x).oneCell' = true} {j : Int} {q : Nat} {g : α → β} [ht : TI P t 1 bytes false zero] (fd : Fd E off (Elt.sc enc h1') g) (hesz : E.sz = esz) (hR : Rd E z0 A l) (ho : o.op = .load t x) (hx : ev env x = some (ep A q)) (hq : q = j.toNat * esz + off) (h0 : 0 ≤ j) (hj : j < (l.length : Int)) :
    ∀ a w, Holds env a → PH.le z0 (PH.of w) → (execOp a.eval o).run P w = .ok (.value (enc (g (l.getD j.toNat default)))) w := fun a w h3 hz => by
  obtain ⟨b, o', cs, ty, fr, vs, rfl, hb, hE, hv⟩ := hR.get (i := j.toNat) (x := l.getD j.toNat default) (by simp [List.getD_eq_getElem?_getD, show j.toNat < l.length by omega])
  obtain ⟨us, hF, hu⟩ := fd.get _ _ _ hE
  have hF : us = [enc (g (l.getD j.toNat default))] := hF
  subst hF; subst hq; subst hesz
  have hc : cs[o' + (j.toNat * E.sz + off)]? = some (enc (g (l.getD j.toNat default))) := by
    have := hv _ _ (hu 0 _ rfl)
    rw [← this]; congr 1; omega
  have := run_load1 (P := P) (w := w) (off := o' + (j.toNat * E.sz + off)) ht (hz b _ hb) hc
  simp only [execOp, ho, h3.eval hx, ep_some, Sem.run_bind, this, Result.andThen_ok, Sem.run_pure]
end
end Go.Proofs.Ytccifnjlfhdpiaa
