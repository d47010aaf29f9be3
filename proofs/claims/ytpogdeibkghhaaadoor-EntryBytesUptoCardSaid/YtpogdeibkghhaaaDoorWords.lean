/- Words of the printed functions. -/
import Derived.Test.YtpogdeibkghhaaaDoorTypes
import Derived.Test.YtpogdeibkghhaaaDoorDraw2
set_option linter.unusedVariables false
set_option linter.unusedSimpArgs false
namespace Go.Proofs.YtpogdeibkghhaaaDoor
open Go.RowKit
/-- Where a thing must be so, or Go would panic. -/
def chk {α : Type} (p : Prop) [Decidable p] (k : Option α) : Option α := if p then k else none
theorem inv_chk {α : Type} {p : Prop} [Decidable p] {k : Option α} {r : α} (h : chk p k = some r) : p ∧ k = some r := by
  unfold chk at h; split at h
  · exact ⟨‹_›, h⟩
  · cases h
theorem inv_bind {α β : Type} {a : Option α} {f : α → Option β} {r : β} (h : a.bind f = some r) : ∃ x, a = some x ∧ f x = some r := by
  cases a with
  | none => cases h
  | some x => exact ⟨x, rfl, h⟩
theorem not_t {b : Bool} (h : b = true) : (!b) = false := by rw [h]; rfl
theorem not_f {b : Bool} (h : b = false) : (!b) = true := by rw [h]; rfl
theorem slc {A : Option Addr} {n n' c : Nat} (h : n = n') : Value.slice A n c = Value.slice A n' c := by rw [h]
theorem mixed : Tryd.prog.follows .mixedOrders = true := by kernel_rfl
theorem Encs.c1 {α : Type} {enc : α → Value} {h1 : ∀ x, (enc x).oneCell' = true} {z : PH} {x : α} {l : List α} {v : Value} {cs : List Value} (h : v = enc x) (r : Encs (Elt.sc enc h1) z l cs) : Encs (Elt.sc enc h1) z (x :: l) (v :: cs) := ⟨[enc x], cs, by rw [h]; rfl, rfl, r⟩
theorem EnvLe.cons {env env' : Env} {i : Nat} {v : Value} (h : Env.get env i = some v) (r : EnvLe env env') : EnvLe env ((i, v) :: env') := ⟨h, r⟩
theorem EnvLe.nil {env : Env} : EnvLe env [] := trivial
theorem chk_pos {α : Type} {p : Prop} [Decidable p] {k : Option α} (hp : p) : chk p k = k := by simp [chk, hp]
theorem inv_some {α : Type} {a b : α} (h : some a = some b) : a = b := Option.some.inj h
section
variable {P : Program} {N : Nat} {D : List Deferred} {B : World} {env env' : Env} {hs hs' : List MP} {Q : Exit → Act → World → Prop} {K : Act → World → Prop}
variable {ops : Array Oper} {rest : List Oper} {o : Oper} {v : Value} {Kn Kr : Act → World → Prop} {kd : Nat}
/-- What two ways have in common behind them. -/
theorem T.seqJ {x y : Code} {S X : Type} (envJ : S → X → Env) (hsJ : S → X → List MP) (pJ : S → Prop) (rest : ∀ s x, pJ s → T N D B (envJ s x) (hsJ s x) (y.wp P Q))
    (body : (∀ s x, pJ s → T N D B (envJ s x) (hsJ s x) (y.wp P Q)) → T N D B env hs (x.wp P (Exit.then (y.wp P Q) Q))) : T N D B env hs ((Code.seq x y).wp P Q) := T.seq (body rest)
theorem T.bool {b : Bool} (ht : b = true → T N D B env hs K) (hf : b = false → T N D B env hs K) : T N D B env hs K := by cases b; exact hf rfl; exact ht rfl
theorem run_eqBool (d : Nat) {t : TypeId} (ht : P.underlying t = some .bool) (a b : Bool) (w : World) : (Op.equalIn (d + 1) t (.bool a) (.bool b)).run P w = .ok (decide (a = b)) w := by
  unfold Op.equalIn
  simp [run_underlying ht, beq_dec]
/-- One value in other words. -/
theorem T.env1 (i : Nat) {v v' : Value} (hv : Env.get env i = some v) (e : v = v') (h : T N D B ((i, v') :: env) hs K) : T N D B env hs K :=
  fun a w h1 h2 h3 h4 => h a w h1 h2 (fun j u hj => by
    simp only [Env.get] at hj
    cases hb : Nat.beq i j with
    | true => rw [hb] at hj; simp only [Option.some.injEq] at hj; rw [← Nat.eq_of_beq_eq_true hb, ← hj, ← e]; exact h3 i v hv
    | false => rw [hb] at hj; exact h3 j u hj) h4
theorem T.boolEq {x y : Operand} {t yt : TypeId} {a b : Bool} (cx : Cx P ops Q o Kn Kr kd) (ho : o.op = .binOp .eql t x y yt) (hw : wants ops env o true) (hf : fits N o = true) (hx : ev env x = some (.bool a)) (hy : ev env y = some (.bool b)) (ht : P.underlying t = some .bool) (h : T N D B (ptE o (.bool (decide (a = b))) env) hs Kr) : T N D B env hs Kn :=
  T.bin' cx ho hw hf hx hy (fun w => by
    have hq : (Op.equal t (.bool a) (.bool b)).run P w = .ok (decide (a = b)) w := run_eqBool 9999 ht a b w
    rw [eqGuard_at_bool]
    simp only [binOp, Sem.run_bind, Sem.run_pure, Result.andThen_ok, hq]) h
/-- An element that is a slice. -/
theorem T.ldSlice {α : Type} {E : Elt α} {A : Option Addr} {cr : Nat} {l : List (List α)} {x : Operand} {t : TypeId} {bytes : Nat} {zero : Value} (cx : Cx P ops Q o Kn Kr (kd + 1)) (i : Nat) {j : Int} [ht : TI P t 1 bytes false zero] (hi : hs[i]? = some (Ro (Elt.slice E) A cr l)) (ho : o.op = .load t x) (hw : wants ops env o true) (hf : fits N o = true) (hx : ev env x = some (ep A (j.toNat * 1))) (h0 : 0 ≤ j) (hj : j < (l.length : Int))
    (h : ∀ q : Option Addr × Nat, T N D B (ptE o (.slice q.1 (l.getD j.toNat default).length q.2) env) (Ro E q.1 q.2 (l.getD j.toNat default) :: hs) Kr) : T N D B env hs Kn :=
  T.valR cx (v := fun q : Option Addr × Nat => .slice q.1 (l.getD j.toNat default).length q.2) hw hf (fun a w h3 h4 => by
    have h5 := h4
    obtain ⟨z, g, hp, hd, hz, hg, hB, hr⟩ := h4
    obtain ⟨g1, ⟨rfl, hRd, _⟩, hle⟩ := hp.sub hi
    obtain ⟨b, off, cs, ty, fr, vs, rfl, hb, hE, hv⟩ := hRd.get (i := j.toNat) (x := l.getD j.toNat default) (by simp [List.getD_eq_getElem?_getD, show j.toNat < l.length by omega])
    obtain ⟨A', c', rfl, hc', hR'⟩ := hE
    have hcell := hv 0 _ rfl
    have := run_load1 (P := P) (w := w) (off := off + j.toNat * 1) (v := .slice A' (l.getD j.toNat default).length c') ht (hz _ _ hb) hcell
    refine ⟨(A', c'), by simp only [execOp, ho, h3.eval hx, ep_some, Sem.run_bind, this, Result.andThen_ok, Sem.run_pure], ?_⟩
    exact ⟨z, g, ⟨PH.emp, g, ⟨rfl, hR', hc'⟩, hp, PH.emp_disj _, (PH.emp_join _).symm⟩, hd, hz, hg, hB, hr⟩) h
theorem wants0 (hg : o.guard = none) : wants ops env o true := by unfold wants; rw [hg]
theorem wants1 {j d : Nat} {b want : Bool} (hg : o.guard = some (j, want)) (hd : (ops[j]?).bind (·.dst) = some d) (he : Env.get env d = some (.bool b)) (hb : b = want) : wants ops env o true := by
  unfold wants; rw [hg]; exact ⟨d, _, hd, he, by subst hb; simp⟩
theorem wantsNot {j d : Nat} {b want : Bool} (hg : o.guard = some (j, want)) (hd : (ops[j]?).bind (·.dst) = some d) (he : Env.get env d = some (.bool b)) (hb : b = !want) : wants ops env o false := by
  unfold wants; rw [hg]; exact ⟨d, _, hd, he, by subst hb; cases want <;> rfl⟩
theorem wantsUndef {j d : Nat} {want : Bool} (hg : o.guard = some (j, want)) (hd : (ops[j]?).bind (·.dst) = some d) (he : Env.get env d = some undef) : wants ops env o false := by
  unfold wants; rw [hg]; exact ⟨d, _, hd, he, rfl⟩
theorem T.pickT {c x y : Operand} {z : Bool} (cx : Cx P ops Q o Kn Kr kd) (ho : o.op = .pick c x y) (hw : wants ops env o true) (hf : fits N o = true) (hc : ev env c = some (.bool z)) (hz : z = true) (hx : ev env x = some v) (h : T N D B (ptE o v env) hs Kr) : T N D B env hs Kn :=
  T.pickOp cx ho hw hf hc (by rw [if_pos hz]; exact hx) h
theorem T.pickF {c x y : Operand} {z : Bool} (cx : Cx P ops Q o Kn Kr kd) (ho : o.op = .pick c x y) (hw : wants ops env o true) (hf : fits N o = true) (hc : ev env c = some (.bool z)) (hz : z = false) (hx : ev env y = some v) (h : T N D B (ptE o v env) hs Kr) : T N D B env hs Kn :=
  T.pickOp cx ho hw hf hc (by rw [if_neg (by rw [hz]; simp)]; exact hx) h
end
def u8 (n : Int) : UInt8 := UInt8.ofNat n.toNat
theorem b8_u8 {n : Int} (h0 : 0 ≤ n) (h1 : n < 256) : Value.int .u8 n = b8 (u8 n) := by
  unfold b8 u8
  rw [UInt8.toNat_ofNat_of_lt' (by simp [UInt8.size]; omega)]
  congr 1; omega
theorem u8_wrap (n : Int) : 0 ≤ IntKind.u8.wrap n ∧ IntKind.u8.wrap n < 256 := by
  unfold IntKind.wrap; simp [IntKind.signed, IntKind.bits]; omega
theorem b8_wrap (n : Int) : Value.int .u8 (IntKind.u8.wrap n) = b8 (u8 (IntKind.u8.wrap n)) := b8_u8 (u8_wrap n).1 (u8_wrap n).2
theorem b8_bits (op : BinOp) (x y : Int) : Value.int .u8 (bitsOf op .u8 x y) = b8 (u8 (bitsOf op .u8 x y)) := by
  unfold bitsOf; cases op <;> exact b8_wrap _
end Go.Proofs.YtpogdeibkghhaaaDoor
