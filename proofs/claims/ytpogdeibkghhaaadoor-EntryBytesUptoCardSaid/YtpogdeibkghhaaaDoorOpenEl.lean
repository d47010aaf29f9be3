/- An element that leads to slices, read where the order is open: what it leads to is opened ahead. -/
import Derived.Test.YtpogdeibkghhaaaDoorObj
set_option linter.unusedVariables false
set_option linter.unusedSimpArgs false
set_option linter.unusedSectionVars false
namespace Go.Proofs.YtpogdeibkghhaaaDoor
open Go.RowKit
/-- The j-th element's cells, in memory that is never written again. -/
def SlAt (z0 : PH) (A : Option Addr) (j sz : Nat) (us : List Value) : Prop :=
  us.length = sz ∧ ∃ b o cs ty fr, A = some ⟨b, o, none⟩ ∧ z0 b = some (.cells cs ty fr) ∧ ∀ q v, us[q]? = some v → cs[o + j * sz + q]? = some v
section
variable {P : Program} {N : Nat} {D : List Deferred} {B : World} {env : Env} {hs : List MP} {K : Act → World → Prop} {α : Type} {E : Elt α} {A : Option Addr} {cr : Nat} {l : List α}
theorem T.openEl [Inhabited α] (i : Nat) {j : Int} (sh : Sh E) (hi : hs[i]? = some (Ro E A cr l)) (h0 : 0 ≤ j) (hj : j < (l.length : Int)) {v : sh.X → List Value} {hs' : sh.X → List MP}
    (hv : ∀ e, sh.cells (l.getD j.toNat default) e = v e) (hh : ∀ e, sh.ch (l.getD j.toNat default) e ++ hs = hs' e)
    (h : ∀ z0 e, SlAt z0 A j.toNat E.sz (v e) → T N D B env (Kp z0 :: hs' e) K) : T N D B env hs K := fun a w h1 h2 h3 h4 => by
  obtain ⟨z, g, hp, hd, hz, hg, hB, hrest⟩ := h4
  obtain ⟨g1, ⟨rfl, hRd, _⟩, hle⟩ := hp.sub hi
  obtain ⟨b, off, cs, ty, fr, vs, rfl, hb, hE, hvs⟩ := hRd.get (i := j.toNat) (x := l.getD j.toNat default) (by simp [List.getD_eq_getElem?_getD, show j.toNat < l.length by omega])
  obtain ⟨e, e1, e2⟩ := sh.op _ _ _ hE
  have hlen := E.len _ _ _ hE
  refine h z e ⟨by rw [← hv e, ← e1]; exact hlen, b, off, cs, ty, fr, rfl, hb, ?_⟩ a w h1 h2 h3 ?_
  · rw [← hv e, ← e1]; exact hvs
  · rw [← hh e]
    exact ⟨z, g, ⟨PH.emp, g, ⟨rfl, PH.le_refl _⟩, hp.adds e2, PH.emp_disj _, (PH.emp_join _).symm⟩, hd, hz, hg, hB, hrest⟩
theorem run_ldSl {env : Env} {o : Oper} {x : Operand} {t : TypeId} {size bytes : Nat} {zero : Value} {z0 : PH} {j : Int} {us : List Value} [ht : TI P t size bytes true zero] (hs : SlAt z0 A j.toNat size us) (ho : o.op = .load t x) (hx : ev env x = some (ep A (j.toNat * size))) :
    ∀ a w, Holds env a → PH.le z0 (PH.of w) → (execOp a.eval o).run P w = .ok (.value (.agg us.toArray)) w := fun a w h3 hz => by
  obtain ⟨hl, b, off, cs, ty, fr, rfl, hb, hv⟩ := hs
  have := run_loadN (P := P) (w := w) (off := off + j.toNat * size) (vs := us) ht (hz _ _ hb) hl hv
  simp only [execOp, ho, h3.eval hx, ep_some, Sem.run_bind, this, Result.andThen_ok, Sem.run_pure]
end
end Go.Proofs.YtpogdeibkghhaaaDoor
