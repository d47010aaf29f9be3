/- The deferred function of Encode looks for a panic, where there is none; what is empty is free. -/
import Derived.Test.YtpogdeibkghhaaaDoorDefer
import Derived.Test.YtpogdeibkghhaaaDoorValid
set_option linter.unusedVariables false
set_option linter.unusedSimpArgs false
set_option linter.unusedSectionVars false
namespace Go.Proofs.YtpogdeibkghhaaaDoor
open Go.RowKit
theorem Ro.freeNil {α : Type} {E : Elt α} {A : Option Addr} {c : Nat} {l : List α} (h : l = []) : (Ro E A c l).Free := fun z z' hh ⟨h1, h2, h3⟩ => by
  subst h; exact ⟨h1, .inl rfl, h3⟩
theorem entry_Encode_1.d {B : World} {hs : List MP} {w : World} {p q : Value} (hB : Base B) (hS : St B hs w) :
    CallsD Tryd.prog 28 #[p, q] .returning w fun e u w' => u = .returning ∧ ∃ x : Unit, e = .returned (.tuple #[]) ∧ St B hs w' := by
  refine callsD_of_wpS Tryd.func28 rfl fun c₀ cs hu => ?_
  have hq : ∀ w, (Op.equal 20 .nilIface .nilIface).run Tryd.prog w = .ok true w := fun w => run_eqNil (by kernel_rfl)
  apply wpS_seq
  apply wpS_region
  simp [wpOpsS, go_sem, recoverD, hu, Tryd.ntmps28, Exit.thenS, binOp, eqGuard, hq]
  refine wpS_of_wp ?_
  refine (?_ : T Tryd.f28.ntmps [] B [(3, .bool false)] hs _) _ _ ?_ rfl (fun i v hi => ?_) hS
  rotate_left
  · simp [Tryd.ntmps28]
  · simp only [Env.get] at hi
    split at hi
    · rename_i e; obtain rfl := Nat.eq_of_beq_eq_true e; cases hi; simp
    · cases hi
  refine T.condF rfl rfl ?_
  refine T.skip ?_
  intro a w h1 h2 h3 h4
  exact ⟨h2, .returning, by rw [← hu], .tuple #[], results_none rfl _ _ _, rfl, rfl, h4⟩
end Go.Proofs.YtpogdeibkghhaaaDoor
