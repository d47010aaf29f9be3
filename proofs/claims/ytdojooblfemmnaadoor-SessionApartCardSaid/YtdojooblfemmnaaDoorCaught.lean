/- The tree's deferred function that looks for a panic, where there is none. -/
import Derived.Test.YtdojooblfemmnaaDoorDefer
import Derived.Test.YtdojooblfemmnaaDoorValid
set_option linter.unusedVariables false
set_option linter.unusedSimpArgs false
namespace Go.Proofs.YtdojooblfemmnaaDoor
open Go.RowKit
def tree_caught.impl (o0 : Int) : Option Unit := some ()
theorem tree_caught.d {B : World} {hs : List MP} {w : World} {p0 : Nat} {o0 : Int} {T' : TypeId} (hB : Base B) (hS : St B (Cl p0 T' [.int .i64 o0] :: hs) w) {r : Unit} (hr : tree_caught.impl o0 = some r) :
    CallsD Tryd.prog 37 #[.pointer (some ⟨p0, 0, none⟩)] .returning w fun e u w' => u = .returning ∧ ∃ x : Unit, e = .returned (.tuple #[]) ∧ St B (Cl p0 T' [.int .i64 o0] :: hs) w' := by
  refine callsD_of_wpS Tryd.func37 rfl fun c₀ cs hu => ?_
  apply wpS_seq
  apply wpS_region
  simp [wpOpsS, go_sem, recoverD, hu, Tryd.ntmps37, Exit.thenS]
  refine wpS_of_wp ?_
  refine (?_ : T Tryd.f37.ntmps [] B [(6, .nilIface)] (Cl p0 T' [.int .i64 o0] :: hs) _) _ _ ?_ rfl (fun i v hi => ?_) hS
  rotate_left
  · simp [Tryd.ntmps37]
  · simp only [Env.get] at hi
    split at hi
    · rename_i e; obtain rfl := Nat.eq_of_beq_eq_true e; cases hi; simp
    · cases hi
  refine T.block ?_
  refine T.seq ?_
  refine T.region ?_
  refine T.nilIfEq .list rfl (wants0 rfl) rfl rfl (by kernel_rfl) ?_
  refine T.nil ?_
  refine T.then_normal ?_
  refine T.condT rfl rfl ?_
  refine T.region ?_
  refine T.assign .list rfl (wants0 rfl) rfl rfl ?_
  refine T.nil ?_
  refine T.in_normal ?_
  intro a w h1 h2 h3 h4
  exact ⟨h2, .returning, by rw [← hu], .tuple #[], results_none rfl _ _ _, rfl, rfl, h4⟩
end Go.Proofs.YtdojooblfemmnaaDoor
