/- Things behind an interface, where their type is known. -/
import Derived.Test.YtpogdeibkghhaaaDoorObj
set_option linter.unusedVariables false
set_option linter.unusedSimpArgs false
set_option linter.unusedSectionVars false
namespace Go.Proofs.YtpogdeibkghhaaaDoor
open Go.RowKit
def isStruct (P : Program) (t : TypeId) : Bool := match P.underlying t with | some (.struct _) => true | _ => false
theorem isStruct_get {P : Program} {t : TypeId} (h : isStruct P t = true) : ∃ fs, P.underlying t = some (.struct fs) := by
  unfold isStruct at h
  split at h
  · exact ⟨_, ‹_›⟩
  · cases h
section
variable {P : Program} {N : Nat} {D : List Deferred} {B : World} {env : Env} {hs : List MP} {Q : Exit → Act → World → Prop} {w : World}
variable {ops : Array Oper} {o : Oper} {Kn Kr : Act → World → Prop} {kd : Nat} {x y c : Operand} {v u r : Value} {t t' xt : TypeId}
variable {size bytes : Nat} {agg : Bool} {zero z : Value}
theorem T.mkIfc (cx : Cx P ops Q o Kn Kr kd) (hst : isStruct P t = true) (ho : o.op = .makeInterface t x) (hw : wants ops env o true) (hf : fits N o = true) (hx : ev env x = some v) (h : T N D B (ptE o (.iface t v) env) hs Kr) : T N D B env hs Kn := by
  obtain ⟨fs, hu⟩ := isStruct_get hst
  exact T.mkIface cx ho hw hf hx hu rfl h
theorem T.assertYes2 (cx : Cx P ops Q o Kn Kr kd) (hst : isStruct P t = true) (ho : o.op = .typeAssert x xt t true) (hw : wants ops env o true) (hf : fits N o = true) (hx : ev env x = some (.iface t v)) (h : T N D B (ptE o (.tuple #[v, .bool true]) env) hs Kr) : T N D B env hs Kn := by
  obtain ⟨fs, hu⟩ := isStruct_get hst
  exact T.valP cx _ hw hf (fun a w h3 => by simp [execOp, ho, h3.eval hx, Instr.typeAssert, run_underlying hu]) h
theorem T.assertYes1 (cx : Cx P ops Q o Kn Kr kd) (hst : isStruct P t = true) (ho : o.op = .typeAssert x xt t false) (hw : wants ops env o true) (hf : fits N o = true) (hx : ev env x = some (.iface t v)) (h : T N D B (ptE o v env) hs Kr) : T N D B env hs Kn := by
  obtain ⟨fs, hu⟩ := isStruct_get hst
  exact T.valP cx _ hw hf (fun a w h3 => by simp [execOp, ho, h3.eval hx, Instr.typeAssert, run_underlying hu]) h
theorem T.assertNo2 (cx : Cx P ops Q o Kn Kr kd) [ht : TI P t size bytes agg zero] (hst : isStruct P t = true) (ho : o.op = .typeAssert x xt t true) (hw : wants ops env o true) (hf : fits N o = true) (hx : ev env x = some (.iface t' v)) (hne : (t' == t) = false) (hz : zero = z) (h : T N D B (ptE o (.tuple #[z, .bool false]) env) hs Kr) : T N D B env hs Kn := by
  obtain ⟨fs, hu⟩ := isStruct_get hst
  subst hz
  have hne : ¬ t' = t := by simpa using hne
  exact T.valP cx _ hw hf (fun a w h3 => by simp [execOp, ho, h3.eval hx, Instr.typeAssert, run_underlying hu, ht.zeroValue, hne]) h
end
end Go.Proofs.YtpogdeibkghhaaaDoor
