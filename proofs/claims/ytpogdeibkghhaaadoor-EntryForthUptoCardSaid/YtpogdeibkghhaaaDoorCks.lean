/- Names for what lies in memory. -/
import Derived.Test.YtpogdeibkghhaaaDoorObj
namespace Go.Proofs.YtpogdeibkghhaaaDoor
open Go.RowKit
theorem nla {a b : Nat} : a ≤ b + a := Nat.le_add_left _ _
section
variable {P : Program} {N : Nat} {D : List Deferred} {B : World} {env : Env} {hs : List MP} {Q : Exit → Act → World → Prop} {ops : Array Oper} {rest : List Oper} {o : Oper} {x : Operand} {v : Value}
theorem w0 (hg : o.guard = none := by rfl) : wants ops env o true := wants0 hg
theorem T.mv (ho : o.op = .move x) (hg : o.guard = none) (hf : fits N o = true) (hx : ev env x = some v) (h : T N D B (ptE o v env) hs (wpList P ops Q rest)) : T N D B env hs (wpList P ops Q (o :: rest)) := T.move .list ho (wants0 hg) hf hx h
theorem T.asg (ho : o.op = .assign x) (hg : o.guard = none) (hf : fits N o = true) (hx : ev env x = some v) (h : T N D B (ptE o v env) hs (wpList P ops Q rest)) : T N D B env hs (wpList P ops Q (o :: rest)) := T.assign .list ho (wants0 hg) hf hx h
theorem T.lv {j d : Nat} {b want : Bool} (hg : o.guard = some (j, want)) (hd : (ops[j]?).bind (·.dst) = some d) (he : Env.get env d = some (.bool b)) (hb : b = !want) (hf : fits N o = true) (h : T N D B (ptE o undef env) hs (wpList P ops Q rest)) : T N D B env hs (wpList P ops Q (o :: rest)) := T.leave .list (wantsNot hg hd he hb) hf h
end
end Go.Proofs.YtpogdeibkghhaaaDoor
