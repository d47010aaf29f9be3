/- Slices of one's own that lie in an array: their headers, and what they lead to. -/
import Derived.Test.YtpogdeibkghhaaaDoorMap
set_option linter.unusedVariables false
set_option linter.unusedSimpArgs false
set_option linter.unusedSectionVars false
namespace Go.Proofs.YtpogdeibkghhaaaDoor
open Go.RowKit
abbrev Ads := Nat → Option Addr × Nat
def upd (ads : Ads) (i : Nat) (a : Option Addr × Nat) : Ads := fun j => if j = i then a else ads j
section
variable {P : Program} {N : Nat} {D : List Deferred} {B : World} {env env' : Env} {hs hs' : List MP} {ops : Array Oper} {Q : Exit → Act → World → Prop} {K Kn Kr : Act → World → Prop} {o : Oper} {kd : Nat}
variable {α β : Type} {E : Elt α} {A : Option Addr} {cr cap c b : Nat} {l : List α} {ls : List (List α)} {ads : Ads} {x y : Operand} {t e U T' : TypeId} {size bytes off n : Nat} {agg : Bool} {zero v : Value} {w : World}
end
end Go.Proofs.YtpogdeibkghhaaaDoor
