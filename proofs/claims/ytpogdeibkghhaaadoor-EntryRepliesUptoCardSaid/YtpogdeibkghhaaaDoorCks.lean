/- Names for what lies in memory. -/
import Derived.Test.YtpogdeibkghhaaaDoorObj
namespace Go.Proofs.YtpogdeibkghhaaaDoor
open Go.RowKit
theorem nla {a b : Nat} : a ≤ b + a := Nat.le_add_left _ _
end Go.Proofs.YtpogdeibkghhaaaDoor
