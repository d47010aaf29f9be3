/- What Decode does with any bytes. -/
import Derived.Test.YtpogdeibkghhaaaDoorEncL
import Derived.Test.YtpogdeibkghhaaaDoorEntryD
import Derived.Test.YtpogdeibkghhaaaDoorWirL
set_option linter.unusedVariables false
set_option linter.unusedSimpArgs false
namespace Go.Proofs.YtpogdeibkghhaaaDoor
open Go Go.RowKit Go.Lib
end Go.Proofs.YtpogdeibkghhaaaDoor
