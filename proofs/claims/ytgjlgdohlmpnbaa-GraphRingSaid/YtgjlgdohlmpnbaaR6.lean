/- Plain lemmas: jobs in a ring, reckoned for each count up to 26. No condition. -/
import Derived.Test.YtgjlgdohlmpnbaaR3
namespace Go.Proofs.Ytgjlgdohlmpnbaa.P
open Go.RowKit Go.Proofs.YtgjlgdohlmpnbaaW.PrintWords Go.Proofs.YtgjlgdohlmpnbaaW.PrintLast Go.Proofs.YtgjlgdohlmpnbaaW.PrintMore
set_option maxRecDepth 100000
theorem ringAt22 : ringAt 22 = true := by decide +kernel
theorem ringAt23 : ringAt 23 = true := by decide +kernel
theorem ringAt24 : ringAt 24 = true := by decide +kernel
end Go.Proofs.Ytgjlgdohlmpnbaa.P
