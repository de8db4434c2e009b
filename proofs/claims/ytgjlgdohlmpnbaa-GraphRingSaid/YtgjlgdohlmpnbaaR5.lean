/- Plain lemmas: jobs in a ring, reckoned for each count up to 26. No condition. -/
import Derived.Test.YtgjlgdohlmpnbaaR3
namespace Go.Proofs.Ytgjlgdohlmpnbaa.P
open Go.RowKit Go.Proofs.YtgjlgdohlmpnbaaW.PrintWords Go.Proofs.YtgjlgdohlmpnbaaW.PrintLast Go.Proofs.YtgjlgdohlmpnbaaW.PrintMore
set_option maxRecDepth 100000
theorem ringAt19 : ringAt 19 = true := by decide +kernel
theorem ringAt20 : ringAt 20 = true := by decide +kernel
theorem ringAt21 : ringAt 21 = true := by decide +kernel
end Go.Proofs.Ytgjlgdohlmpnbaa.P
