/- Plain lemmas: jobs in a ring, reckoned for each count up to 26. No condition. -/
import Derived.Test.YtgjlgdohlmpnbaaR3
namespace Go.Proofs.Ytgjlgdohlmpnbaa.P
open Go.RowKit Go.Proofs.YtgjlgdohlmpnbaaW.PrintWords Go.Proofs.YtgjlgdohlmpnbaaW.PrintLast Go.Proofs.YtgjlgdohlmpnbaaW.PrintMore
set_option maxRecDepth 100000
theorem ringAt1 : ringAt 1 = true := by decide +kernel
theorem ringAt2 : ringAt 2 = true := by decide +kernel
theorem ringAt3 : ringAt 3 = true := by decide +kernel
theorem ringAt4 : ringAt 4 = true := by decide +kernel
theorem ringAt5 : ringAt 5 = true := by decide +kernel
theorem ringAt6 : ringAt 6 = true := by decide +kernel
theorem ringAt7 : ringAt 7 = true := by decide +kernel
theorem ringAt8 : ringAt 8 = true := by decide +kernel
theorem ringAt9 : ringAt 9 = true := by decide +kernel
theorem ringAt10 : ringAt 10 = true := by decide +kernel
theorem ringAt11 : ringAt 11 = true := by decide +kernel
theorem ringAt12 : ringAt 12 = true := by decide +kernel
theorem ringAt13 : ringAt 13 = true := by decide +kernel
theorem ringAt14 : ringAt 14 = true := by decide +kernel
theorem ringAt15 : ringAt 15 = true := by decide +kernel
theorem ringAt16 : ringAt 16 = true := by decide +kernel
theorem ringAt17 : ringAt 17 = true := by decide +kernel
theorem ringAt18 : ringAt 18 = true := by decide +kernel
end Go.Proofs.Ytgjlgdohlmpnbaa.P
