/- Plain lemmas: jobs in a ring, reckoned for each count up to 26. No condition. -/
import Derived.Test.YtgjlgdohlmpnbaaR1
namespace Go.Proofs.Ytgjlgdohlmpnbaa.P
open Go.RowKit Go.Proofs.YtgjlgdohlmpnbaaW.PrintWords Go.Proofs.YtgjlgdohlmpnbaaW.PrintLast Go.Proofs.YtgjlgdohlmpnbaaW.PrintMore
set_option maxRecDepth 100000
/-- a ring of n jobs, whatever the cut, whole or not -/
def ringAt (n : Nat) : Bool := (List.range n).all fun k => decide (carlinglaw21_GraphRing.l0 100 n false true k [] 0 = some true) && decide (carlinglaw21_GraphRing.l0 100 n true true k [] 0 = some true)
end Go.Proofs.Ytgjlgdohlmpnbaa.P
