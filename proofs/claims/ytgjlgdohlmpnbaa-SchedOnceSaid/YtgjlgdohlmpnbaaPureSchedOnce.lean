/- The pure statement of SchedOnce. Conditions: none. -/
import Derived.Test.YtgjlgdohlmpnbaaPx33
namespace Go.Proofs.Ytgjlgdohlmpnbaa.Pure
open Go.RowKit Go.Proofs.Ytgjlgdohlmpnbaa.P
theorem SchedOnce (l0 : List S31) (l1 : List Bool) (l2 : List Int) : carlinglaw22_SchedOnce.f l0 l1 l2 = some true := rfl
end Go.Proofs.Ytgjlgdohlmpnbaa.Pure
