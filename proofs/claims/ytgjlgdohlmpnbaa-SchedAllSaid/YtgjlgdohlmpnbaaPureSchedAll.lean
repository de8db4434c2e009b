/- The pure statement of SchedAll. Conditions: none. -/
import Derived.Test.YtgjlgdohlmpnbaaPx31
namespace Go.Proofs.Ytgjlgdohlmpnbaa.Pure
open Go.RowKit Go.Proofs.Ytgjlgdohlmpnbaa.P
theorem SchedAll (l0 : List S31) (a1 : Int) : carlinglaw22_SchedAll.f l0 a1 = some true := rfl
end Go.Proofs.Ytgjlgdohlmpnbaa.Pure
