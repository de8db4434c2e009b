/- The pure statement of SchedPlays. Conditions: none. -/
import Derived.Test.YtgjlgdohlmpnbaaPx34
import Derived.Test.YtgjlgdohlmpnbaaO3
namespace Go.Proofs.Ytgjlgdohlmpnbaa.Pure
open Go.RowKit Go.Proofs.Ytgjlgdohlmpnbaa.P
theorem SchedPlays (l0 : List S31) (a1 : Int) (l1 : List Bool) (l2 : List Int) : carlinglaw22_SchedPlays.f l0 a1 l1 l2 = some true := rfl
end Go.Proofs.Ytgjlgdohlmpnbaa.Pure
