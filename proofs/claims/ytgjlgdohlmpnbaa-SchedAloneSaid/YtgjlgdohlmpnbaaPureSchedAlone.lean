/- The pure statement of SchedAlone. Conditions: none. -/
import Derived.Test.YtgjlgdohlmpnbaaPx32
namespace Go.Proofs.Ytgjlgdohlmpnbaa.Pure
open Go.RowKit Go.Proofs.Ytgjlgdohlmpnbaa.P
theorem SchedAlone (l0 : List S31) (a1 : Int) : carlinglaw22_SchedAlone.f l0 a1 = some true := rfl
end Go.Proofs.Ytgjlgdohlmpnbaa.Pure
