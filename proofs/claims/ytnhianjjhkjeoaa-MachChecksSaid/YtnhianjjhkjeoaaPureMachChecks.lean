/- The pure statement of MachChecks: what is wrong with any code is what the document says. Conditions: each number of its kind. -/
import Derived.Test.YtnhianjjhkjeoaaB2
import Derived.Test.YtnhianjjhkjeoaaPx11
namespace Go.Proofs.Ytnhianjjhkjeoaa.Pure
open Go.RowKit Go.Proofs.Ytnhianjjhkjeoaa.P Go.Proofs.Ytnhianjjhkjeoaa.O Go.Proofs.YtnhianjjhkjeoaaW.PrintWords Go.Proofs.YtnhianjjhkjeoaaW.PrintLast Go.Proofs.YtnhianjjhkjeoaaW.PrintMore

theorem MachChecks (l0 : List S31) (a1 : Int) (hw : ∀ y ∈ l0, Wf31 y) (_ : l0.length ≤ 9223372036854775807) (_ : (Lit.int .i64 a1).wf = true) : ∃ k, carlinglaw13_MachChecks.f k l0 a1 = some true := by
  apply Ends.get
  unfold carlinglaw13_MachChecks.f
  refine Ends.bind awake_ends ?_
  by_cases h : (l0.length : Int) > 21000
  · exact Ends.pos h (Ends.const _)
  · refine Ends.neg h (Ends.bind (chk_ends l0 a1 hw) (Ends.bind (ref_chk_ends l0 a1 hw) (Ends.pos rfl (Ends.pos rfl ?_))))
    simpa using Ends.const true

end Go.Proofs.Ytnhianjjhkjeoaa.Pure
