/- The pure statement of GraphOrders: the order of any jobs is the document's. Conditions: none. -/
import Derived.Test.YtgjlgdohlmpnbaaB2
namespace Go.Proofs.Ytgjlgdohlmpnbaa.Pure
open Go.RowKit Go.Proofs.Ytgjlgdohlmpnbaa.P Go.Proofs.Ytgjlgdohlmpnbaa.O Go.Proofs.YtgjlgdohlmpnbaaW.PrintWords Go.Proofs.YtgjlgdohlmpnbaaW.PrintLast Go.Proofs.YtgjlgdohlmpnbaaW.PrintMore
theorem GraphOrders (l0 : List S31) (_ : ∀ y ∈ l0, Wf31 y) (_ : l0.length ≤ 9223372036854775807) : ∃ k, carlinglaw21_GraphOrders.f k l0 = some true := by
  apply Ends.get
  unfold carlinglaw21_GraphOrders.f
  refine Ends.bind (Ends.of_eq awake_eq) ?_
  obtain ⟨b, e1, e2⟩ := light_ends l0
  refine Ends.bind e1 ?_
  by_cases hb : b = true
  · obtain ⟨hf, hl⟩ := e2 hb
    have ho : graph_Order.f l0 = some (orderOf l0) := by unfold graph_Order.f; rw [if_pos hf]
    have hn := orderOf_len l0
    refine Ends.pos hb (Ends.bind (Ends.of_eq ho) (Ends.bind (order_ends l0 hf) (Ends.bind (same_ends _ (by omega)) (Ends.pos (by simp) (Ends.pos (by simp) ?_)))))
    simpa using Ends.const true
  · exact Ends.neg hb (Ends.const _)
end Go.Proofs.Ytgjlgdohlmpnbaa.Pure
