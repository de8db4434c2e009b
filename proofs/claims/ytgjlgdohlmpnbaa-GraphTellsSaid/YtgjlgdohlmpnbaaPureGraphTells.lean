/- The pure statement of GraphTells: which jobs are ready, and which ones use any one, are the document's. Conditions: none. -/
import Derived.Test.YtgjlgdohlmpnbaaB5
import Derived.Test.YtgjlgdohlmpnbaaPx7
namespace Go.Proofs.Ytgjlgdohlmpnbaa.Pure
open Go.RowKit Go.Proofs.Ytgjlgdohlmpnbaa.P Go.Proofs.Ytgjlgdohlmpnbaa.O Go.Proofs.YtgjlgdohlmpnbaaW.PrintWords Go.Proofs.YtgjlgdohlmpnbaaW.PrintLast Go.Proofs.YtgjlgdohlmpnbaaW.PrintMore
theorem GraphTells (l0 : List S31) (l1 : List Bool) (a2 : Int) : ∃ k, carlinglaw21_GraphTells.f k l0 l1 a2 = some true := by
  apply Ends.get
  unfold carlinglaw21_GraphTells.f
  refine Ends.bind (Ends.of_eq awake_eq) ?_
  obtain ⟨b, e1, e2⟩ := light_ends l0
  refine Ends.bind e1 ?_
  by_cases hb : b = true
  · obtain ⟨hf, hl⟩ := e2 hb
    have h1 : graph_Ready.f l0 l1 = some (readyTo l0 l1 l0.length) := by unfold graph_Ready.f; rw [if_pos hf]
    have h2 : graph_Users.f l0 a2 = some (usersOf l0 a2) := by unfold graph_Users.f; rw [if_pos hf]
    have hn := readyTo_len l0 l1 l0.length
    have hu := users_len l0 a2
    refine Ends.pos hb ?_
    apply Ends.succ
    simp only [carlinglaw21_GraphTells.j0]
    by_cases hd : (l1.length : Int) > 200
    · exact Ends.pos (by simpa using hd) (Ends.const _)
    · refine Ends.neg (by simpa using hd) (Ends.bind (Ends.of_eq h1) (Ends.bind (ready_ends l0 l1 hf) (Ends.bind (same_ends _ (by omega)) (Ends.bind (Ends.of_eq h2) (Ends.bind (refusers_ends l0 a2 hf) (Ends.bind (same_ends _ (by omega)) ?_))))))
      exact Ends.pos (by trivial) (Ends.pos (by trivial) (Ends.const _))
  · refine Ends.neg hb ?_
    apply Ends.succ
    simp only [carlinglaw21_GraphTells.j0]
    exact Ends.pos (by trivial) (Ends.const _)
end Go.Proofs.Ytgjlgdohlmpnbaa.Pure
