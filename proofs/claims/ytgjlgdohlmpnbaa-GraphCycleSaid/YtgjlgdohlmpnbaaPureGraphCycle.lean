/- The pure statement of GraphCycle: there is an order just if no job uses itself. Conditions: none. -/
import Derived.Test.YtgjlgdohlmpnbaaB6
import Derived.Test.YtgjlgdohlmpnbaaB7
namespace Go.Proofs.Ytgjlgdohlmpnbaa.Pure
open Go.RowKit Go.Proofs.Ytgjlgdohlmpnbaa.P Go.Proofs.Ytgjlgdohlmpnbaa.O Go.Proofs.YtgjlgdohlmpnbaaW.PrintWords Go.Proofs.YtgjlgdohlmpnbaaW.PrintLast Go.Proofs.YtgjlgdohlmpnbaaW.PrintMore
set_option linter.unusedSimpArgs false
set_option linter.unusedVariables false
def ringTo (l : List S31) : Nat → Bool
  | 0 => false
  | i + 1 => ringTo l i || decide ((i : Int) ∈ usersOf l (i : Int))
theorem ringTo_iff (l : List S31) : ∀ n, n ≤ l.length → (ringTo l n = true ↔ ∃ i : Nat, i < n ∧ Uses l (i : Int) i)
  | 0, _ => by simp [ringTo]
  | n + 1, h => by
    have ih := ringTo_iff l n (by omega)
    unfold ringTo
    rw [Bool.or_eq_true, ih, decide_eq_true_eq, users_mem l n (by omega) (by omega)]
    constructor
    · rintro (⟨i, h1, h2⟩ | h1)
      · exact ⟨i, by omega, h2⟩
      · exact ⟨n, by omega, h1⟩
    · rintro ⟨i, h1, h2⟩
      by_cases e : i = n
      · subst e; exact .inr h2
      · exact .inl ⟨i, by omega, h2⟩
theorem cycle_loop (l : List S31) (hf : fewJ l) (e : Int) (he : e = 13 ∧ ringTo l l.length = true ∨ e = 0 ∧ ringTo l l.length = false) : ∀ (d i : Nat), i + d = l.length → Ends (fun k => carlinglaw21_GraphCycle.l0 k l true e (ringTo l i) i) true
  | 0, i, h => by
    obtain rfl : i = l.length := by omega
    apply Ends.succ
    simp only [carlinglaw21_GraphCycle.l0]
    refine Ends.neg (by omega) (Ends.pos (by trivial) ?_)
    rcases he with ⟨rfl, h2⟩ | ⟨rfl, h2⟩ <;> rw [h2] <;> exact Ends.pos (by decide) (Ends.const _)
  | d + 1, i, h => by
    have hL := hf.1
    have hfew := users_few l (i : Int)
    have ih := cycle_loop l hf e he d (i + 1) (by omega)
    have h2 : graph_Users.f l (i : Int) = some (usersOf l (i : Int)) := by unfold graph_Users.f; rw [if_pos hf]
    apply Ends.succ
    simp only [carlinglaw21_GraphCycle.l0]
    refine Ends.pos (by omega) (Ends.bind (Ends.of_eq h2) (Ends.bind (Has_ends _ _ (by omega)) ?_))
    rw [wrap_succ (by omega)]
    unfold ringTo at ih
    by_cases hr : ringTo l i = true
    · rw [hr, Bool.true_or] at ih
      exact Ends.pos hr ih
    · rw [Bool.eq_false_iff.mpr hr, Bool.false_or] at ih
      exact Ends.neg hr ih
theorem GraphCycle (l0 : List S31) (_ : ∀ y ∈ l0, Wf31 y) (_ : l0.length ≤ 9223372036854775807) : ∃ k, carlinglaw21_GraphCycle.f k l0 = some true := by
  apply Ends.get
  unfold carlinglaw21_GraphCycle.f
  refine Ends.bind (Ends.of_eq awake_eq) ?_
  obtain ⟨b, e1, e2⟩ := light_ends l0
  refine Ends.bind e1 ?_
  by_cases hb : b = true
  · obtain ⟨hf, hl⟩ := e2 hb
    have ho : graph_Order.f l0 = some (orderOf l0) := by unfold graph_Order.f; rw [if_pos hf]
    refine Ends.pos hb (Ends.bind (Ends.of_eq ho) ?_)
    have hloop : ∀ e, (e = 13 ∧ ringTo l0 l0.length = true ∨ e = 0 ∧ ringTo l0 l0.length = false) → Ends (fun k => carlinglaw21_GraphCycle.j0 k l0 true e false) true := fun e he => by
      apply Ends.succ
      simp only [carlinglaw21_GraphCycle.j0]
      exact Ends.neg (by simp) (cycle_loop l0 hf e he l0.length 0 (by omega))
    have hskip : ∀ e, Ends (fun k => carlinglaw21_GraphCycle.j0 k l0 true e true) true := fun e => by
      apply Ends.succ
      simp only [carlinglaw21_GraphCycle.j0]
      exact Ends.pos (by trivial) (Ends.const _)
    by_cases h1 : badTo l0 l0.length = true
    · have e : orderOf l0 = ([], 1) := by unfold orderOf; rw [if_pos h1]
      rw [e]
      exact Ends.pos (by trivial) (hskip _)
    · by_cases h2 : twiceTo l0 l0.length = true
      · have e : orderOf l0 = ([], 9) := by unfold orderOf; rw [if_neg h1, if_pos h2]
        rw [e]
        exact Ends.neg (by simp) (hskip _)
      · have hr := ringTo_iff l0 l0.length (Nat.le_refl _)
        by_cases h3 : (orderGo l0 (l0.length + 1) (List.replicate l0.length false) []).length < l0.length
        · have e : orderOf l0 = ([], 13) := by unfold orderOf; rw [if_neg h1, if_neg h2, if_pos h3]
          rw [e]
          refine Ends.neg (by simp) (hloop 13 (.inl ⟨rfl, ?_⟩))
          cases hrr : ringTo l0 l0.length
          · have := full_of_no_ring l0 (Bool.eq_false_iff.mpr h1) (fun i hi => by
              have := hr.2 ⟨i, hi.lt, hi⟩
              rw [hrr] at this; cases this) l0.length (List.replicate l0.length false) [] (by simp) (undone_rep _) (by simp [undone_rep])
            omega
          · rfl
        · have e : orderOf l0 = (orderGo l0 (l0.length + 1) (List.replicate l0.length false) [], 0) := by unfold orderOf; rw [if_neg h1, if_neg h2, if_neg h3]
          rw [e]
          refine Ends.neg (by simp) (hloop 0 (.inr ⟨rfl, ?_⟩))
          cases hrr : ringTo l0 l0.length
          · rfl
          · obtain ⟨i, hi, hu⟩ := hr.1 hrr
            refine absurd (short_of_ring l0 i hu (l0.length + 1) (List.replicate l0.length false) [] (by simp) (by simp [undone_rep]) fun j hj => ?_) h3
            simp [List.getElem?_replicate, hj.lt]
  · exact Ends.neg hb (Ends.const _)
end Go.Proofs.Ytgjlgdohlmpnbaa.Pure
