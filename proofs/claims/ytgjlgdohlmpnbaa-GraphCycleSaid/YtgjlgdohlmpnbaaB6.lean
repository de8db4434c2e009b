/- Plain lemmas: the list of users rises, and whether a list has a number. Conditions: as each states. -/
import Derived.Test.YtgjlgdohlmpnbaaB4
import Derived.Test.YtgjlgdohlmpnbaaPx7
namespace Go.Proofs.Ytgjlgdohlmpnbaa.Pure
open Go.RowKit Go.Proofs.Ytgjlgdohlmpnbaa.P Go.Proofs.Ytgjlgdohlmpnbaa.O Go.Proofs.YtgjlgdohlmpnbaaW.PrintWords Go.Proofs.YtgjlgdohlmpnbaaW.PrintLast Go.Proofs.YtgjlgdohlmpnbaaW.PrintMore
set_option linter.unusedSimpArgs false
set_option linter.unusedVariables false

theorem has_loop (N : List Int) (n : Int) (hN : N.length ≤ 1000000) : ∀ (d i : Nat), i + d = N.length → (∀ j, j < i → rd N (j : Int) ≠ n) → Ends (fun k => carlingref21_has.l0 k N n i) (decide (n ∈ N))
  | 0, i, h, hno => by
    obtain rfl : i = N.length := by omega
    apply Ends.succ
    simp only [carlingref21_has.l0]
    have : ¬ n ∈ N := fun hm => by
      obtain ⟨j, hj, e⟩ := List.mem_iff_getElem.1 hm
      exact hno j hj (by simp [rd, hj, e])
    rw [decide_eq_false this]
    exact Ends.neg (by omega) (Ends.const _)
  | d + 1, i, h, hno => by
    apply Ends.succ
    simp only [carlingref21_has.l0]
    refine Ends.pos (by omega) (Ends.pos (by omega) ?_)
    by_cases e : rd N (i : Int) = n
    · have : n ∈ N := by rw [← e]; exact rd_mem N i (by omega)
      rw [decide_eq_true this]
      exact Ends.pos e (Ends.const _)
    · refine Ends.neg e ?_
      rw [wrap_succ (by omega)]
      refine has_loop N n hN d (i + 1) (by omega) fun j hj => ?_
      by_cases ej : j = i
      · subst ej; exact e
      · exact hno j (by omega)
theorem Has_ends (N : List Int) (n : Int) (hN : N.length ≤ 1000000) : Ends (fun k => carlingref21_Has.f k N n) (decide (n ∈ N)) := by
  unfold carlingref21_Has.f
  exact Ends.bind (has_loop N n hN N.length 0 (by omega) (fun j hj => absurd hj (Nat.not_lt_zero _))) (Ends.const _)
theorem pick_rises (S : List Int) : ∀ n, (pickTo S n).Pairwise (· < ·) ∧ ∀ x ∈ pickTo S n, 0 ≤ x ∧ x < (n : Int)
  | 0 => by simp [pickTo]
  | n + 1 => by
    obtain ⟨h1, h2⟩ := pick_rises S n
    unfold pickTo
    by_cases h : (n : Int) ∈ S
    · rw [if_pos h]
      refine ⟨?_, fun x hx => ?_⟩
      · rw [List.pairwise_append]
        refine ⟨h1, List.pairwise_singleton _ _, fun a ha b hb => ?_⟩
        obtain rfl : b = (n : Int) := by simpa using hb
        exact (h2 a ha).2
      · rcases List.mem_append.1 hx with hx | hx
        · have := h2 x hx; omega
        · obtain rfl : x = (n : Int) := by simpa using hx
          omega
    · rw [if_neg h]
      exact ⟨h1, fun x hx => by have := h2 x hx; omega⟩
theorem users_rise (l : List S31) (n : Int) : (usersOf l n).Pairwise (· < ·) ∧ ∀ x ∈ usersOf l n, 0 ≤ x ∧ x < (l.length : Int) := by
  unfold usersOf
  split
  · simp
  · exact pick_rises _ _
theorem users_few (l : List S31) (n : Int) : (usersOf l n).length ≤ l.length := by
  unfold usersOf
  split
  · simp
  · exact pickTo_len _ _
theorem rd_rises {u : List Int} (h : u.Pairwise (· < ·)) {i : Nat} (hi : i + 1 < u.length) : rd u (i : Int) < rd u ((i + 1 : Nat) : Int) := by
  have := List.pairwise_iff_getElem.1 h i (i + 1) (by omega) hi (by omega)
  simp only [rd, Int.toNat_natCast, List.getD_eq_getElem?_getD]
  rw [List.getElem?_eq_getElem hi, List.getElem?_eq_getElem (by omega : i < u.length)]
  exact this
end Go.Proofs.Ytgjlgdohlmpnbaa.Pure
