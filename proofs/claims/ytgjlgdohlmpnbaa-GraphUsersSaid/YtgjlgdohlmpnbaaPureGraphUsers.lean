/- The pure statement of GraphUsers: users' users are users, and what needs a job is one. Conditions: none. -/
import Derived.Test.YtgjlgdohlmpnbaaB6
import Derived.Test.YtgjlgdohlmpnbaaPx8
namespace Go.Proofs.Ytgjlgdohlmpnbaa.Pure
open Go.RowKit Go.Proofs.Ytgjlgdohlmpnbaa.P Go.Proofs.Ytgjlgdohlmpnbaa.O Go.Proofs.YtgjlgdohlmpnbaaW.PrintWords Go.Proofs.YtgjlgdohlmpnbaaW.PrintLast Go.Proofs.YtgjlgdohlmpnbaaW.PrintMore
set_option linter.unusedSimpArgs false
set_option linter.unusedVariables false
theorem guser_inner (l : List S31) (hf : fewJ l) (u v : List Int) (x : Int) (hv : v.length ≤ l.length) (hin : ∀ y ∈ v, y ∈ u) (hu : u.length ≤ l.length)
    (p : Nat) (hp : p < u.length) (hrest : Ends (fun k => carlinglaw21_GraphUsers.l1 k l true u ((p + 1 : Nat) : Int)) true) : ∀ (d i : Nat), i + d = v.length → Ends (fun k => carlinglaw21_GraphUsers.l2 k l true u p v i) true
  | 0, i, h => by
    have hL := hf.1
    obtain rfl : i = v.length := by omega
    apply Ends.succ
    simp only [carlinglaw21_GraphUsers.l2]
    refine Ends.neg (by omega) ?_
    rw [wrap_succ (by omega)]
    exact hrest
  | d + 1, i, h => by
    have hL := hf.1
    have ih := guser_inner l hf u v x hv hin hu p hp hrest d (i + 1) (by omega)
    have hm := hin _ (rd_mem v i (by omega))
    apply Ends.succ
    simp only [carlinglaw21_GraphUsers.l2]
    refine Ends.pos (by omega) (Ends.pos (by omega) (Ends.bind (Has_ends _ _ (by omega)) (Ends.pos (by simpa using hm) ?_)))
    rw [wrap_succ (by omega)]
    exact ih
theorem guser_mid (l : List S31) (hf : fewJ l) (n : Int) (h0 : 0 ≤ n) (h1 : n < l.length) : ∀ (d i : Nat), i + d = (usersOf l n).length → Ends (fun k => carlinglaw21_GraphUsers.l1 k l true (usersOf l n) i) true
  | 0, i, h => by
    apply Ends.succ
    simp only [carlinglaw21_GraphUsers.l1]
    exact Ends.neg (by omega) (Ends.const _)
  | d + 1, i, h => by
    have hL := hf.1
    have hfew := users_few l n
    have ih := guser_mid l hf n h0 h1 d (i + 1) (by omega)
    obtain ⟨hr, hb⟩ := users_rise l n
    have hm := rd_mem (usersOf l n) i (by omega)
    have hbm := hb _ hm
    obtain ⟨j, hj⟩ : ∃ j : Nat, rd (usersOf l n) (i : Int) = (j : Int) := ⟨_, (Int.toNat_of_nonneg hbm.1).symm⟩
    have hin : ∀ y ∈ usersOf l (rd (usersOf l n) (i : Int)), y ∈ usersOf l n := fun y hy => by
      have hyb := (users_rise l _).2 y hy
      obtain ⟨q, rfl⟩ : ∃ q : Nat, y = (q : Int) := ⟨_, (Int.toNat_of_nonneg hyb.1).symm⟩
      rw [hj] at hm hy hbm
      rw [users_mem l n h0 h1] at hm ⊢
      rw [users_mem l _ hbm.1 hbm.2] at hy
      exact hm.trans hy
    have hU : graph_Users.f l (rd (usersOf l n) (i : Int)) = some (usersOf l (rd (usersOf l n) (i : Int))) := by unfold graph_Users.f; rw [if_pos hf]
    have hfin := guser_inner l hf (usersOf l n) (usersOf l (rd (usersOf l n) (i : Int))) 0 (users_few _ _) hin hfew i (by omega) ih _ 0 (Nat.zero_add _)
    have hj3 : Ends (fun k => carlinglaw21_GraphUsers.j3 k l true (usersOf l n) i false) true := by
      apply Ends.succ
      simp only [carlinglaw21_GraphUsers.j3]
      exact Ends.neg (by simp) (Ends.pos (by omega) (Ends.pos (by omega) (Ends.bind (Ends.of_eq hU) hfin)))
    apply Ends.succ
    simp only [carlinglaw21_GraphUsers.l1]
    refine Ends.pos (by omega) ?_
    by_cases hi : (i : Int) > 0
    · obtain ⟨p, rfl⟩ : ∃ p : Nat, i = p + 1 := ⟨i - 1, by omega⟩
      have hlt := rd_rises hr (i := p) (by omega)
      have hw : wrap64 (((p + 1 : Nat) : Int) - 1) = (p : Int) := by rw [wrap_small (by omega) (by omega)]; omega
      rw [hw]
      refine Ends.pos hi (Ends.pos (by omega) (Ends.pos (by omega) (Ends.pos (by omega) ?_)))
      rw [decide_eq_false (by omega)]
      exact hj3
    · exact Ends.neg hi hj3
theorem guser_first (l : List S31) (hf : fewJ l) (n : Int) (h0 : 0 ≤ n) (h1 : n < l.length) : ∀ (d i : Nat), i + d = l.length → Ends (fun k => carlinglaw21_GraphUsers.l0 k l n true (usersOf l n) i) true
  | 0, i, h => by
    apply Ends.succ
    simp only [carlinglaw21_GraphUsers.l0]
    exact Ends.neg (by omega) (guser_mid l hf n h0 h1 _ 0 (Nat.zero_add _))
  | d + 1, i, h => by
    have hL := hf.1
    have hN := few_need hf i
    have hfew := users_few l n
    have ih := guser_first l hf n h0 h1 d (i + 1) (by omega)
    apply Ends.succ
    simp only [carlinglaw21_GraphUsers.l0]
    refine Ends.pos (by omega) (Ends.pos (by omega) (Ends.bind (Has_ends _ _ (by omega)) (Ends.bind (Has_ends _ _ (by omega)) ?_)))
    rw [wrap_succ (by omega)]
    by_cases hn : n ∈ (rd_T31 l (i : Int)).f1
    · have : (i : Int) ∈ usersOf l n := (users_mem l n h0 h1 i).2 (.base i (by omega) hn)
      exact Ends.pos (by simpa using hn) (Ends.pos (by simpa using this) ih)
    · exact Ends.neg (by simpa using hn) ih
theorem GraphUsers (l0 : List S31) (_ : ∀ y ∈ l0, Wf31 y) (_ : l0.length ≤ 9223372036854775807) (a1 : Int) : ∃ k, carlinglaw21_GraphUsers.f k l0 a1 = some true := by
  apply Ends.get
  unfold carlinglaw21_GraphUsers.f
  refine Ends.bind (Ends.of_eq awake_eq) ?_
  obtain ⟨b, e1, e2⟩ := light_ends l0
  refine Ends.bind e1 ?_
  by_cases hb : b = true
  · obtain ⟨hf, hl⟩ := e2 hb
    have h2 : graph_Users.f l0 a1 = some (usersOf l0 a1) := by unfold graph_Users.f; rw [if_pos hf]
    refine Ends.pos hb (Ends.bind (Ends.of_eq h2) ?_)
    have hout : (a1 < 0 ∨ (l0.length : Int) ≤ a1) → Ends (fun k => carlinglaw21_GraphUsers.j0 k l0 a1 true (usersOf l0 a1) true) true := fun h => by
      have : usersOf l0 a1 = [] := by unfold usersOf; rw [if_pos h]
      rw [this]
      apply Ends.succ
      simp only [carlinglaw21_GraphUsers.j0]
      exact Ends.pos (by trivial) (Ends.pos (by trivial) (Ends.const _))
    by_cases h1 : a1 < 0
    · exact Ends.pos h1 (hout (.inl h1))
    · refine Ends.neg h1 ?_
      by_cases h3 : a1 ≥ (l0.length : Int)
      · rw [decide_eq_true h3]; exact hout (.inr h3)
      · rw [decide_eq_false h3]
        apply Ends.succ
        simp only [carlinglaw21_GraphUsers.j0]
        exact Ends.neg (by simp) (guser_first l0 hf a1 (by omega) (by omega) _ 0 (Nat.zero_add _))
  · exact Ends.neg hb (Ends.const _)
end Go.Proofs.Ytgjlgdohlmpnbaa.Pure
