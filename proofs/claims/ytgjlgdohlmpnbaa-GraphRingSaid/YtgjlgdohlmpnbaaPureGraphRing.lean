/- The pure statement of GraphRing: jobs in a ring can't all be done; where one of them needs none they can, from that one on. Conditions: none. -/
import Derived.Test.YtgjlgdohlmpnbaaB2
import Derived.Test.YtgjlgdohlmpnbaaR2
import Derived.Test.YtgjlgdohlmpnbaaR4
import Derived.Test.YtgjlgdohlmpnbaaR5
import Derived.Test.YtgjlgdohlmpnbaaR6
import Derived.Test.YtgjlgdohlmpnbaaR7
namespace Go.Proofs.Ytgjlgdohlmpnbaa.Pure
open Go.RowKit Go.Proofs.Ytgjlgdohlmpnbaa.P Go.Proofs.YtgjlgdohlmpnbaaW.PrintWords Go.Proofs.YtgjlgdohlmpnbaaW.PrintLast
theorem ringAt_all (n : Nat) (h0 : 1 ≤ n) (h1 : n ≤ 26) : ringAt n = true := by
  have h : n = 1 ∨ n = 2 ∨ n = 3 ∨ n = 4 ∨ n = 5 ∨ n = 6 ∨ n = 7 ∨ n = 8 ∨ n = 9 ∨ n = 10 ∨ n = 11 ∨ n = 12 ∨ n = 13 ∨ n = 14 ∨ n = 15 ∨ n = 16 ∨ n = 17 ∨ n = 18 ∨ n = 19 ∨ n = 20 ∨ n = 21 ∨ n = 22 ∨ n = 23 ∨ n = 24 ∨ n = 25 ∨ n = 26 := by omega
  rcases h with rfl | rfl | rfl | rfl | rfl | rfl | rfl | rfl | rfl | rfl | rfl | rfl | rfl | rfl | rfl | rfl | rfl | rfl | rfl | rfl | rfl | rfl | rfl | rfl | rfl | rfl
  · exact ringAt1
  · exact ringAt2
  · exact ringAt3
  · exact ringAt4
  · exact ringAt5
  · exact ringAt6
  · exact ringAt7
  · exact ringAt8
  · exact ringAt9
  · exact ringAt10
  · exact ringAt11
  · exact ringAt12
  · exact ringAt13
  · exact ringAt14
  · exact ringAt15
  · exact ringAt16
  · exact ringAt17
  · exact ringAt18
  · exact ringAt19
  · exact ringAt20
  · exact ringAt21
  · exact ringAt22
  · exact ringAt23
  · exact ringAt24
  · exact ringAt25
  · exact ringAt26
theorem ring_l0 (n : Nat) (h0 : 1 ≤ n) (h1 : n ≤ 26) (k : Nat) (hk : k < n) (b : Bool) : carlinglaw21_GraphRing.l0 100 n b true k [] 0 = some true := by
  have h := ringAt_all n h0 h1
  unfold ringAt at h
  have h2 := List.all_eq_true.1 h k (List.mem_range.2 hk)
  rw [Bool.and_eq_true, decide_eq_true_eq, decide_eq_true_eq] at h2
  cases b
  · exact h2.1
  · exact h2.2
theorem GraphRing : carlinglaw21_GraphRing.Pure := by
  intro a0 a1 a2 _ _
  refine ⟨101, ?_⟩
  unfold carlinglaw21_GraphRing.f
  rw [awake_eq, Option.bind_some]
  have hskip : carlinglaw21_GraphRing.j0 101 a0 a1 a2 true true = some true := by simp [carlinglaw21_GraphRing.j0]
  by_cases h1 : a0 < 1
  · rw [if_pos h1]; exact hskip
  · rw [if_neg h1]
    by_cases h2 : a0 > 26
    · rw [if_pos h2]; exact hskip
    · rw [if_neg h2]
      by_cases h3 : a1 < 0
      · rw [decide_eq_true h3]; exact hskip
      · rw [decide_eq_false h3]
        simp only [carlinglaw21_GraphRing.j0]
        rw [if_neg (by decide), if_neg (by omega)]
        obtain ⟨n, rfl⟩ : ∃ n : Nat, a0 = (n : Int) := ⟨a0.toNat, by omega⟩
        obtain ⟨m, rfl⟩ : ∃ m : Nat, a1 = (m : Int) := ⟨a1.toNat, by omega⟩
        have hm : Int.tmod (m : Int) (n : Int) = ((m % n : Nat) : Int) := rfl
        rw [hm]
        exact ring_l0 n (by omega) (by omega) (m % n) (Nat.mod_lt _ (by omega)) a2
end Go.Proofs.Ytgjlgdohlmpnbaa.Pure
