/- The pure statement of MachMore: what is right with so many cells is with one more, and can be told as bytes. Conditions: each number of its kind. -/
import Derived.Test.YtnhianjjhkjeoaaB2
import Derived.Test.YtnhianjjhkjeoaaPx12
namespace Go.Proofs.Ytnhianjjhkjeoaa.Pure
open Go.RowKit Go.Proofs.Ytnhianjjhkjeoaa.P Go.Proofs.Ytnhianjjhkjeoaa.O Go.Proofs.YtnhianjjhkjeoaaW.PrintWords Go.Proofs.YtnhianjjhkjeoaaW.PrintLast Go.Proofs.YtnhianjjhkjeoaaW.PrintMore

theorem more_loop (len cells : Int) : ∀ (ys : List S31) (i : Int), 0 ≤ i → (chkFrom len cells i ys).1 = 0 → chkFrom len (cells + 1) i ys = (0, -1) ∧ ∀ y ∈ ys, right y = true
  | [], i, h0, h => ⟨rfl, by simp⟩
  | x :: xs, i, h0, h => by
    unfold chkFrom at h
    by_cases hc : chkAt len cells x i = 0
    · rw [if_pos hc] at h
      obtain ⟨h1, h2⟩ := more_loop len cells xs (i + 1) (by omega) h
      unfold chkAt at hc
      by_cases q0 : right x = false
      · rw [if_pos q0] at hc
        cases hc
      rw [if_neg q0] at hc
      by_cases q1 : (x.f0 = 4 ∨ x.f0 = 5) ∧ cells ≤ x.f5
      · rw [if_pos q1] at hc
        cases hc
      rw [if_neg q1] at hc
      by_cases q2 : (x.f0 = 6 ∨ x.f0 = 7 ∨ x.f0 = 8) ∧ len ≤ x.f5
      · rw [if_pos q2] at hc
        cases hc
      rw [if_neg q2] at hc
      by_cases q3 : i = len - 1 ∧ x.f0 ≠ 6 ∧ x.f0 ≠ 9
      · rw [if_pos q3] at hc
        cases hc
      have hc' : chkAt len (cells + 1) x i = 0 := by
        unfold chkAt
        rw [if_neg q0, if_neg (by omega), if_neg q2, if_neg q3]
      refine ⟨?_, ?_⟩
      · unfold chkFrom
        rw [if_pos hc']
        exact h1
      · intro y hy
        rcases List.mem_cons.1 hy with rfl | hy
        · simpa using q0
        · exact h2 y hy
    · rw [if_neg hc] at h
      exact absurd h hc
theorem bytes_right : ∀ (ys : List S31) (acc : List Int), (∀ y ∈ ys, right y = true) → (bytesFrom acc ys).2 = 0
  | [], acc, _ => rfl
  | x :: xs, acc, h => by
    unfold bytesFrom
    rw [if_pos (h x List.mem_cons_self)]
    exact bytes_right xs _ (fun y hy => h y (List.mem_cons_of_mem _ hy))
theorem MachMore (l0 : List S31) (a1 : Int) (hw : ∀ y ∈ l0, Wf31 y) (_ : l0.length ≤ 9223372036854775807) (h1 : (Lit.int .i64 a1).wf = true) : ∃ k, carlinglaw13_MachMore.f k l0 a1 = some true := by
  obtain ⟨b0, b1⟩ := wf_i64 h1
  apply Ends.get
  unfold carlinglaw13_MachMore.f
  refine Ends.bind awake_ends ?_
  have j_true : Ends (fun k => carlinglaw13_MachMore.j0 k l0 a1 true true) true := by
    apply Ends.succ
    simp only [carlinglaw13_MachMore.j0, if_true]
    exact Ends.const _
  by_cases h : (l0.length : Int) > 21000
  · exact Ends.pos h j_true
  refine Ends.neg h ?_
  by_cases h2 : a1 ≥ 4096
  · rw [decide_eq_true h2]
    exact j_true
  rw [decide_eq_false h2]
  apply Ends.succ
  simp only [carlinglaw13_MachMore.j0, Bool.false_eq_true, if_false, if_true]
  refine Ends.bind (chk_ends l0 a1 hw) ?_
  by_cases hc : (chk l0 a1).1 = 0
  · refine Ends.pos hc ?_
    have hw1 : wrap64 (a1 + 1) = a1 + 1 := by unfold wrap64; omega
    rw [hw1]
    have hbad : ¬ (l0.length = 0 ∨ 20000 < l0.length ∨ a1 < 0 ∨ 4096 < a1) := fun hb => by
      unfold chk at hc
      rw [if_pos hb] at hc
      cases hc
    unfold chk at hc
    rw [if_neg hbad] at hc
    obtain ⟨m1, m2⟩ := more_loop l0.length a1 l0 0 (by omega) hc
    have hc2 : chk l0 (a1 + 1) = (0, -1) := by
      unfold chk
      rw [if_neg (by omega)]
      exact m1
    have hb := bytes_right l0 [] m2
    refine Ends.bind (chk_ends l0 (a1 + 1) hw) (Ends.bind (bytes_ends l0 (by omega)) ?_)
    rw [hc2]
    refine Ends.pos rfl (Ends.pos rfl ?_)
    rw [hb]
    exact Ends.const _
  · exact Ends.neg hc (Ends.const _)

end Go.Proofs.Ytnhianjjhkjeoaa.Pure
