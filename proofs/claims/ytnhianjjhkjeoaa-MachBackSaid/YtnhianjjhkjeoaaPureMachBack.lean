/- The pure statement of MachBack: instructions and bytes undo one another. Conditions: each number of its kind. -/
import Derived.Test.YtnhianjjhkjeoaaB4
import Derived.Test.YtnhianjjhkjeoaaPx17
namespace Go.Proofs.Ytnhianjjhkjeoaa.Pure
open Go.RowKit Go.Proofs.Ytnhianjjhkjeoaa.P Go.Proofs.Ytnhianjjhkjeoaa.O Go.Proofs.YtnhianjjhkjeoaaW.PrintWords Go.Proofs.YtnhianjjhkjeoaaW.PrintLast Go.Proofs.YtnhianjjhkjeoaaW.PrintMore

theorem MachBack (l0 : List S31) (l1 : List Int) (hw : ∀ y ∈ l0, Wf31 y) (_ : l0.length ≤ 9223372036854775807) (hb0 : ∀ y ∈ l1, (Lit.int .u8 y).wf = true) (_ : l1.length ≤ 9223372036854775807) : ∃ k, carlinglaw13_MachBack.f k l0 l1 = some true := by
  have hb : ∀ c ∈ l1, isByte c := fun c hc => wf_u8 (hb0 c hc)
  apply Ends.get
  unfold carlinglaw13_MachBack.f
  refine Ends.bind awake_ends ?_
  have j_true : Ends (fun k => carlinglaw13_MachBack.j0 k l0 l1 true true) true := by
    apply Ends.succ
    simp only [carlinglaw13_MachBack.j0, if_true]
    exact Ends.const _
  by_cases h : (l0.length : Int) > 3000
  · exact Ends.pos h j_true
  refine Ends.neg h ?_
  by_cases h2 : (l1.length : Int) > 20000
  · rw [decide_eq_true h2]
    exact j_true
  rw [decide_eq_false h2]
  have part2 : Ends (fun k => carlinglaw13_MachBack.j1 k l1 true) true := by
    apply Ends.succ
    simp only [carlinglaw13_MachBack.j1, if_true]
    refine Ends.bind (of_ends l1 (by omega) hb) ?_
    by_cases h9 : l1.length % 9 ≠ 0
    · have e : ofS l1 = ([], 7) := by unfold ofS; rw [if_pos h9]
      rw [e]
      refine Ends.neg (by decide) (Ends.pos (by simp) ?_)
      have hne : ((l1.length : Int) % 9 != 0) = true := by simp; omega
      rw [hne]
      exact Ends.const _
    · have e : ofS l1 = ofFrom [] l1 := by unfold ofS; rw [if_neg h9]
      have hz : (l1.length : Int) % 9 = 0 := by omega
      rw [e]
      rcases of_bytes (l1.length / 9) l1 [] (by omega) hb with ⟨ms, g1, g2, g3⟩ | g
      · rw [g1]
        refine Ends.pos rfl (Ends.bind (bytes_ends ([] ++ ms) (by simp; omega)) ?_)
        rw [List.nil_append, g3 []]
        refine Ends.pos rfl ?_
        simpa using Ends.const true
      · rw [g]
        refine Ends.neg (by decide) (Ends.pos (by simp) ?_)
        have hne : ((l1.length : Int) % 9 != 0) = false := by simp [hz]
        rw [hne]
        exact Ends.const _
  apply Ends.succ
  simp only [carlinglaw13_MachBack.j0, Bool.false_eq_true, if_false]
  refine Ends.bind (bytes_ends l0 (by omega)) ?_
  by_cases hz : (bytesFrom [] l0).2 = 0
  · obtain ⟨b, g1, g2, g3, g4⟩ := bytes_of l0 [] hw hz
    rw [g1 []]
    refine Ends.pos rfl ?_
    simp only [List.nil_append]
    refine Ends.bind (of_ends b (by omega) g3) ?_
    have e : ofS b = (l0, 0) := by
      unfold ofS
      rw [if_neg (by omega), g4 []]
      rfl
    rw [e]
    refine Ends.bind (same_ends l0 (by omega)) (Ends.pos rfl (Ends.pos rfl (Ends.pos ?_ part2)))
    rw [wrap_small (by omega) (by omega)]
    omega
  · exact Ends.neg hz part2

end Go.Proofs.Ytnhianjjhkjeoaa.Pure
