/- The pure statement of GraphFree: jobs that need none are told by their names. Conditions: none. -/
import Derived.Test.YtgjlgdohlmpnbaaB3
import Derived.Test.YtgjlgdohlmpnbaaPx5
namespace Go.Proofs.Ytgjlgdohlmpnbaa.Pure
open Go.RowKit Go.Proofs.Ytgjlgdohlmpnbaa.P Go.Proofs.Ytgjlgdohlmpnbaa.O Go.Proofs.YtgjlgdohlmpnbaaW.PrintWords Go.Proofs.YtgjlgdohlmpnbaaW.PrintLast Go.Proofs.YtgjlgdohlmpnbaaW.PrintMore
set_option linter.unusedSimpArgs false
set_option linter.unusedVariables false

def mkJ (s : ByteArray) : S31 := ⟨s, []⟩
theorem rd_map (names : List ByteArray) (i : Int) : rd_T31 (names.map mkJ) i = mkJ (rdOf ByteArray.empty names i) := by
  simp only [rd_T31, rdOf, List.getD_eq_getElem?_getD, List.getElem?_map]
  cases names[i.toNat]? <;> rfl
theorem free_map (names : List ByteArray) : freeAll (names.map mkJ) := fun i => by rw [rd_map]; rfl
theorem ready_nil {l : List S31} (h : freeAll l) : ∀ n, (readyTo l [] n).length = n
  | 0 => rfl
  | n + 1 => by
    unfold readyTo
    rw [if_pos (by rw [free_free h]; rw [isDone_out (by simp)]; rfl), List.length_append, ready_nil h n]; rfl
theorem free_chain (names : List ByteArray) (hn : names.length ≤ 50) (hf : fewJ (names.map mkJ)) (o : List Int) (hp : o.Pairwise (lt_ (names.map mkJ))) (hin : ∀ a ∈ o, 0 ≤ a ∧ a < (names.map mkJ).length) (hol : o.length = (names.map mkJ).length) :
    ∀ (d i : Nat), 1 ≤ i → i + d = max o.length 1 → Ends (fun k => carlinglaw21_GraphFree.l1 k names true (names.map mkJ) o i) true
  | 0, i, h1, h => by
    rw [List.length_map] at hol
    have hr : graph_Ready.f (names.map mkJ) [] = some (readyTo (names.map mkJ) [] (names.map mkJ).length) := by unfold graph_Ready.f; rw [if_pos hf]
    apply Ends.succ
    simp only [carlinglaw21_GraphFree.l1]
    refine Ends.neg (by omega) (Ends.pos (by simp) (Ends.pos (by omega) (Ends.bind (Ends.of_eq hr) ?_)))
    rw [ready_nil (free_map names), List.length_map]
    simpa using Ends.const true
  | d + 1, i, h1, h => by
    have hio : i < o.length := by omega
    have hlm : (names.map mkJ).length = names.length := List.length_map _
    have ha := hin _ (rd_mem o i hio)
    have hb := hin _ (rd_mem o (i - 1) (by omega))
    have hlt : lt_ (names.map mkJ) (rd o ((i - 1 : Nat) : Int)) (rd o (i : Int)) := by
      have := List.pairwise_iff_getElem.1 hp (i - 1) i (by omega) hio (by omega)
      simpa [rd, hio, (by omega : i - 1 < o.length)] using this
    unfold lt_ at hlt
    rw [rd_map, rd_map] at hlt
    have hlt' : Op.bytesLess (rdOf ByteArray.empty names (rd o ((i - 1 : Nat) : Int))).toList (rdOf ByteArray.empty names (rd o (i : Int))).toList = true := hlt
    have hw : wrap64 ((i : Int) - 1) = ((i - 1 : Nat) : Int) := by unfold wrap64; omega
    have ih := free_chain names hn hf o hp hin hol d (i + 1) (by omega) (by omega)
    apply Ends.succ
    simp only [carlinglaw21_GraphFree.l1]
    rw [hw]
    refine Ends.pos (by omega) (Ends.pos (by omega) (Ends.neg (by omega) (Ends.neg (by omega) (Ends.pos (by omega) (Ends.pos (by omega) (Ends.neg (by omega) (Ends.neg (by omega) (Ends.pos (by omega) (Ends.pos (by omega) (Ends.pos (by omega) (Ends.pos (by omega) (Ends.pos hlt' ?_))))))))))))
    rw [wrap_succ (by omega)]
    exact ih
theorem free_build (names : List ByteArray) (hn : names.length ≤ 50) : ∀ (d i : Nat), i + d = names.length → (∀ j : Nat, j < i → (rdOf ByteArray.empty names (j : Int)).size ≤ 100) →
    Ends (fun k => carlinglaw21_GraphFree.l0 k names true ((names.take i).map mkJ) i) true
  | 0, i, h, hs => by
    obtain rfl : i = names.length := by omega
    rw [List.take_length]
    have hfa := free_map names
    have hf : fewJ (names.map mkJ) := by
      refine ⟨by rw [List.length_map]; omega, fun x hx => ?_⟩
      obtain ⟨s, hs1, rfl⟩ := List.mem_map.1 hx
      obtain ⟨j, hj, rfl⟩ := List.mem_iff_getElem.1 hs1
      have := hs j hj
      have e : rdOf ByteArray.empty names (j : Int) = names[j] := by simp [rdOf, hj]
      rw [e] at this
      exact ⟨Nat.zero_le _, by show names[j].size ≤ 1000000; omega⟩
    have ho : graph_Order.f (names.map mkJ) = some (orderOf (names.map mkJ)) := by unfold graph_Order.f; rw [if_pos hf]
    apply Ends.succ
    simp only [carlinglaw21_GraphFree.l0]
    refine Ends.neg (by omega) (Ends.bind (Ends.of_eq ho) ?_)
    by_cases ht : twiceTo (names.map mkJ) (names.map mkJ).length = true
    · have e : orderOf (names.map mkJ) = ([], 9) := by unfold orderOf; rw [if_neg (by rw [free_bad hfa]; decide), if_pos ht]
      rw [e]
      exact Ends.neg (by decide) (Ends.pos (by simp) (Ends.const _))
    · have ht' := Bool.eq_false_iff.mpr ht
      have hs := go_sorted (names.map mkJ) hfa ht' _ (List.replicate (names.map mkJ).length false) [] (by simp) rfl (by rw [undone_rep]; simp) List.Pairwise.nil (by simp) (by simp)
      rw [undone_rep] at hs
      have e : orderOf (names.map mkJ) = (orderGo (names.map mkJ) ((names.map mkJ).length + 1) (List.replicate (names.map mkJ).length false) [], 0) := by
        unfold orderOf; rw [if_neg (by rw [free_bad hfa]; decide), if_neg ht, if_neg (by omega)]
      rw [e]
      refine Ends.pos (by simp) ?_
      exact free_chain names hn hf _ hs.1 hs.2.1 hs.2.2 _ 1 (Nat.le_refl _) (by omega : 1 + (max (orderGo (names.map mkJ) ((names.map mkJ).length + 1) (List.replicate (names.map mkJ).length false) []).length 1 - 1) = _)
  | d + 1, i, h, hs => by
    apply Ends.succ
    simp only [carlinglaw21_GraphFree.l0]
    refine Ends.pos (by omega) (Ends.pos (by omega) ?_)
    by_cases hb : ((rdOf ByteArray.empty names (i : Int)).size : Int) > 100
    · exact Ends.pos hb (Ends.const _)
    · refine Ends.neg hb (Ends.pos (by simp; omega) ?_)
      rw [wrap_succ (by omega)]
      have ih := free_build names hn d (i + 1) (by omega) (fun j hj => by
        by_cases e : j = i
        · subst e; omega
        · exact hs j (by omega))
      have e : (names.take (i + 1)).map mkJ = (names.take i).map mkJ ++ [mkJ (rdOf ByteArray.empty names (i : Int))] := by
        have hi : i < names.length := by omega
        have e2 : rdOf ByteArray.empty names (i : Int) = names[i] := by simp [rdOf, hi]
        rw [e2, List.take_succ_eq_append_getElem hi, List.map_append]; rfl
      rw [e] at ih
      exact ih
theorem GraphFree (l0 : List ByteArray) (_ : ∀ y ∈ l0, y.size ≤ maxLen) (_ : l0.length ≤ 9223372036854775807) : ∃ k, carlinglaw21_GraphFree.f k l0 = some true := by
  apply Ends.get
  unfold carlinglaw21_GraphFree.f
  refine Ends.bind (Ends.of_eq awake_eq) ?_
  by_cases h : (l0.length : Int) > 50
  · exact Ends.pos h (Ends.const _)
  · exact Ends.neg h (free_build l0 (by omega) l0.length 0 (by omega) (fun j hj => absurd hj (Nat.not_lt_zero _)))
end Go.Proofs.Ytgjlgdohlmpnbaa.Pure
