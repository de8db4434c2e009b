/- Plain lemmas: the order of jobs ends short just if some job uses itself. Conditions: as each states. -/
import Derived.Test.YtgjlgdohlmpnbaaB3
import Derived.Test.YtgjlgdohlmpnbaaB5
namespace Go.Proofs.Ytgjlgdohlmpnbaa.Pure
open Go.RowKit Go.Proofs.Ytgjlgdohlmpnbaa.P Go.Proofs.Ytgjlgdohlmpnbaa.O Go.Proofs.YtgjlgdohlmpnbaaW.PrintWords Go.Proofs.YtgjlgdohlmpnbaaW.PrintLast Go.Proofs.YtgjlgdohlmpnbaaW.PrintMore
set_option linter.unusedSimpArgs false
set_option linter.unusedVariables false

theorem ready_free (l : List S31) (done : List Bool) (i : Nat) (h : freeJ l done i = true) : ∀ n, i < n → (i : Int) ∈ readyTo l done n
  | 0, hn => absurd hn (Nat.not_lt_zero _)
  | n + 1, hn => by
    unfold readyTo
    by_cases e : i = n
    · subst e; rw [if_pos h]; exact List.mem_append_right _ (by simp)
    · have := ready_free l done i h n (by omega)
      split
      · exact List.mem_append_left _ this
      · exact this
theorem outTo_of {l : List S31} {i : Nat} : ∀ {n : Nat}, outTo l i n = false → ∀ m, m < n → 0 ≤ rd (rd_T31 l (i : Int)).f1 (m : Int) ∧ rd (rd_T31 l (i : Int)).f1 (m : Int) < l.length
  | 0, _, m, hm => absurd hm (Nat.not_lt_zero _)
  | n + 1, h, m, hm => by
    simp only [outTo, Bool.or_eq_false_iff] at h
    by_cases e : m = n
    · subst e
      have h2 := h.2
      unfold outOf at h2
      have := of_decide_eq_false h2
      omega
    · exact outTo_of h.1 m (by omega)
theorem badTo_of {l : List S31} : ∀ {n : Nat}, badTo l n = false → ∀ i, i < n → outTo l i (rd_T31 l (i : Int)).f1.length = false
  | 0, _, i, hi => absurd hi (Nat.not_lt_zero _)
  | n + 1, h, i, hi => by
    simp only [badTo, Bool.or_eq_false_iff] at h
    by_cases e : i = n
    · subst e; exact h.2
    · exact badTo_of h.1 i (by omega)
theorem need_in {l : List S31} (hb : badTo l l.length = false) {i : Nat} (hi : i < l.length) {n : Int} (hn : needs l i n) : ∃ m : Nat, n = (m : Int) ∧ m < l.length := by
  obtain ⟨k, hk, e⟩ := List.mem_iff_getElem.1 hn
  have h := outTo_of (badTo_of hb i hi) k hk
  have e2 : rd (rd_T31 l (i : Int)).f1 (k : Int) = n := by simp [rd, hk, e]
  rw [e2] at h
  exact ⟨n.toNat, by omega, by omega⟩
/-- a job in a ring needs one in a ring -/
theorem ring_need {l : List S31} {i : Nat} (h : Uses l (i : Int) i) : ∃ j : Nat, j < l.length ∧ needs l i (j : Int) ∧ Uses l (j : Int) j := by
  cases h with
  | base _ hi h => exact ⟨i, hi, h, .base i hi h⟩
  | step _ j hi hj h hu => exact ⟨j, hj, h, Uses.trans (.base i hi h) hu⟩
theorem short_of_ring (l : List S31) (i0 : Nat) (h0 : Uses l (i0 : Int) i0) : ∀ (k : Nat) (done : List Bool) (out : List Int), done.length = l.length → out.length + undone done = l.length →
    (∀ i : Nat, Uses l (i : Int) i → done.getD i false = false) → (orderGo l k done out).length < l.length := by
  have hstop : ∀ (done : List Bool) (out : List Int), done.length = l.length → out.length + undone done = l.length → (∀ i : Nat, Uses l (i : Int) i → done.getD i false = false) → out.length < l.length := by
    intro done out hd hl hr
    have := undone_set done i0 (by rw [hd]; exact h0.lt) (hr i0 h0)
    omega
  intro k
  induction k with
  | zero => exact fun done out hd hl hr => hstop done out hd hl hr
  | succ k ih =>
    intro done out hd hl hr
    have hmem := ready_mem l done l.length
    have hbest := best_mem l (readyTo l done l.length) (readyTo l done l.length).length (Nat.le_refl _)
    unfold orderGo
    generalize bestTo l (readyTo l done l.length) (readyTo l done l.length).length = b at hbest
    rcases hbest with hb | hb
    · rw [if_pos (by omega)]; exact hstop done out hd hl hr
    · have h := hmem _ hb
      rw [if_neg (by omega)]
      have hu := undone_set done b.toNat (by omega) (free_undone (by omega) (by omega) h.2.2)
      refine ih _ _ (by rw [List.length_set]; exact hd) (by rw [List.length_append, List.length_singleton]; omega) fun i hi => ?_
      have hib : i ≠ b.toNat := fun e => by
        subst e
        obtain ⟨j, hj, hn, hj2⟩ := ring_need hi
        have hf := h.2.2
        unfold freeJ at hf
        rw [Bool.and_eq_true] at hf
        have := List.all_eq_true.1 hf.2 _ hn
        unfold isDone at this
        rw [Int.toNat_natCast, hr j hj2, Bool.and_false] at this
        cases this
      have := hr i hi
      rw [List.getD_eq_getElem?_getD] at this ⊢
      rw [List.getElem?_set, if_neg (fun e => hib e.symm)]
      exact this
/-- how many jobs one uses -/
noncomputable def usesOf (l : List S31) (i : Nat) : List Bool := (List.range l.length).map fun j : Nat => (usersOf l (j : Int)).contains (i : Int)
theorem usesOf_in (l : List S31) (i j : Nat) : isIn (usesOf l i) j ↔ j < l.length ∧ Uses l (j : Int) i := by
  unfold isIn usesOf
  by_cases h : j < l.length
  · have := users_mem l (j : Int) (by omega) (by omega) i
    simp [h, this]
  · simp [h]
theorem no_ring_done (l : List S31) (hb : badTo l l.length = false) (hno : ∀ i : Nat, ¬ Uses l (i : Int) i) (done : List Bool) (hd : done.length = l.length) (hfree : ∀ i, i < l.length → freeJ l done i = false) :
    ∀ (c i : Nat), cnt (usesOf l i) l.length = c → i < l.length → done.getD i false = false → False := by
  intro c
  induction c using Nat.strongRecOn with
  | ind c ih =>
    intro i hc hi hu
    have hf := hfree i hi
    unfold freeJ at hf
    have hnd : isDone l.length done (i : Int) = false := by unfold isDone; rw [Int.toNat_natCast, hu, Bool.and_false]
    rw [hnd] at hf
    simp only [Bool.not_false, Bool.true_and, List.all_eq_false] at hf
    obtain ⟨n, hn, hnd2⟩ := hf
    obtain ⟨m, rfl, hm⟩ := need_in hb hi hn
    have hmu : done.getD m false = false := by
      unfold isDone at hnd2
      rw [decide_eq_true (by omega), Int.toNat_natCast] at hnd2
      simpa using hnd2
    have hlt : cnt (usesOf l m) l.length < cnt (usesOf l i) l.length := by
      refine cnt_lt (i := m) (fun j hj => ?_) (fun h => ?_) ?_ l.length hm
      · rw [usesOf_in] at hj ⊢
        exact ⟨hj.1, .step i m hi hm hn hj.2⟩
      · rw [usesOf_in] at h; exact hno m h.2
      · rw [usesOf_in]; exact ⟨hm, .base i hi hn⟩
    exact ih _ (by omega) m rfl hm hmu
theorem full_of_no_ring (l : List S31) (hb : badTo l l.length = false) (hno : ∀ i : Nat, ¬ Uses l (i : Int) i) : ∀ (n : Nat) (done : List Bool) (out : List Int), done.length = l.length → undone done = n → out.length + undone done = l.length →
    (orderGo l (n + 1) done out).length = l.length
  | n, done, out, hd, hn, hlen => by
    have hmem := ready_mem l done l.length
    have hbest := best_mem l (readyTo l done l.length) (readyTo l done l.length).length (Nat.le_refl _)
    have hin := best_in l (readyTo l done l.length) (fun x hx => (hmem x hx).1)
    unfold orderGo
    by_cases hz : n = 0
    · have hneg : bestTo l (readyTo l done l.length) (readyTo l done l.length).length < 0 := by
        rcases hbest with hb | hb
        · omega
        · have h := hmem _ hb
          have := undone_set done _ (by omega : (bestTo l (readyTo l done l.length) (readyTo l done l.length).length).toNat < done.length) (free_undone (by omega) (by omega) h.2.2)
          omega
      rw [if_pos hneg]; omega
    · obtain ⟨i, hi1, hi2⟩ := undone_pos done (by omega)
      have hsome : ∃ i, i < l.length ∧ freeJ l done i = true := by
        by_cases hex : ∃ i, i < l.length ∧ freeJ l done i = true
        · exact hex
        · exact (no_ring_done l hb hno done hd (fun j hj => by
            cases e : freeJ l done j
            · rfl
            · exact absurd ⟨j, hj, e⟩ hex) _ i rfl (by omega) hi2).elim
      obtain ⟨j, hj, hfj⟩ := hsome
      have hjr := ready_free l done j hfj l.length hj
      have hbm : bestTo l (readyTo l done l.length) (readyTo l done l.length).length ∈ readyTo l done l.length := by
        cases e : (readyTo l done l.length).length with
        | zero => rw [List.length_eq_zero_iff.mp e] at hjr; cases hjr
        | succ q => exact hin q (by omega)
      generalize bestTo l (readyTo l done l.length) (readyTo l done l.length).length = b at hbm
      have h := hmem _ hbm
      have hu := undone_set done b.toNat (by omega) (free_undone (by omega) (by omega) h.2.2)
      rw [if_neg (by omega)]
      have := full_of_no_ring l hb hno (n - 1) (done.set b.toNat true) (out ++ [b]) (by rw [List.length_set]; exact hd) (by omega) (by rw [List.length_append, List.length_singleton]; omega)
      rw [show n - 1 + 1 = n by omega] at this
      exact this
termination_by n => n
decreasing_by omega
end Go.Proofs.Ytgjlgdohlmpnbaa.Pure
