/- Plain lemmas: the document's users of a job, by rounds, are those that reach it. Conditions: as each states. -/
import Derived.Test.YtgjlgdohlmpnbaaB4
import Derived.Test.YtgjlgdohlmpnbaaPx6
namespace Go.Proofs.Ytgjlgdohlmpnbaa.Pure
open Go.RowKit Go.Proofs.Ytgjlgdohlmpnbaa.P Go.Proofs.Ytgjlgdohlmpnbaa.O Go.Proofs.YtgjlgdohlmpnbaaW.PrintWords Go.Proofs.YtgjlgdohlmpnbaaW.PrintLast Go.Proofs.YtgjlgdohlmpnbaaW.PrintMore
set_option linter.unusedSimpArgs false
set_option linter.unusedVariables false

def isIn (M : List Bool) (i : Nat) : Prop := M.getD i false = true
def hit (l : List S31) (n : Int) (C : Nat → Prop) (x : Int) : Prop := x = n ∨ ∃ m : Nat, x = (m : Int) ∧ m < l.length ∧ C m
def Closed (l : List S31) (n : Int) (C : Nat → Prop) : Prop := ∀ i, i < l.length → ∀ k, k < (rd_T31 l (i : Int)).f1.length → hit l n C (rd (rd_T31 l (i : Int)).f1 (k : Int)) → C i
theorem closed_uses (l : List S31) (n : Int) : Closed l n (Uses l n) := by
  intro i hi k hk h
  have hm : rd (rd_T31 l (i : Int)).f1 (k : Int) ∈ (rd_T31 l (i : Int)).f1 := rd_mem _ k hk
  rcases h with h | ⟨m, h1, h2, h3⟩
  · rw [h] at hm; exact .base i hi hm
  · rw [h1] at hm; exact .step i m hi h2 hm h3
theorem uses_closed {l : List S31} {n : Int} {C : Nat → Prop} (hc : Closed l n C) {i : Nat} (h : Uses l n i) : C i := by
  induction h with
  | base i hi h =>
    obtain ⟨k, hk, e⟩ := List.mem_iff_getElem.1 h
    exact hc i hi k hk (.inl (by simp [rd, hk, e]))
  | step i j hi hj h _ ih =>
    obtain ⟨k, hk, e⟩ := List.mem_iff_getElem.1 h
    exact hc i hi k hk (.inr ⟨j, by simp [rd, hk, e], hj, ih⟩)
def cnt (M : List Bool) : Nat → Nat
  | 0 => 0
  | n + 1 => cnt M n + (if M.getD n false = true then 1 else 0)
theorem cnt_le (M : List Bool) : ∀ n, cnt M n ≤ n
  | 0 => Nat.le_refl _
  | n + 1 => by have := cnt_le M n; unfold cnt; split <;> omega
theorem cnt_full (M : List Bool) : ∀ n, n ≤ cnt M n → ∀ j, j < n → isIn M j
  | 0, _, j, hj => absurd hj (Nat.not_lt_zero _)
  | n + 1, h, j, hj => by
    have h1 := cnt_le M n
    unfold cnt at h
    by_cases e : M.getD n false = true
    · rw [if_pos e] at h
      by_cases ej : j = n
      · subst ej; exact e
      · exact cnt_full M n (by omega) j (by omega)
    · rw [if_neg e] at h; omega
theorem cnt_mono {M M' : List Bool} (h : ∀ j, isIn M j → isIn M' j) : ∀ n, cnt M n ≤ cnt M' n
  | 0 => Nat.le_refl _
  | n + 1 => by
    have := cnt_mono h n
    have h2 := h n
    unfold isIn at h2
    unfold cnt
    by_cases e : M.getD n false = true
    · rw [if_pos e, if_pos (h2 e)]; omega
    · rw [if_neg e]; omega
theorem cnt_lt {M M' : List Bool} (h : ∀ j, isIn M j → isIn M' j) {i : Nat} (h1 : ¬ isIn M i) (h2 : isIn M' i) : ∀ n, i < n → cnt M n < cnt M' n
  | 0, hn => absurd hn (Nat.not_lt_zero _)
  | n + 1, hn => by
    unfold cnt
    by_cases e : i = n
    · subst e
      have := cnt_mono h i
      unfold isIn at h1 h2
      rw [if_neg h1, if_pos h2]; omega
    · have := cnt_lt h h1 h2 n (by omega)
      have h3 := h n
      unfold isIn at h3
      by_cases e : M.getD n false = true
      · rw [if_pos e, if_pos (h3 e)]; omega
      · rw [if_neg e]; omega

/-- where a round stands: M0 at its beginning, M now, at job i's need k -/
structure At (l : List S31) (n : Int) (M0 M : List Bool) (i k : Nat) : Prop where
  len : M.length = l.length
  mono : ∀ j, isIn M0 j → isIn M j
  sound : ∀ C, Closed l n C → (∀ j, isIn M0 j → C j) → ∀ j, isIn M j → C j
  done : ∀ i' k', (i' < i ∨ i' = i ∧ k' < k) → i' < l.length → k' < (rd_T31 l (i' : Int)).f1.length → hit l n (isIn M0) (rd (rd_T31 l (i' : Int)).f1 (k' : Int)) → isIn M i'
theorem At.set {l : List S31} {n : Int} {M0 M : List Bool} {i k : Nat} (h : At l n M0 M i k) (hi : i < l.length) (hk : k < (rd_T31 l (i : Int)).f1.length) (hh : hit l n (isIn M) (rd (rd_T31 l (i : Int)).f1 (k : Int))) : At l n M0 (M.set i true) i (k + 1) where
  len := by rw [List.length_set]; exact h.len
  mono j hj := by
    have := h.mono j hj
    unfold isIn at *
    by_cases e : i = j
    · subst e; simp [hi, h.len]
    · simpa [List.getElem?_set, e] using this
  sound C hc h0 j hj := by
    by_cases e : i = j
    · subst e
      refine hc i hi k hk ?_
      rcases hh with hh | ⟨m, h1, h2, h3⟩
      · exact .inl hh
      · exact .inr ⟨m, h1, h2, h.sound C hc h0 m h3⟩
    · refine h.sound C hc h0 j ?_
      unfold isIn at *
      simpa [List.getElem?_set, e] using hj
  done i' k' h1 h2 h3 h4 := by
    unfold isIn
    by_cases e : i = i'
    · subst e; simp [hi, h.len]
    · have := h.done i' k' (by omega) h2 h3 h4
      unfold isIn at this
      simpa [List.getElem?_set, e] using this
theorem At.skip {l : List S31} {n : Int} {M0 M : List Bool} {i k : Nat} (h : At l n M0 M i k) (hh : ¬ hit l n (isIn M) (rd (rd_T31 l (i : Int)).f1 (k : Int))) : At l n M0 M i (k + 1) where
  len := h.len
  mono := h.mono
  sound := h.sound
  done i' k' h1 h2 h3 h4 := by
    by_cases e : i' = i ∧ k' = k
    · obtain ⟨rfl, rfl⟩ := e
      refine absurd ?_ hh
      rcases h4 with h4 | ⟨m, g1, g2, g3⟩
      · exact .inl h4
      · exact .inr ⟨m, g1, g2, h.mono m g3⟩
    · exact h.done i' k' (by omega) h2 h3 h4
theorem At.next {l : List S31} {n : Int} {M0 M : List Bool} {i : Nat} (h : At l n M0 M i (rd_T31 l (i : Int)).f1.length) : At l n M0 M (i + 1) 0 where
  len := h.len
  mono := h.mono
  sound := h.sound
  done i' k' h1 h2 h3 h4 := by
    refine h.done i' k' ?_ h2 h3 h4
    by_cases e : i' = i
    · subst e; exact .inr ⟨rfl, h3⟩
    · exact .inl (by omega)
theorem At.start {l : List S31} {n : Int} {M : List Bool} (h : M.length = l.length) : At l n M M 0 0 where
  len := h
  mono _ h := h
  sound _ _ h := h
  done i' k' h1 := by omega

theorem users_inner (l : List S31) (n : Int) (hf : fewJ l) (M0 : List Bool) (i : Nat) (hi : i < l.length) (r : Int) (R : List Int)
    (hrest : ∀ M, At l n M0 M (i + 1) 0 → Ends (fun k => carlingref21_Users.l1 k l n M r ((i + 1 : Nat) : Int)) R) :
    ∀ (d k : Nat) (M : List Bool), k + d = (rd_T31 l (i : Int)).f1.length → At l n M0 M i k → Ends (fun g => carlingref21_Users.l2 g l n M r i k) R
  | 0, k, M, hk, hA => by
    obtain rfl : k = (rd_T31 l (i : Int)).f1.length := by omega
    have hL := hf.1
    apply Ends.succ
    simp only [carlingref21_Users.l2]
    refine Ends.pos (by omega) (Ends.pos (by omega) (Ends.neg (by omega) ?_))
    rw [wrap_succ (by omega)]
    exact hrest M hA.next
  | d + 1, k, M, hk, hA => by
    have hN := few_need hf i
    have hl := hA.len
    have ih := users_inner l n hf M0 i hi r R hrest d (k + 1)
    apply Ends.succ
    simp only [carlingref21_Users.l2]
    refine Ends.pos (by omega) (Ends.pos (by omega) (Ends.pos (by omega) (Ends.pos (by omega) ?_)))
    by_cases h1 : rd (rd_T31 l (i : Int)).f1 (k : Int) = n
    · refine Ends.pos h1 (Ends.pos (by omega) ?_)
      rw [wrap_succ (by omega), Int.toNat_natCast]
      exact ih _ (by omega) (hA.set hi (by omega) (.inl h1))
    · refine Ends.neg h1 ?_
      have hskip : ¬ hit l n (isIn M) (rd (rd_T31 l (i : Int)).f1 (k : Int)) → Ends (fun g => carlingref21_Users.l2 g l n M r i (wrap64 ((k : Int) + 1))) R := by
        intro h; rw [wrap_succ (by omega)]; exact ih _ (by omega) (hA.skip h)
      by_cases h2 : rd (rd_T31 l (i : Int)).f1 (k : Int) ≥ 0
      · refine Ends.pos h2 ?_
        by_cases h3 : rd (rd_T31 l (i : Int)).f1 (k : Int) < (l.length : Int)
        · refine Ends.pos h3 (Ends.pos h2 (Ends.pos (by omega) ?_))
          obtain ⟨m, hm⟩ : ∃ m : Nat, rd (rd_T31 l (i : Int)).f1 (k : Int) = (m : Int) := ⟨_, (Int.toNat_of_nonneg h2).symm⟩
          by_cases h4 : rdOf false M (rd (rd_T31 l (i : Int)).f1 (k : Int)) = true
          · refine Ends.pos h4 (Ends.pos (by omega) ?_)
            rw [wrap_succ (by omega), Int.toNat_natCast]
            refine ih _ (by omega) (hA.set hi (by omega) (.inr ⟨m, hm, by omega, ?_⟩))
            rw [hm] at h4
            simpa [rdOf, isIn] using h4
          · refine Ends.neg h4 (hskip ?_)
            rintro (h | ⟨m', h5, h6, h7⟩)
            · exact h1 h
            · rw [h5] at h4
              exact h4 (by simpa [rdOf, isIn] using h7)
        · refine Ends.neg h3 (hskip ?_)
          rintro (h | ⟨m', h5, h6, h7⟩)
          · exact h1 h
          · omega
      · refine Ends.neg h2 (hskip ?_)
        rintro (h | ⟨m', h5, h6, h7⟩)
        · exact h1 h
        · omega
theorem users_round (l : List S31) (n : Int) (hf : fewJ l) (M0 : List Bool) (r : Nat) (hr : r < l.length) (R : List Int)
    (hrest : ∀ M, At l n M0 M l.length 0 → Ends (fun k => carlingref21_Users.l0 k l n M ((r + 1 : Nat) : Int)) R) :
    ∀ (d i : Nat) (M : List Bool), i + d = l.length → At l n M0 M i 0 → Ends (fun g => carlingref21_Users.l1 g l n M r i) R
  | 0, i, M, hi, hA => by
    obtain rfl : i = l.length := by omega
    have hL := hf.1
    apply Ends.succ
    simp only [carlingref21_Users.l1]
    refine Ends.neg (by omega) ?_
    rw [wrap_succ (by omega)]
    exact hrest M hA
  | d + 1, i, M, hi, hA => by
    have ih := users_round l n hf M0 r hr R hrest d (i + 1)
    apply Ends.succ
    simp only [carlingref21_Users.l1]
    refine Ends.pos (by omega) ?_
    exact users_inner l n hf M0 i (by omega) r R (fun M hM => ih M (by omega) hM) _ 0 M (Nat.zero_add _) hA
theorem users_pick (l : List S31) (hf : fewJ l) (M : List Bool) (hl : M.length = l.length) (S : List Int) (hS : ∀ i, i < l.length → (isIn M i ↔ (i : Int) ∈ S)) : ∀ (d i : Nat), i + d = l.length →
    Ends (fun g => carlingref21_Users.l3 g l M (pickTo S i) i) (pickTo S l.length)
  | 0, i, h => by
    obtain rfl : i = l.length := by omega
    apply Ends.succ
    simp only [carlingref21_Users.l3]
    exact Ends.neg (by omega) (Ends.const _)
  | d + 1, i, h => by
    have ih := users_pick l hf M hl S hS d (i + 1) (by omega)
    have hL := hf.1
    have hs := hS i (by omega)
    have hp := pickTo_len S i
    unfold isIn at hs
    apply Ends.succ
    simp only [carlingref21_Users.l3]
    refine Ends.pos (by omega) (Ends.pos (by omega) (Ends.pos (by omega) ?_))
    rw [wrap_succ (by omega)]
    have he : pickTo S (i + 1) = if (i : Int) ∈ S then pickTo S i ++ [(i : Int)] else pickTo S i := rfl
    rw [he] at ih
    by_cases h1 : (i : Int) ∈ S
    · rw [if_pos h1] at ih
      exact Ends.pos (by simpa [rdOf] using hs.2 h1) (Ends.pos (by omega) ih)
    · rw [if_neg h1] at ih
      exact Ends.neg (fun h => h1 (hs.1 (by simpa [rdOf] using h))) ih
theorem users_rounds (l : List S31) (n : Int) (hf : fewJ l) : ∀ (d r : Nat) (M : List Bool), r + d = l.length → M.length = l.length → (∀ j, isIn M j → Uses l n j) → (Closed l n (isIn M) ∨ r ≤ cnt M l.length) →
    Ends (fun g => carlingref21_Users.l0 g l n M r) (pickTo (visit l (l.length + 1) n []) l.length)
  | 0, r, M, hr, hl, hs, hc => by
    obtain rfl : r = l.length := by omega
    have hcl : Closed l n (isIn M) := by
      rcases hc with hc | hc
      · exact hc
      · intro i hi k hk h; exact cnt_full M _ hc i hi
    apply Ends.succ
    simp only [carlingref21_Users.l0]
    refine Ends.neg (by omega) ?_
    refine users_pick l hf M hl (visit l (l.length + 1) n []) (fun i hi => ?_) l.length 0 (by omega)
    rw [visit_iff]
    exact ⟨hs i, fun h => uses_closed hcl h⟩
  | d + 1, r, M, hr, hl, hs, hc => by
    have ih := users_rounds l n hf d (r + 1)
    apply Ends.succ
    simp only [carlingref21_Users.l0]
    refine Ends.pos (by omega) ?_
    refine users_round l n hf M r (by omega) _ (fun M' hA => ?_) l.length 0 M (by omega) (At.start hl)
    refine ih M' (by omega) hA.len (fun j hj => hA.sound _ (closed_uses l n) hs j hj) ?_
    by_cases hcl : Closed l n (isIn M)
    · have hsame : ∀ j, isIn M' j ↔ isIn M j := fun j => ⟨hA.sound _ hcl (fun _ h => h) j, hA.mono j⟩
      left
      have : isIn M' = isIn M := funext fun j => propext (hsame j)
      rw [this]; exact hcl
    · right
      rcases hc with hc | hc
      · exact absurd hc hcl
      · unfold Closed at hcl
        simp only [Classical.not_forall] at hcl
        obtain ⟨i, hi, k, hk, hh, hn⟩ := hcl
        have := cnt_lt hA.mono hn (hA.done i k (.inl hi) hi hk hh) l.length hi
        omega
theorem refusers_ends (l : List S31) (n : Int) (hf : fewJ l) : Ends (fun k => carlingref21_Users.f k l n) (usersOf l n) := by
  have hL := hf.1
  unfold carlingref21_Users.f usersOf
  by_cases h1 : n < 0
  · refine Ends.pos h1 ?_
    rw [if_pos (.inl h1)]
    apply Ends.succ
    simp only [carlingref21_Users.j0]
    exact Ends.pos (by simp) (Ends.const _)
  · refine Ends.neg h1 ?_
    by_cases h2 : n ≥ (l.length : Int)
    · rw [if_pos (.inr h2)]
      apply Ends.succ
      simp only [carlingref21_Users.j0]
      exact Ends.pos (by simpa using h2) (Ends.const _)
    · rw [if_neg (by omega)]
      apply Ends.succ
      simp only [carlingref21_Users.j0]
      refine Ends.neg (by simpa using h2) (Ends.pos (by omega) (Ends.pos (by omega) ?_))
      rw [Int.toNat_natCast]
      refine users_rounds l n hf l.length 0 _ (by omega) (by simp) (fun j hj => ?_) (.inr (Nat.zero_le _))
      unfold isIn at hj
      rw [List.getD_eq_getElem?_getD] at hj
      simp only [List.getElem?_replicate] at hj
      split at hj <;> simp at hj
theorem users_len (l : List S31) (n : Int) : (usersOf l n).length ≤ l.length := by
  unfold usersOf
  split
  · simp
  · exact pickTo_len _ _
end Go.Proofs.Ytgjlgdohlmpnbaa.Pure
