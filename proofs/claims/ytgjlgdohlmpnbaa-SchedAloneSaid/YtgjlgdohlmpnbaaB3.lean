/- Plain lemmas: the order of jobs that need none is the rising order of their names. Conditions: as each states. -/
import Derived.Test.YtgjlgdohlmpnbaaB2
namespace Go.Proofs.Ytgjlgdohlmpnbaa.Pure
open Go.RowKit Go.Proofs.Ytgjlgdohlmpnbaa.P Go.Proofs.Ytgjlgdohlmpnbaa.O Go.Proofs.YtgjlgdohlmpnbaaW.PrintWords Go.Proofs.YtgjlgdohlmpnbaaW.PrintLast Go.Proofs.YtgjlgdohlmpnbaaW.PrintMore
set_option linter.unusedSimpArgs false
set_option linter.unusedVariables false

theorem bl_cons (a b : UInt8) (x y : List UInt8) : Op.bytesLess (a :: x) (b :: y) = true ↔ a.toNat < b.toNat ∨ (a.toNat = b.toNat ∧ Op.bytesLess x y = true) := by
  simp only [Op.bytesLess, Bool.or_eq_true, Bool.and_eq_true, decide_eq_true_eq, beq_iff_eq, UInt8.lt_iff_toNat_lt, UInt8.toNat_inj]
theorem bl_trans : ∀ x y z : List UInt8, Op.bytesLess x y = true → Op.bytesLess y z = true → Op.bytesLess x z = true
  | _, [], _, h, _ => by simp [Op.bytesLess] at h
  | _, _ :: _, [], _, h => by simp [Op.bytesLess] at h
  | [], b :: y, c :: z, _, _ => rfl
  | a :: x, b :: y, c :: z, h1, h2 => by
    rw [bl_cons] at h1 h2 ⊢
    rcases h1 with h1 | ⟨h1, h1'⟩ <;> rcases h2 with h2 | ⟨h2, h2'⟩
    · left; omega
    · left; omega
    · left; omega
    · right; exact ⟨by omega, bl_trans x y z h1' h2'⟩
theorem bl_total : ∀ x y : List UInt8, x ≠ y → ¬ Op.bytesLess x y = true → Op.bytesLess y x = true
  | [], [], h, _ => absurd rfl h
  | [], _ :: _, _, h => absurd rfl h
  | _ :: _, [], _, _ => rfl
  | a :: x, b :: y, h, h1 => by
    rw [bl_cons] at h1 ⊢
    by_cases e : a.toNat = b.toNat
    · right
      refine ⟨e.symm, bl_total x y (fun e2 => h ?_) (fun h2 => h1 (.inr ⟨e, h2⟩))⟩
      rw [UInt8.toNat_inj.mp e, e2]
    · left
      have : ¬ a.toNat < b.toNat := fun h2 => h1 (.inl h2)
      omega

/-- job a's name is less than job b's -/
def lt_ (l : List S31) (a b : Int) : Prop := Op.bytesLess ((rd_T31 l a).f0).toList ((rd_T31 l b).f0).toList = true
theorem best_in (l : List S31) (rs : List Int) (h0 : ∀ x ∈ rs, 0 ≤ x) : ∀ m, m < rs.length → bestTo l rs (m + 1) ∈ rs
  | m, h => by
    have hm := rd_mem rs m h
    rcases best_mem l rs m (by omega) with hb | hb
    · unfold bestTo; rw [if_pos (by omega)]; exact hm
    · have := h0 _ hb
      unfold bestTo; rw [if_neg (by omega)]
      split
      · exact hm
      · exact hb
theorem best_min (l : List S31) (rs : List Int) (h0 : ∀ x ∈ rs, 0 ≤ x) : ∀ m, m ≤ rs.length → ∀ j, j < m → ¬ lt_ l (rd rs (j : Int)) (bestTo l rs m)
  | 0, _, j, hj => absurd hj (Nat.not_lt_zero _)
  | m + 1, h, j, hj => by
    have irr : ∀ a, ¬ lt_ l a a := fun a ha => by
      have : ∀ x : List UInt8, ¬ Op.bytesLess x x = true := by
        intro x
        induction x with
        | nil => simp [Op.bytesLess]
        | cons a x ih => rw [bl_cons]; intro h; rcases h with h | ⟨_, h⟩; omega; exact ih h
      exact this _ ha
    by_cases hm0 : bestTo l rs m < 0
    · have e : bestTo l rs (m + 1) = rd rs (m : Int) := by show (if _ then _ else _) = _; rw [if_pos hm0]
      rw [e]
      have hz : m = 0 := by
        cases m with
        | zero => rfl
        | succ q => have := h0 _ (best_in l rs h0 q (by omega)); omega
      subst hz
      obtain rfl : j = 0 := by omega
      exact irr _
    · by_cases hl : Op.bytesLess ((rd_T31 l (rd rs (m : Int))).f0).toList ((rd_T31 l (bestTo l rs m)).f0).toList = true
      · have e : bestTo l rs (m + 1) = rd rs (m : Int) := by show (if _ then _ else if _ then _ else _) = _; rw [if_neg hm0, if_pos hl]
        rw [e]
        by_cases ej : j = m
        · subst ej; exact irr _
        · intro hh
          exact best_min l rs h0 m (by omega) j (by omega) (bl_trans _ _ _ hh hl)
      · have e : bestTo l rs (m + 1) = bestTo l rs m := by show (if _ then _ else if _ then _ else _) = _; rw [if_neg hm0, if_neg hl]
        rw [e]
        by_cases ej : j = m
        · subst ej; exact hl
        · exact best_min l rs h0 m (by omega) j (by omega)

/-- no job needs any -/
def freeAll (l : List S31) : Prop := ∀ i : Int, (rd_T31 l i).f1 = []
theorem free_bad {l : List S31} (h : freeAll l) : ∀ i, badTo l i = false
  | 0 => rfl
  | i + 1 => by simp only [badTo]; rw [free_bad h i, h]; rfl
theorem free_free {l : List S31} (h : freeAll l) (done : List Bool) (i : Nat) : freeJ l done i = !isDone l.length done i := by
  unfold freeJ; rw [h]; simp
theorem ready_has {l : List S31} (h : freeAll l) (done : List Bool) (i : Nat) (hi : i < l.length) (hd : isDone l.length done (i : Int) = false) : ∀ n, i < n → (i : Int) ∈ readyTo l done n
  | 0, hn => absurd hn (Nat.not_lt_zero _)
  | n + 1, hn => by
    unfold readyTo
    by_cases e : i = n
    · subst e
      rw [if_pos (by rw [free_free h, hd]; rfl)]; simp
    · have := ready_has h done i hi hd n (by omega)
      split
      · exact List.mem_append_left _ this
      · exact this
theorem undone_pos : ∀ (done : List Bool), 0 < undone done → ∃ i, i < done.length ∧ done.getD i false = false
  | [], h => absurd h (Nat.lt_irrefl _)
  | false :: r, _ => ⟨0, by simp, rfl⟩
  | true :: r, h => by
    obtain ⟨i, h1, h2⟩ := undone_pos r (by simpa [undone] using h)
    exact ⟨i + 1, by simpa using h1, by simpa using h2⟩
theorem keys_mem (l : List S31) : ∀ (n j : Nat), j < n → (rd_T31 l (j : Int)).f0 ∈ keysTo l n
  | 0, j, h => absurd h (Nat.not_lt_zero _)
  | n + 1, j, h => by
    unfold keysTo
    by_cases e : j = n
    · subst e; exact List.mem_cons_self
    · exact List.mem_cons_of_mem _ (keys_mem l n j (by omega))
theorem names_apart {l : List S31} (ht : twiceTo l l.length = false) {i j : Nat} (hi : i < l.length) (hj : j < i) : (rd_T31 l (i : Int)).f0 ≠ (rd_T31 l (j : Int)).f0 := fun e => by
  have : twiceTo l (i + 1) = true := by
    simp only [twiceTo]
    rw [List.any_eq_true.2 ⟨_, keys_mem l i j hj, decide_eq_true e.symm⟩]; simp
  rw [twiceTo_mono this hi] at ht
  cases ht
theorem lt_of_apart {l : List S31} (ht : twiceTo l l.length = false) {a b : Int} (ha : 0 ≤ a ∧ a < l.length) (hb : 0 ≤ b ∧ b < l.length) (hne : a ≠ b) (h : ¬ lt_ l a b) : lt_ l b a := by
  refine bl_total _ _ (fun e => ?_) h
  rw [ByteArray.toList_eq, ByteArray.toList_eq] at e
  have e2 : (rd_T31 l a).f0 = (rd_T31 l b).f0 := lit_bytes.mp (by rw [e])
  obtain ⟨x, rfl⟩ : ∃ x : Nat, a = (x : Int) := ⟨a.toNat, by omega⟩
  obtain ⟨y, rfl⟩ : ∃ y : Nat, b = (y : Int) := ⟨b.toNat, by omega⟩
  rcases Nat.lt_or_ge x y with h1 | h1
  · exact names_apart ht (by omega) h1 e2.symm
  · exact names_apart ht (i := x) (j := y) (by omega) (by omega) e2
theorem go_sorted (l : List S31) (hfa : freeAll l) (ht : twiceTo l l.length = false) : ∀ (n : Nat) (done : List Bool) (out : List Int), done.length = l.length → undone done = n → out.length + undone done = l.length →
    out.Pairwise (lt_ l) → (∀ a ∈ out, 0 ≤ a ∧ a < l.length) → (∀ a ∈ out, ∀ x : Nat, x < l.length → done.getD x false = false → lt_ l a x) →
    (orderGo l (undone done + 1) done out).Pairwise (lt_ l) ∧ (∀ a ∈ orderGo l (undone done + 1) done out, 0 ≤ a ∧ a < l.length) ∧ (orderGo l (undone done + 1) done out).length = l.length
  | n, done, out, hd, hn, hlen, hp, hin, hlt => by
    have hmem := ready_mem l done l.length
    have hgo : orderGo l (undone done + 1) done out = (if bestTo l (readyTo l done l.length) (readyTo l done l.length).length < 0 then out
        else orderGo l (undone done) (done.set (bestTo l (readyTo l done l.length) (readyTo l done l.length).length).toNat true) (out ++ [bestTo l (readyTo l done l.length) (readyTo l done l.length).length])) := rfl
    have hhas := ready_has hfa done
    by_cases hz : undone done = 0
    · have hneg : bestTo l (readyTo l done l.length) (readyTo l done l.length).length < 0 := by
        rcases best_mem l (readyTo l done l.length) _ (Nat.le_refl _) with hb | hb
        · omega
        · have h := hmem _ hb
          have := undone_set done _ (by omega : (bestTo l (readyTo l done l.length) (readyTo l done l.length).length).toNat < done.length) (free_undone (by omega) (by omega) h.2.2)
          omega
      rw [hgo, if_pos hneg]
      exact ⟨hp, hin, by omega⟩
    · obtain ⟨i, hi1, hi2⟩ := undone_pos done (by omega)
      have hir : (i : Int) ∈ readyTo l done l.length := hhas i (by omega) (by unfold isDone; rw [Int.toNat_natCast, hi2, Bool.and_false]) _ (by omega)
      have h0 : ∀ x ∈ readyTo l done l.length, 0 ≤ x := fun x hx => (hmem x hx).1
      have hmin := best_min l (readyTo l done l.length) h0 _ (Nat.le_refl _)
      have hbm : bestTo l (readyTo l done l.length) (readyTo l done l.length).length ∈ readyTo l done l.length := by
        cases e : (readyTo l done l.length).length with
        | zero => rw [List.length_eq_zero_iff.mp e] at hir; cases hir
        | succ q => exact best_in l _ h0 q (by omega)
      have hall : ∀ x : Nat, x < l.length → done.getD x false = false → ¬ lt_ l (x : Int) (bestTo l (readyTo l done l.length) (readyTo l done l.length).length) := fun x hx hxd => by
        have hxr : (x : Int) ∈ readyTo l done l.length := hhas x hx (by unfold isDone; rw [Int.toNat_natCast, hxd, Bool.and_false]) _ hx
        obtain ⟨j, hj, e⟩ := List.mem_iff_getElem.1 hxr
        have e2 : rd (readyTo l done l.length) (j : Int) = (x : Int) := by simp [rd, hj, e]
        have := hmin j hj
        rw [e2] at this
        exact this
      generalize bestTo l (readyTo l done l.length) (readyTo l done l.length).length = b at hgo hbm hall
      have h := hmem _ hbm
      have hfd := free_undone (i := b.toNat) (by omega) (by omega) h.2.2
      have hu := undone_set done b.toNat (by omega) hfd
      rw [hgo, if_neg (by omega), ← hu]
      refine go_sorted l hfa ht (n - 1) _ _ (by rw [List.length_set]; exact hd) (by omega) (by rw [List.length_append, List.length_singleton]; omega) ?_ ?_ ?_
      · rw [List.pairwise_append]
        refine ⟨hp, List.pairwise_singleton _ _, fun a ha c hc => ?_⟩
        obtain rfl : c = b := by simpa using hc
        have := hlt a ha c.toNat (by omega) hfd
        rw [Int.toNat_of_nonneg h.1] at this
        exact this
      · intro a ha
        rcases List.mem_append.1 ha with ha | ha
        · exact hin a ha
        · obtain rfl : a = b := by simpa using ha
          exact ⟨h.1, h.2.1⟩
      · intro a ha x hx hxd
        have hxb : x ≠ b.toNat ∧ done.getD x false = false := by
          rw [List.getD_eq_getElem?_getD, List.getElem?_set] at hxd
          by_cases e : b.toNat = x
          · subst e; rw [if_pos rfl, if_pos (by omega)] at hxd; cases hxd
          · rw [if_neg e, ← List.getD_eq_getElem?_getD] at hxd
            exact ⟨fun e2 => e e2.symm, hxd⟩
        rcases List.mem_append.1 ha with ha | ha
        · exact hlt a ha x hx hxb.2
        · obtain rfl : a = b := by simpa using ha
          exact lt_of_apart ht (by omega) ⟨h.1, h.2.1⟩ (by omega) (hall x hx hxb.2)
termination_by n => n
decreasing_by omega
end Go.Proofs.Ytgjlgdohlmpnbaa.Pure
