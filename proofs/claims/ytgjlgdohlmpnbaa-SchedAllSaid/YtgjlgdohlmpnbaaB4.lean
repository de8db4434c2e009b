/- Plain lemmas: the users of a job are those that reach it by needs. Conditions: as each states. -/
import Derived.Test.YtgjlgdohlmpnbaaB2
import Derived.Test.YtgjlgdohlmpnbaaG3
namespace Go.Proofs.Ytgjlgdohlmpnbaa.Pure
open Go.RowKit Go.Proofs.Ytgjlgdohlmpnbaa.P Go.Proofs.Ytgjlgdohlmpnbaa.O Go.Proofs.YtgjlgdohlmpnbaaW.PrintWords Go.Proofs.YtgjlgdohlmpnbaaW.PrintLast Go.Proofs.YtgjlgdohlmpnbaaW.PrintMore
set_option linter.unusedSimpArgs false
set_option linter.unusedVariables false

theorem has_iff (N : List Int) (n : Int) : ∀ m, m ≤ N.length → (hasTo N n m = true ↔ ∃ j, j < m ∧ rd N (j : Int) = n)
  | 0, _ => by simp [hasTo]
  | m + 1, h => by
    simp only [hasTo, Bool.or_eq_true, beq_iff_eq, has_iff N n m (by omega)]
    constructor
    · rintro (⟨j, h1, h2⟩ | h1)
      · exact ⟨j, by omega, h2⟩
      · exact ⟨m, by omega, h1.symm⟩
    · rintro ⟨j, h1, h2⟩
      by_cases e : j = m
      · subst e; exact .inr h2.symm
      · exact .inl ⟨j, by omega, h2⟩
/-- job i needs n -/
def needs (l : List S31) (i : Nat) (n : Int) : Prop := n ∈ (rd_T31 l (i : Int)).f1
theorem has_mem (N : List Int) (n : Int) : hasTo N n N.length = true ↔ n ∈ N := by
  rw [has_iff N n _ (Nat.le_refl _), List.mem_iff_getElem]
  constructor
  · rintro ⟨j, hj, h⟩; exact ⟨j, hj, by simpa [rd, hj] using h⟩
  · rintro ⟨j, hj, h⟩; exact ⟨j, hj, by simpa [rd, hj] using h⟩
/-- i uses n: it needs it, or one that uses it -/
inductive Uses (l : List S31) (n : Int) : Nat → Prop
  | base (i : Nat) (hi : i < l.length) (h : needs l i n) : Uses l n i
  | step (i j : Nat) (hi : i < l.length) (hj : j < l.length) (h : needs l i (j : Int)) (hu : Uses l n j) : Uses l n i
theorem Uses.lt {l : List S31} {n : Int} {i : Nat} (h : Uses l n i) : i < l.length := by cases h <;> assumption
theorem Uses.trans {l : List S31} {n : Int} {j i : Nat} (h1 : Uses l n j) (h2 : Uses l (j : Int) i) : Uses l n i := by
  induction h2 with
  | base i hi h => exact .step i j hi h1.lt h h1
  | step i k hi hk h _ ih => exact .step i k hi hk h ih

/-- what a visit brings -/
structure Visited (l : List S31) (n : Int) (S T : List Int) : Prop where
  sub : ∀ x, x ∈ S → x ∈ T
  sound : ∀ x, x ∈ T → x ∈ S ∨ ∃ i : Nat, x = (i : Int) ∧ Uses l n i
  users : ∀ i, i < l.length → needs l i n → (i : Int) ∈ T
  closed : ∀ x, x ∈ T → x ∉ S → ∀ i, i < l.length → needs l i x → (i : Int) ∈ T
  few : unmarked l T ≤ unmarked l S
theorem visit_ok (l : List S31) : ∀ (f : Nat) (n : Int) (S : List Int), unmarked l S < f → Visited l n S (visit l f n S)
  | 0, _, _, h => absurd h (Nat.not_lt_zero _)
  | f + 1, n, S, hf => by
    have key : ∀ i, i ≤ l.length → (∀ x, x ∈ S → x ∈ visitTo l (visit l f) n S i) ∧ (∀ x, x ∈ visitTo l (visit l f) n S i → x ∈ S ∨ ∃ i : Nat, x = (i : Int) ∧ Uses l n i) ∧
        (∀ j, j < i → needs l j n → (j : Int) ∈ visitTo l (visit l f) n S i) ∧ (∀ x, x ∈ visitTo l (visit l f) n S i → x ∉ S → ∀ j, j < l.length → needs l j x → (j : Int) ∈ visitTo l (visit l f) n S i) ∧ unmarked l (visitTo l (visit l f) n S i) ≤ unmarked l S := by
      intro i
      induction i with
      | zero => exact fun _ => ⟨fun x hx => hx, fun x hx => .inl hx, fun j hj => absurd hj (Nat.not_lt_zero _), fun x hx hn => absurd hx hn, Nat.le_refl _⟩
      | succ i ih =>
        intro hi
        obtain ⟨a1, a2, a3, a4, a5⟩ := ih (by omega)
        simp only [visitTo]
        generalize visitTo l (visit l f) n S i = T at a1 a2 a3 a4 a5
        by_cases hin : (i : Int) ∈ T
        · rw [if_pos hin]
          refine ⟨a1, a2, fun j hj hn => ?_, a4, a5⟩
          by_cases e : j = i
          · subst e; exact hin
          · exact a3 j (by omega) hn
        · rw [if_neg hin]
          by_cases hh : hasTo (rd_T31 l (i : Int)).f1 n (rd_T31 l (i : Int)).f1.length = true
          · rw [if_pos hh]
            have hni : needs l i n := (has_mem _ _).1 hh
            have hun := unmarked_cons (l := l) (by omega) hin
            have v := visit_ok l f (i : Int) ((i : Int) :: T) (by omega)
            have hui : Uses l n i := .base i (by omega) hni
            refine ⟨fun x hx => v.sub x (List.mem_cons_of_mem _ (a1 x hx)), fun x hx => ?_, fun j hj hn => ?_, fun x hx hns j hj hn => ?_, by have := v.few; omega⟩
            · rcases v.sound x hx with h | ⟨k, rfl, hk⟩
              · rcases List.mem_cons.1 h with rfl | h
                · exact .inr ⟨i, rfl, hui⟩
                · exact a2 x h
              · exact .inr ⟨k, rfl, hui.trans hk⟩
            · by_cases e : j = i
              · subst e; exact v.sub _ List.mem_cons_self
              · exact v.sub _ (List.mem_cons_of_mem _ (a3 j (by omega) hn))
            · by_cases hxT : x ∈ (i : Int) :: T
              · rcases List.mem_cons.1 hxT with rfl | h
                · exact v.users j hj hn
                · exact v.sub _ (List.mem_cons_of_mem _ (a4 x h hns j hj hn))
              · exact v.closed x hx hxT j hj hn
          · rw [if_neg hh]
            refine ⟨a1, a2, fun j hj hn => ?_, a4, a5⟩
            by_cases e : j = i
            · subst e; exact absurd ((has_mem _ _).2 hn) hh
            · exact a3 j (by omega) hn
    obtain ⟨a1, a2, a3, a4, a5⟩ := key l.length (Nat.le_refl _)
    exact ⟨a1, a2, a3, a4, a5⟩
theorem visit_iff (l : List S31) (n : Int) (i : Nat) : (i : Int) ∈ visit l (l.length + 1) n [] ↔ Uses l n i := by
  have v := visit_ok l (l.length + 1) n [] (by rw [unmarked_nil]; omega)
  constructor
  · intro h
    rcases v.sound _ h with h | ⟨k, e, hk⟩
    · cases h
    · obtain rfl : i = k := by omega
      exact hk
  · intro h
    induction h with
    | base i hi h => exact v.users i hi h
    | step i j hi hj h _ ih => exact v.closed _ ih (by simp) i hi h
theorem pick_mem (S : List Int) : ∀ (n : Nat) (x : Int), x ∈ pickTo S n ↔ ∃ i : Nat, i < n ∧ x = (i : Int) ∧ (i : Int) ∈ S
  | 0, x => by simp [pickTo]
  | n + 1, x => by
    unfold pickTo
    have ih := pick_mem S n x
    by_cases h : (n : Int) ∈ S
    · rw [if_pos h, List.mem_append, ih, List.mem_singleton]
      constructor
      · rintro (⟨i, h1, h2, h3⟩ | h1)
        · exact ⟨i, by omega, h2, h3⟩
        · exact ⟨n, by omega, h1, h⟩
      · rintro ⟨i, h1, h2, h3⟩
        by_cases e : i = n
        · subst e; exact .inr h2
        · exact .inl ⟨i, by omega, h2, h3⟩
    · rw [if_neg h, ih]
      constructor
      · rintro ⟨i, h1, h2, h3⟩; exact ⟨i, by omega, h2, h3⟩
      · rintro ⟨i, h1, h2, h3⟩
        by_cases e : i = n
        · subst e; exact absurd h3 h
        · exact ⟨i, by omega, h2, h3⟩
theorem users_mem (l : List S31) (n : Int) (h0 : 0 ≤ n) (h1 : n < l.length) (i : Nat) : (i : Int) ∈ usersOf l n ↔ Uses l n i := by
  unfold usersOf
  rw [if_neg (by omega), pick_mem]
  constructor
  · rintro ⟨j, h2, h3, h4⟩
    obtain rfl : i = j := by omega
    exact (visit_iff l n i).1 h4
  · intro h
    exact ⟨i, h.lt, rfl, (visit_iff l n i).2 h⟩
end Go.Proofs.Ytgjlgdohlmpnbaa.Pure
