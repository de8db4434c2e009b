/- Plain lemmas: what the document's Ready, Order and Light come to, told as plain functions on lists. Conditions: as each states. -/
import Derived.Test.YtgjlgdohlmpnbaaO2
import Derived.Test.YtgjlgdohlmpnbaaPx3
namespace Go.Proofs.Ytgjlgdohlmpnbaa.Pure
open Go.RowKit Go.Proofs.Ytgjlgdohlmpnbaa.P Go.Proofs.Ytgjlgdohlmpnbaa.O Go.Proofs.YtgjlgdohlmpnbaaW.PrintWords Go.Proofs.YtgjlgdohlmpnbaaW.PrintLast Go.Proofs.YtgjlgdohlmpnbaaW.PrintMore

/-! rounds -/
/-- With enough rounds it answers r. -/
def Ends {α : Type} (g : Nat → Option α) (r : α) : Prop := ∃ K, ∀ k, K ≤ k → g k = some r
namespace Ends
variable {α β : Type} {g a b : Nat → Option α} {r : α}
theorem const (r : α) : Ends (fun _ => some r) r := ⟨0, fun _ _ => rfl⟩
theorem succ (h : Ends (fun k => g (k + 1)) r) : Ends g r := by
  obtain ⟨K, hK⟩ := h
  refine ⟨K + 1, fun k hk => ?_⟩
  obtain ⟨m, rfl⟩ : ∃ m, k = m + 1 := ⟨k - 1, by omega⟩
  exact hK m (by omega)
theorem bind {g : Nat → Option β} {x : β} {h : Nat → β → Option α} (h1 : Ends g x) (h2 : Ends (fun k => h k x) r) : Ends (fun k => (g k).bind (fun y => h k y)) r := by
  obtain ⟨K, hK⟩ := h1
  obtain ⟨L, hL⟩ := h2
  refine ⟨max K L, fun k hk => ?_⟩
  show (g k).bind (fun y => h k y) = some r
  rw [hK k (by omega)]
  exact hL k (by omega)
theorem pos {c : Prop} [Decidable c] (hc : c) (h : Ends a r) : Ends (fun k => if c then a k else b k) r := by simpa [hc] using h
theorem neg {c : Prop} [Decidable c] (hc : ¬ c) (h : Ends b r) : Ends (fun k => if c then a k else b k) r := by simpa [hc] using h
theorem get (h : Ends g r) : ∃ k, g k = some r := by
  obtain ⟨K, hK⟩ := h
  exact ⟨K, hK K (Nat.le_refl _)⟩
theorem of_eq {o : Option α} (h : o = some r) : Ends (fun _ => o) r := ⟨0, fun _ _ => h⟩
end Ends

theorem wrap_small {i : Int} (h0 : -1000000000000 ≤ i) (h1 : i ≤ 1000000000000) : wrap64 i = i := by unfold wrap64; omega
theorem wrap_succ {i : Nat} (h1 : i ≤ 1000000000) : wrap64 ((i : Int) + 1) = ((i + 1 : Nat) : Int) := by unfold wrap64; omega

/-! Ready -/
theorem isDone_in {len : Nat} {done : List Bool} {n : Int} (h0 : 0 ≤ n) (h1 : n < len) (h2 : n < done.length) : isDone len done n = rdOf false done n := by
  unfold isDone rdOf; rw [decide_eq_true ⟨h0, h1, h2⟩]; rfl
theorem isDone_out {len : Nat} {done : List Bool} {n : Int} (h : ¬ (0 ≤ n ∧ n < len ∧ n < done.length)) : isDone len done n = false := by
  unfold isDone; rw [decide_eq_false h]; rfl
theorem ready_inner (l : List S31) (done : List Bool) (i : Nat) (hi : i < l.length) (hf : fewJ l) (R : List Int)
    (hrest : Ends (fun k => carlingref21_Ready.l0 k l done (readyTo l done (i + 1)) ((i + 1 : Nat) : Int)) R) :
    ∀ (d m : Nat), m + d = (rd_T31 l (i : Int)).f1.length → Ends (fun k => carlingref21_Ready.l1 k l done (readyTo l done i) i (freeM l done i m) m) R
  | 0, m, h => by
    obtain rfl : m = (rd_T31 l (i : Int)).f1.length := by omega
    have hrl := readyTo_len l done i
    have hL := hf.1
    apply Ends.succ
    simp only [carlingref21_Ready.l1]
    refine Ends.pos (by omega) (Ends.pos (by omega) (Ends.neg (by omega) ?_))
    rw [freeM_end]
    rw [wrap_succ (by omega)]
    by_cases hfr : freeJ l done i = true
    · refine Ends.pos hfr (Ends.pos (by omega) ?_)
      have e : readyTo l done (i + 1) = readyTo l done i ++ [(i : Int)] := by show (if freeJ l done i = true then _ else _) = _; rw [if_pos hfr]
      rw [← e]; exact hrest
    · refine Ends.neg hfr ?_
      have e : readyTo l done (i + 1) = readyTo l done i := by show (if freeJ l done i = true then _ else _) = _; rw [if_neg hfr]
      rw [← e]; exact hrest
  | d + 1, m, h => by
    have hN := few_need hf i
    have hm : m < (rd_T31 l (i : Int)).f1.length := by omega
    have ih := ready_inner l done i hi hf R hrest d (m + 1) (by omega)
    rw [freeM_succ l done i m hm] at ih
    apply Ends.succ
    simp only [carlingref21_Ready.l1]
    refine Ends.pos (by omega) (Ends.pos (by omega) (Ends.pos (by omega) (Ends.pos (by omega) ?_)))
    rw [wrap_succ (by omega)]
    by_cases h1 : rd (rd_T31 l (i : Int)).f1 (m : Int) < 0
    · rw [isDone_out (by omega), Bool.and_false] at ih
      exact Ends.pos h1 ih
    · refine Ends.neg h1 ?_
      by_cases h2 : rd (rd_T31 l (i : Int)).f1 (m : Int) ≥ (l.length : Int)
      · rw [isDone_out (by omega), Bool.and_false] at ih
        exact Ends.pos h2 ih
      · refine Ends.neg h2 ?_
        by_cases h3 : rd (rd_T31 l (i : Int)).f1 (m : Int) ≥ (done.length : Int)
        · rw [isDone_out (by omega), Bool.and_false] at ih
          exact Ends.pos h3 ih
        · refine Ends.neg h3 (Ends.pos (by omega) (Ends.pos (by omega) ?_))
          rw [isDone_in (by omega) (by omega) (by omega)] at ih
          by_cases h4 : rdOf false done (rd (rd_T31 l (i : Int)).f1 (m : Int)) = true
          · rw [h4, Bool.and_true] at ih
            exact Ends.pos h4 ih
          · rw [Bool.eq_false_iff.mpr h4, Bool.and_false] at ih
            exact Ends.neg h4 ih
theorem ready_outer (l : List S31) (done : List Bool) (hf : fewJ l) : ∀ (d i : Nat), i + d = l.length → Ends (fun k => carlingref21_Ready.l0 k l done (readyTo l done i) i) (readyTo l done l.length)
  | 0, i, h => by
    obtain rfl : i = l.length := by omega
    apply Ends.succ
    simp only [carlingref21_Ready.l0]
    exact Ends.neg (by omega) (Ends.const _)
  | d + 1, i, h => by
    have ih := ready_outer l done hf d (i + 1) (by omega)
    have hin := ready_inner l done i (by omega) hf _ ih _ 0 (Nat.zero_add _)
    rw [freeM_zero] at hin
    apply Ends.succ
    simp only [carlingref21_Ready.l0]
    refine Ends.pos (by omega) ?_
    by_cases h1 : (i : Int) < (done.length : Int)
    · refine Ends.pos h1 (Ends.pos (by omega) ?_)
      rw [isDone_in (by omega) (by omega) h1] at hin
      apply Ends.succ
      simp only [carlingref21_Ready.j1]
      exact hin
    · refine Ends.neg h1 ?_
      rw [isDone_out (by omega)] at hin
      apply Ends.succ
      simp only [carlingref21_Ready.j1]
      exact hin
theorem ready_ends (l : List S31) (done : List Bool) (hf : fewJ l) : Ends (fun k => carlingref21_Ready.f k l done) (readyTo l done l.length) :=
  ready_outer l done hf l.length 0 (by omega)

/-! Order -/
theorem pick_inner (l : List S31) (done : List Bool) (out : List Int) (rs : List Int) (hf : fewJ l) (hlen : rs.length ≤ l.length) (hrs : ∀ x ∈ rs, 0 ≤ x ∧ x < l.length) (hd : done.length = l.length) (ho : out.length ≤ l.length) (R : List Int × Int)
    (hrest : Ends (fun k => carlingref21_Order.l4 k l (done.set (bestTo l rs rs.length).toNat true) (out ++ [bestTo l rs rs.length])) R) :
    ∀ (d m : Nat) (b : Int), m + d = rs.length → (b = bestTo l rs m ∧ b ∈ rs ∨ m = 0 ∧ 0 < rs.length ∧ b = rd rs 0) → 0 < rs.length → Ends (fun k => carlingref21_Order.l5 k l done out rs b m) R
  | 0, m, b, h, hb, hp => by
    obtain rfl : m = rs.length := by omega
    obtain ⟨rfl, hbm⟩ : b = bestTo l rs rs.length ∧ b ∈ rs := by rcases hb with hb | hb <;> first | exact hb | omega
    have hb2 := hrs _ hbm
    have hL := hf.1
    apply Ends.succ
    simp only [carlingref21_Order.l5]
    exact Ends.neg (by omega) (Ends.pos hb2.1 (Ends.pos (by omega) (Ends.pos (by omega) hrest)))
  | d + 1, m, b, h, hb, hp => by
    have hL := hf.1
    have hm : m < rs.length := by omega
    have hi := hrs _ (rd_mem rs m hm)
    have hbm : b ∈ rs := by
      rcases hb with hb | ⟨rfl, _, rfl⟩
      · exact hb.2
      · exact rd_mem rs 0 hp
    have hb2 := hrs _ hbm
    have ih := pick_inner l done out rs hf hlen hrs hd ho R hrest d (m + 1)
    apply Ends.succ
    simp only [carlingref21_Order.l5]
    refine Ends.pos (by omega) (Ends.pos (by omega) (Ends.pos hi.1 (Ends.pos hi.2 (Ends.pos hb2.1 (Ends.pos hb2.2 ?_)))))
    rw [wrap_succ (by omega)]
    have key : bestTo l rs (m + 1) = if Op.bytesLess ((rd_T31 l (rd rs (m : Int))).f0).toList ((rd_T31 l b).f0).toList = true then rd rs (m : Int) else b := by
      rcases hb with ⟨rfl, _⟩ | ⟨rfl, _, rfl⟩
      · show (if bestTo l rs m < 0 then _ else _) = _
        rw [if_neg (by omega)]
      · show (if (-1 : Int) < 0 then _ else _) = _
        rw [if_pos (by omega)]
        split <;> rfl
    by_cases hless : Op.bytesLess ((rd_T31 l (rd rs (m : Int))).f0).toList ((rd_T31 l b).f0).toList = true
    · rw [if_pos hless] at key
      exact Ends.pos hless (ih _ (by omega) (.inl ⟨key.symm, rd_mem rs m hm⟩) hp)
    · rw [if_neg hless] at key
      exact Ends.neg hless (ih _ (by omega) (.inl ⟨key.symm, hbm⟩) hp)
/-- what the last loop answers -/
def orderEnd (l : List S31) (o : List Int) : List Int × Int := if o.length < l.length then ([], 13) else (o, 0)
theorem order_loop (l : List S31) (hf : fewJ l) : ∀ (n : Nat) (done : List Bool) (out : List Int), done.length = l.length → undone done = n → out.length + undone done = l.length →
    Ends (fun k => carlingref21_Order.l4 k l done out) (orderEnd l (orderGo l (undone done + 1) done out))
  | n, done, out, hd, hn, ho => by
    have hmem := ready_mem l done l.length
    have hrl := readyTo_len l done l.length
    have hbest := best_mem l (readyTo l done l.length) (readyTo l done l.length).length (Nat.le_refl _)
    have hrd := ready_ends l done hf
    apply Ends.succ
    simp only [carlingref21_Order.l4]
    have hgo : orderGo l (undone done + 1) done out = (if bestTo l (readyTo l done l.length) (readyTo l done l.length).length < 0 then out
        else orderGo l (undone done) (done.set (bestTo l (readyTo l done l.length) (readyTo l done l.length).length).toNat true) (out ++ [bestTo l (readyTo l done l.length) (readyTo l done l.length).length])) := rfl
    have hset : ∀ b, b ∈ readyTo l done l.length → undone (done.set b.toNat true) + 1 = undone done := fun b hb => by
      have := hmem b hb
      exact undone_set done b.toNat (by omega) (free_undone (by omega) (by omega) this.2.2)
    generalize readyTo l done l.length = rs at hmem hrl hbest hrd hgo hset
    by_cases h1 : (out.length : Int) < (l.length : Int)
    · refine Ends.pos h1 (Ends.bind hrd ?_)
      by_cases h2 : (rs.length : Int) = 0
      · have e : rs = [] := List.length_eq_zero_iff.mp (by omega)
        subst e
        have e2 : orderGo l (undone done + 1) done out = out := by rw [hgo]; rw [if_pos (by show (-1 : Int) < 0; omega)]
        rw [e2]
        unfold orderEnd
        rw [if_pos (by omega)]
        exact Ends.pos h2 (Ends.const _)
      · refine Ends.neg h2 (Ends.pos (by omega) ?_)
        have hb : bestTo l rs rs.length ∈ rs := by
          rcases hbest with hb | hb
          · exfalso
            cases e : rs.length with
            | zero => omega
            | succ m =>
              rw [e] at hb
              have h3 := hmem _ (rd_mem rs m (by omega))
              have h4 := best_mem l rs m (by omega)
              simp only [bestTo] at hb
              rcases h4 with h4 | h4
              · rw [h4, if_pos (by omega)] at hb; omega
              · have h5 := hmem _ h4
                rw [if_neg (by omega)] at hb
                split at hb <;> omega
          · exact hb
        have hbb := hmem _ hb
        have hu := hset _ hb
        rw [hgo, if_neg (by omega), ← hu]
        refine pick_inner l done out rs hf hrl (fun x hx => ⟨(hmem x hx).1, (hmem x hx).2.1⟩) hd (by omega) _ ?_ rs.length 0 _ (by omega) (.inr ⟨rfl, by omega, rfl⟩) (by omega)
        exact order_loop l hf (n - 1) _ _ (by rw [List.length_set]; exact hd) (by omega) (by rw [List.length_append, List.length_singleton]; omega)
    · have e2 : orderGo l (undone done + 1) done out = out := by
        rw [hgo]
        rcases hbest with hb | hb
        · rw [if_pos (by omega)]
        · have := hset _ hb; omega
      rw [e2]
      unfold orderEnd
      rw [if_neg (by omega)]
      exact Ends.neg h1 (Ends.const _)
termination_by n => n
decreasing_by omega
end Go.Proofs.Ytgjlgdohlmpnbaa.Pure
