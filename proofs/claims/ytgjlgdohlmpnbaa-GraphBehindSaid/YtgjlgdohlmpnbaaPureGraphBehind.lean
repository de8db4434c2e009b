/- The pure statement of GraphBehind: each job stands in the order once, behind all that it needs. Conditions: none. -/
import Derived.Test.YtgjlgdohlmpnbaaB2
import Derived.Test.YtgjlgdohlmpnbaaPx4
namespace Go.Proofs.Ytgjlgdohlmpnbaa.Pure
open Go.RowKit Go.Proofs.Ytgjlgdohlmpnbaa.P Go.Proofs.Ytgjlgdohlmpnbaa.O Go.Proofs.YtgjlgdohlmpnbaaW.PrintWords Go.Proofs.YtgjlgdohlmpnbaaW.PrintLast Go.Proofs.YtgjlgdohlmpnbaaW.PrintMore
set_option linter.unusedSimpArgs false
set_option linter.unusedVariables false

/-- the jobs whose place is told are done -/
def doneOf (at_ : List Int) : List Bool := at_.map (fun v => decide (0 ≤ v))
theorem doneOf_len (at_ : List Int) : (doneOf at_).length = at_.length := by simp [doneOf]
theorem doneOf_get (at_ : List Int) (n : Nat) (h : n < at_.length) : (doneOf at_).getD n false = decide (0 ≤ rd at_ (n : Int)) := by
  simp [doneOf, rd, h]
theorem doneOf_set (at_ : List Int) (n : Nat) (p : Int) (hp : 0 ≤ p) : doneOf (at_.set n p) = (doneOf at_).set n true := by
  simp [doneOf, List.map_set, hp]
theorem rd_set (at_ : List Int) (n m : Nat) (p : Int) (hm : m < at_.length) : rd (at_.set n p) (m : Int) = if m = n then p else rd at_ (m : Int) := by
  simp only [rd, Int.toNat_natCast, List.getD_eq_getElem?_getD, List.getElem?_set]
  by_cases e : m = n
  · subst e; simp [hm]
  · simp [e, Ne.symm e]
theorem go_app (l : List S31) : ∀ (k : Nat) (done : List Bool) (out : List Int), orderGo l k done out = out ++ orderGo l k done []
  | 0, _, out => by simp [orderGo]
  | k + 1, done, out => by
    unfold orderGo
    split
    · simp
    · rw [go_app l k _ (out ++ _), go_app l k _ ([] ++ _)]
      simp
theorem go_len2 (l : List S31) : ∀ (n : Nat) (done : List Bool) (out : List Int), done.length = l.length → undone done = n → (orderGo l (undone done + 1) done out).length ≤ out.length + undone done
  | n, done, out, hd, hn => by
    have hmem := ready_mem l done l.length
    have hbest := best_mem l (readyTo l done l.length) (readyTo l done l.length).length (Nat.le_refl _)
    show (if bestTo l (readyTo l done l.length) (readyTo l done l.length).length < 0 then out
        else orderGo l (undone done) (done.set (bestTo l (readyTo l done l.length) (readyTo l done l.length).length).toNat true) (out ++ [bestTo l (readyTo l done l.length) (readyTo l done l.length).length])).length ≤ _
    rcases hbest with hb | hb
    · rw [if_pos (by omega)]; omega
    · have h := hmem _ hb
      have hu := undone_set done _ (by omega : (bestTo l (readyTo l done l.length) (readyTo l done l.length).length).toNat < done.length) (free_undone (by omega) (by omega) h.2.2)
      rw [if_neg (by omega)]
      rw [← hu]
      have := go_len2 l (n - 1) (done.set (bestTo l (readyTo l done l.length) (readyTo l done l.length).length).toNat true) (out ++ [bestTo l (readyTo l done l.length) (readyTo l done l.length).length]) (by rw [List.length_set]; exact hd) (by omega)
      rw [List.length_append, List.length_singleton] at this
      omega
termination_by n => n
decreasing_by omega

theorem behind_needs (l : List S31) (hf : fewJ l) (o : List Int) (at_ : List Int) (p b : Nat) (hp : p < o.length) (hol : o.length ≤ l.length) (hb : rd o (p : Int) = (b : Int)) (hbl : b < l.length) (hal : at_.length = l.length)
    (hall : ∀ m : Nat, m < (rd_T31 l (b : Int)).f1.length → 0 ≤ rd (rd_T31 l (b : Int)).f1 (m : Int) ∧ rd (rd_T31 l (b : Int)).f1 (m : Int) < l.length ∧ 0 ≤ rd at_ (rd (rd_T31 l (b : Int)).f1 (m : Int)))
    (hrest : Ends (fun k => carlinglaw21_GraphBehind.l1 k l true o at_ ((p + 1 : Nat) : Int)) true) :
    ∀ (d m : Nat), m + d = (rd_T31 l (b : Int)).f1.length → Ends (fun k => carlinglaw21_GraphBehind.l2 k l true o at_ p m) true
  | 0, m, h => by
    obtain rfl : m = (rd_T31 l (b : Int)).f1.length := by omega
    have hL := hf.1
    apply Ends.succ
    simp only [carlinglaw21_GraphBehind.l2]
    rw [hb]
    refine Ends.pos (by omega) (Ends.pos (by omega) (Ends.pos (by omega) (Ends.pos (by omega) (Ends.neg (by omega) ?_))))
    rw [wrap_succ (by omega)]
    exact hrest
  | d + 1, m, h => by
    have hN := few_need hf b
    obtain ⟨h1, h2, h3⟩ := hall m (by omega)
    have ih := behind_needs l hf o at_ p b hp hol hb hbl hal hall hrest d (m + 1) (by omega)
    apply Ends.succ
    simp only [carlinglaw21_GraphBehind.l2]
    rw [hb]
    refine Ends.pos (by omega) (Ends.pos (by omega) (Ends.pos (by omega) (Ends.pos (by omega) (Ends.pos (by omega) (Ends.pos (by omega) (Ends.neg (by omega) (Ends.neg (by omega) (Ends.pos h1 (Ends.pos (by omega) (Ends.neg (by omega) ?_))))))))))
    rw [wrap_succ (by omega)]
    exact ih
theorem all_get {p : Int → Bool} {N : List Int} (h : N.all p = true) (m : Nat) (hm : m < N.length) : p (rd N (m : Int)) = true := List.all_eq_true.1 h _ (rd_mem N m hm)
theorem isDone_inv {len : Nat} {done : List Bool} {n : Int} (h : isDone len done n = true) : 0 ≤ n ∧ n < len ∧ n < done.length ∧ done.getD n.toNat false = true := by
  unfold isDone at h
  simp only [Bool.and_eq_true, decide_eq_true_eq] at h
  exact ⟨h.1.1, h.1.2.1, h.1.2.2, h.2⟩
theorem behind_loop (l : List S31) (hf : fewJ l) (o : List Int) (hol : o.length ≤ l.length) : ∀ (n : Nat) (pre : List Int) (at_ : List Int), at_.length = l.length → undone (doneOf at_) = n → o = pre ++ orderGo l (undone (doneOf at_) + 1) (doneOf at_) [] →
    Ends (fun k => carlinglaw21_GraphBehind.l1 k l true o at_ (pre.length : Int)) true
  | n, pre, at_, hal, hn, ho => by
    have hL := hf.1
    have hmem := ready_mem l (doneOf at_) l.length
    have hbest := best_mem l (readyTo l (doneOf at_) l.length) (readyTo l (doneOf at_) l.length).length (Nat.le_refl _)
    have hgo : orderGo l (undone (doneOf at_) + 1) (doneOf at_) [] = (if bestTo l (readyTo l (doneOf at_) l.length) (readyTo l (doneOf at_) l.length).length < 0 then []
        else orderGo l (undone (doneOf at_)) ((doneOf at_).set (bestTo l (readyTo l (doneOf at_) l.length) (readyTo l (doneOf at_) l.length).length).toNat true) ([] ++ [bestTo l (readyTo l (doneOf at_) l.length) (readyTo l (doneOf at_) l.length).length])) := rfl
    generalize bestTo l (readyTo l (doneOf at_) l.length) (readyTo l (doneOf at_) l.length).length = bb at hbest hgo
    apply Ends.succ
    simp only [carlinglaw21_GraphBehind.l1]
    rcases hbest with hb | hb
    · rw [if_pos (by omega)] at hgo
      rw [hgo, List.append_nil] at ho
      subst ho
      exact Ends.neg (by omega) (Ends.const _)
    · have h := hmem _ hb
      obtain ⟨b, rfl⟩ : ∃ b : Nat, bb = (b : Int) := ⟨bb.toNat, by omega⟩
      have hbl : b < l.length := by omega
      have hfr := h.2.2
      rw [Int.toNat_natCast] at hfr
      have hdl := doneOf_len at_
      have hfd : (doneOf at_).getD b false = false := free_undone hbl (by omega) hfr
      have hu := undone_set (doneOf at_) b (by omega) hfd
      rw [if_neg (by omega), Int.toNat_natCast, go_app l (undone (doneOf at_)) _ ([] ++ [(b : Int)])] at hgo
      have e1 : orderGo l (undone ((doneOf at_).set b true) + 1) ((doneOf at_).set b true) [] = orderGo l (undone (doneOf at_)) ((doneOf at_).set b true) [] := by rw [hu]
      rw [hgo, ← e1] at ho
      have hoE : o = (pre ++ [(b : Int)]) ++ orderGo l (undone ((doneOf at_).set b true) + 1) ((doneOf at_).set b true) [] := by rw [ho]; simp
      have hp : pre.length < o.length := by rw [hoE]; simp
      have hrd : rd o (pre.length : Int) = (b : Int) := by rw [hoE]; simp [rd]
      have hset := doneOf_set at_ b (pre.length : Int) (by omega)
      rw [← hset] at hoE hu
      have hneg : ¬ (rd at_ (b : Int) ≥ 0) := by
        rw [doneOf_get at_ b (by omega)] at hfd
        have := of_decide_eq_false hfd
        omega
      have ih := behind_loop l hf o hol (n - 1) (pre ++ [(b : Int)]) (at_.set b (pre.length : Int)) (by rw [List.length_set]; exact hal) (by omega) hoE
      rw [List.length_append, List.length_singleton] at ih
      have hNall := hfr
      unfold freeJ at hNall
      rw [Bool.and_eq_true] at hNall
      have hin := behind_needs l hf o (at_.set b (pre.length : Int)) pre.length b hp hol hrd hbl (by rw [List.length_set]; exact hal) (fun m hm => by
        obtain ⟨g1, g2, g3, g4⟩ := isDone_inv (all_get hNall.2 m hm)
        refine ⟨g1, g2, ?_⟩
        obtain ⟨q, hq⟩ : ∃ q : Nat, rd (rd_T31 l (b : Int)).f1 (m : Int) = (q : Int) := ⟨(rd (rd_T31 l (b : Int)).f1 (m : Int)).toNat, by omega⟩
        rw [hq] at g2 g4 ⊢
        rw [Int.toNat_natCast, doneOf_get at_ q (by omega)] at g4
        have g5 := of_decide_eq_true g4
        rw [rd_set at_ b q _ (by omega)]
        split <;> omega) ih _ 0 (Nat.zero_add _)
      refine Ends.pos (by omega) (Ends.pos (by omega) ?_)
      rw [hrd]
      refine Ends.neg (by omega) (Ends.neg (by omega) (Ends.pos (by omega) (Ends.pos (by omega) ?_)))
      rw [decide_eq_false hneg]
      apply Ends.succ
      simp only [carlinglaw21_GraphBehind.j2]
      rw [hrd]
      refine Ends.neg (by simp) (Ends.pos (by omega) (Ends.pos (by omega) (Ends.pos (by omega) (Ends.pos (by omega) ?_))))
      rw [Int.toNat_natCast]
      exact hin
termination_by n => n
decreasing_by omega
theorem behind_fill (l : List S31) (hf : fewJ l) (o : List Int) (h : Ends (fun k => carlinglaw21_GraphBehind.l1 k l true o (List.replicate l.length (-1)) 0) true) : ∀ (d i : Nat), i + d = l.length →
    Ends (fun k => carlinglaw21_GraphBehind.l0 k l true o (List.replicate i (-1) ++ List.replicate d 0) i) true
  | 0, i, hi => by
    obtain rfl : i = l.length := by omega
    apply Ends.succ
    simp only [carlinglaw21_GraphBehind.l0]
    refine Ends.neg (by omega) ?_
    simpa using h
  | d + 1, i, hi => by
    have hL := hf.1
    have ih := behind_fill l hf o h d (i + 1) (by omega)
    apply Ends.succ
    simp only [carlinglaw21_GraphBehind.l0]
    refine Ends.pos (by omega) (Ends.pos (by omega) (Ends.pos (by simp; omega) ?_))
    rw [wrap_succ (by omega), Int.toNat_natCast]
    have e : (List.replicate i (-1 : Int) ++ List.replicate (d + 1) 0).set i (-1) = List.replicate (i + 1) (-1) ++ List.replicate d 0 := by
      rw [show List.replicate (i + 1) (-1 : Int) = List.replicate i (-1) ++ [-1] from List.replicate_succ', List.set_append_right _ _ (by simp)]
      simp [List.replicate_succ]
    rw [e]; exact ih
theorem doneOf_rep (n : Nat) : doneOf (List.replicate n (-1)) = List.replicate n false := by simp [doneOf]
theorem GraphBehind (l0 : List S31) (_ : ∀ y ∈ l0, Wf31 y) (_ : l0.length ≤ 9223372036854775807) : ∃ k, carlinglaw21_GraphBehind.f k l0 = some true := by
  apply Ends.get
  unfold carlinglaw21_GraphBehind.f
  refine Ends.bind (Ends.of_eq awake_eq) ?_
  obtain ⟨b, e1, e2⟩ := light_ends l0
  refine Ends.bind e1 ?_
  by_cases hb : b = true
  · obtain ⟨hf, hl⟩ := e2 hb
    have ho : graph_Order.f l0 = some (orderOf l0) := by unfold graph_Order.f; rw [if_pos hf]
    refine Ends.pos hb (Ends.bind (Ends.of_eq ho) ?_)
    by_cases h1 : badTo l0 l0.length = true
    · have e : orderOf l0 = ([], 1) := by unfold orderOf; rw [if_pos h1]
      rw [e]
      exact Ends.neg (by decide) (Ends.pos (by simp) (Ends.const _))
    · by_cases h2 : twiceTo l0 l0.length = true
      · have e : orderOf l0 = ([], 9) := by unfold orderOf; rw [if_neg h1, if_pos h2]
        rw [e]
        exact Ends.neg (by decide) (Ends.pos (by simp) (Ends.const _))
      · by_cases h3 : (orderGo l0 (l0.length + 1) (List.replicate l0.length false) []).length < l0.length
        · have e : orderOf l0 = ([], 13) := by unfold orderOf; rw [if_neg h1, if_neg h2, if_pos h3]
          rw [e]
          exact Ends.neg (by decide) (Ends.pos (by simp) (Ends.const _))
        · have e : orderOf l0 = (orderGo l0 (l0.length + 1) (List.replicate l0.length false) [], 0) := by unfold orderOf; rw [if_neg h1, if_neg h2, if_neg h3]
          rw [e]
          have hlen := go_len2 l0 _ (List.replicate l0.length false) [] (by simp) rfl
          rw [undone_rep] at hlen
          simp only [List.length_nil, Nat.zero_add] at hlen
          have hle : (orderGo l0 (l0.length + 1) (List.replicate l0.length false) []).length ≤ l0.length := hlen
          have h0 := behind_loop l0 hf (orderGo l0 (l0.length + 1) (List.replicate l0.length false) []) hle _ [] (List.replicate l0.length (-1)) (by simp) rfl (by rw [doneOf_rep, undone_rep]; rfl)
          have h4 := behind_fill l0 hf _ h0 l0.length 0 (by omega)
          refine Ends.pos (by simp) (Ends.pos (by simp only; omega) (Ends.pos (by omega) (Ends.pos (by omega) ?_)))
          simpa using h4
  · exact Ends.neg hb (Ends.const _)
end Go.Proofs.Ytgjlgdohlmpnbaa.Pure
