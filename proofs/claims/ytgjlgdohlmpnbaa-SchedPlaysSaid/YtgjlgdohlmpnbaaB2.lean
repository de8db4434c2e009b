/- Plain lemmas: what the document's Order and Light come to, and the waking law. Conditions: as each states. -/
import Derived.Test.YtgjlgdohlmpnbaaB1
namespace Go.Proofs.Ytgjlgdohlmpnbaa.Pure
set_option linter.unusedSimpArgs false
set_option linter.unusedVariables false
open Go.RowKit Go.Proofs.Ytgjlgdohlmpnbaa.P Go.Proofs.Ytgjlgdohlmpnbaa.O Go.Proofs.YtgjlgdohlmpnbaaW.PrintWords Go.Proofs.YtgjlgdohlmpnbaaW.PrintLast Go.Proofs.YtgjlgdohlmpnbaaW.PrintMore

theorem bad_of {l : List S31} {i m : Nat} (hi : i < l.length) (hm : m < (rd_T31 l (i : Int)).f1.length) (h : outTo l i (m + 1) = true) : badTo l l.length = true :=
  badTo_mono (m := i + 1) (by simp only [badTo]; rw [outTo_mono h hm]; simp) hi
theorem need_inner (l : List S31) (hf : fewJ l) (i : Nat) (hi : i < l.length) (R : List Int × Int) (hR : badTo l l.length = true → R = ([], 1))
    (hrest : outTo l i (rd_T31 l (i : Int)).f1.length = false → Ends (fun k => carlingref21_Order.l0 k l ((i + 1 : Nat) : Int)) R) :
    ∀ (d m : Nat), m + d = (rd_T31 l (i : Int)).f1.length → outTo l i m = false → Ends (fun k => carlingref21_Order.l1 k l i m) R
  | 0, m, h, ho => by
    obtain rfl : m = (rd_T31 l (i : Int)).f1.length := by omega
    have hL := hf.1
    apply Ends.succ
    simp only [carlingref21_Order.l1]
    refine Ends.pos (by omega) (Ends.pos (by omega) (Ends.neg (by omega) ?_))
    rw [wrap_succ (by omega)]
    exact hrest ho
  | d + 1, m, h, ho => by
    have hN := few_need hf i
    have hm : m < (rd_T31 l (i : Int)).f1.length := by omega
    have ih := need_inner l hf i hi R hR hrest d (m + 1) (by omega)
    apply Ends.succ
    simp only [carlingref21_Order.l1]
    refine Ends.pos (by omega) (Ends.pos (by omega) (Ends.pos (by omega) (Ends.pos (by omega) ?_)))
    by_cases h1 : rd (rd_T31 l (i : Int)).f1 (m : Int) < 0
    · rw [hR (bad_of hi hm (by simp only [outTo, outOf]; rw [decide_eq_true (Or.inl h1)]; simp))]
      exact Ends.pos h1 (Ends.const _)
    · refine Ends.neg h1 ?_
      by_cases h2 : rd (rd_T31 l (i : Int)).f1 (m : Int) ≥ (l.length : Int)
      · rw [hR (bad_of hi hm (by simp only [outTo, outOf]; rw [decide_eq_true (Or.inr h2)]; simp))]
        exact Ends.pos h2 (Ends.const _)
      · refine Ends.neg h2 ?_
        rw [wrap_succ (by omega)]
        exact ih (by simp only [outTo, outOf]; rw [ho, decide_eq_false (by omega)]; rfl)
theorem need_outer (l : List S31) (hf : fewJ l) (R : List Int × Int) (hR : badTo l l.length = true → R = ([], 1)) (hrest : badTo l l.length = false → Ends (fun k => carlingref21_Order.l2 k l 0) R) :
    ∀ (d i : Nat), i + d = l.length → badTo l i = false → Ends (fun k => carlingref21_Order.l0 k l i) R
  | 0, i, h, hb => by
    obtain rfl : i = l.length := by omega
    apply Ends.succ
    simp only [carlingref21_Order.l0]
    exact Ends.neg (by omega) (hrest hb)
  | d + 1, i, h, hb => by
    have ih := need_outer l hf R hR hrest d (i + 1) (by omega)
    apply Ends.succ
    simp only [carlingref21_Order.l0]
    refine Ends.pos (by omega) (need_inner l hf i (by omega) R hR (fun ho => ih (by simp only [badTo]; rw [hb, ho]; rfl)) _ 0 (Nat.zero_add _) rfl)

theorem any_keys_mono {l : List S31} {s : ByteArray} {j : Nat} (h : (keysTo l j).any (fun t => decide (t = s)) = true) : ∀ {n : Nat}, j ≤ n → (keysTo l n).any (fun t => decide (t = s)) = true
  | 0, hn => by obtain rfl : j = 0 := by omega
                exact h
  | n + 1, hn => by
    by_cases e : j = n + 1
    · rw [← e]; exact h
    · simp only [keysTo, List.any_cons]; rw [any_keys_mono h (by omega : j ≤ n)]; simp
theorem name_inner (l : List S31) (hf : fewJ l) (i : Nat) (hi : i < l.length) (R : List Int × Int) (hR : twiceTo l l.length = true → R = ([], 9))
    (hrest : (keysTo l i).any (fun t => decide (t = (rd_T31 l (i : Int)).f0)) = false → Ends (fun k => carlingref21_Order.l2 k l ((i + 1 : Nat) : Int)) R) :
    ∀ (d j : Nat), j + d = i → (keysTo l j).any (fun t => decide (t = (rd_T31 l (i : Int)).f0)) = false → Ends (fun k => carlingref21_Order.l3 k l i j) R
  | 0, j, h, ho => by
    obtain rfl : j = i := by omega
    have hL := hf.1
    apply Ends.succ
    simp only [carlingref21_Order.l3]
    refine Ends.neg (by omega) ?_
    rw [wrap_succ (by omega)]
    exact hrest ho
  | d + 1, j, h, ho => by
    have hL := hf.1
    have ih := name_inner l hf i hi R hR hrest d (j + 1) (by omega)
    apply Ends.succ
    simp only [carlingref21_Order.l3]
    refine Ends.pos (by omega) (Ends.pos (by omega) (Ends.pos (by omega) (Ends.pos (by omega) (Ends.pos (by omega) ?_))))
    by_cases h1 : ((rd_T31 l (i : Int)).f0).toList = ((rd_T31 l (j : Int)).f0).toList
    · have e : (rd_T31 l (j : Int)).f0 = (rd_T31 l (i : Int)).f0 := by
        rw [ByteArray.toList_eq, ByteArray.toList_eq] at h1
        exact (lit_bytes.mp (by rw [h1])).symm
      have h2 : (keysTo l (j + 1)).any (fun t => decide (t = (rd_T31 l (i : Int)).f0)) = true := by simp only [keysTo, List.any_cons]; rw [decide_eq_true e]; rfl
      rw [hR (twiceTo_mono (m := i + 1) (by simp only [twiceTo]; rw [any_keys_mono h2 (by omega)]; simp) hi)]
      exact Ends.pos h1 (Ends.const _)
    · refine Ends.neg h1 ?_
      rw [wrap_succ (by omega)]
      exact ih (by simp only [keysTo, List.any_cons]; rw [ho, decide_eq_false (fun e => h1 (by rw [e]))]; rfl)
theorem name_outer (l : List S31) (hf : fewJ l) (R : List Int × Int) (hR : twiceTo l l.length = true → R = ([], 9))
    (hrest : twiceTo l l.length = false → Ends (fun k => carlingref21_Order.l4 k l (List.replicate l.length false) []) R) :
    ∀ (d i : Nat), i + d = l.length → twiceTo l i = false → Ends (fun k => carlingref21_Order.l2 k l i) R
  | 0, i, h, hb => by
    obtain rfl : i = l.length := by omega
    have hL := hf.1
    apply Ends.succ
    simp only [carlingref21_Order.l2]
    refine Ends.neg (by omega) (Ends.pos (by omega) (Ends.pos (by omega) ?_))
    rw [Int.toNat_natCast]
    exact hrest hb
  | d + 1, i, h, hb => by
    have ih := name_outer l hf R hR hrest d (i + 1) (by omega)
    apply Ends.succ
    simp only [carlingref21_Order.l2]
    exact Ends.pos (by omega) (name_inner l hf i (by omega) R hR (fun ho => ih (by simp only [twiceTo]; rw [hb, ho]; rfl)) i 0 (Nat.zero_add _) rfl)
theorem order_ends (l : List S31) (hf : fewJ l) : Ends (fun k => carlingref21_Order.f k l) (orderOf l) := by
  refine need_outer l hf _ (fun hb => by unfold orderOf; rw [if_pos hb]) (fun hb => ?_) l.length 0 (by omega) rfl
  refine name_outer l hf _ (fun ht => by unfold orderOf; rw [if_neg (by rw [hb]; decide), if_pos ht]) (fun ht => ?_) l.length 0 (by omega) rfl
  have h := order_loop l hf (undone (List.replicate l.length false)) (List.replicate l.length false) [] (by simp) rfl (by rw [undone_rep]; simp)
  rw [undone_rep] at h
  have e : orderOf l = orderEnd l (orderGo l (l.length + 1) (List.replicate l.length false) []) := by
    unfold orderOf orderEnd
    rw [if_neg (by rw [hb]; decide), if_neg (by rw [ht]; decide)]
  rw [e]; exact h

/-! same, light -/
theorem same_loop (a : List Int) (hl : a.length ≤ 1000000) : ∀ (d i : Nat), i + d = a.length → Ends (fun k => carlingref06_SameInts.l0 k a a i) true
  | 0, i, h => by
    apply Ends.succ
    simp only [carlingref06_SameInts.l0]
    exact Ends.neg (by omega) (Ends.const _)
  | d + 1, i, h => by
    apply Ends.succ
    simp only [carlingref06_SameInts.l0]
    refine Ends.pos (by omega) (Ends.pos (by omega) (Ends.pos (by omega) (Ends.pos trivial ?_)))
    rw [wrap_succ (by omega)]
    exact same_loop a hl d (i + 1) (by omega)
theorem same_ends (a : List Int) (hl : a.length ≤ 1000000) : Ends (fun k => carlingref06_SameInts.f k a a) true :=
  Ends.pos rfl (same_loop a hl a.length 0 (by omega))
theorem light_loop (l : List S31) (hl : l.length ≤ 60) : ∀ (d i : Nat), i + d = l.length → (∀ j, j < i → (rd_T31 l (j : Int)).f0.size ≤ 100 ∧ (rd_T31 l (j : Int)).f1.length ≤ 100) →
    ∃ b, Ends (fun k => carlingref21_Light.l0 k l i) b ∧ (b = true → ∀ j, j < l.length → (rd_T31 l (j : Int)).f0.size ≤ 100 ∧ (rd_T31 l (j : Int)).f1.length ≤ 100)
  | 0, i, h, hb => by
    obtain rfl : i = l.length := by omega
    exact ⟨true, Ends.succ (by simp only [carlingref21_Light.l0]; exact Ends.neg (by omega) (Ends.const _)), fun _ => hb⟩
  | d + 1, i, h, hb => by
    by_cases h1 : ((rd_T31 l (i : Int)).f0.size : Int) > 100
    · exact ⟨false, Ends.succ (by simp only [carlingref21_Light.l0]; exact Ends.pos (by omega) (Ends.pos (by omega) (Ends.pos h1 (Ends.const _)))), fun h => by cases h⟩
    · by_cases h2 : ((rd_T31 l (i : Int)).f1.length : Int) > 100
      · exact ⟨false, Ends.succ (by simp only [carlingref21_Light.l0]; exact Ends.pos (by omega) (Ends.pos (by omega) (Ends.neg h1 (Ends.pos h2 (Ends.const _))))), fun h => by cases h⟩
      · obtain ⟨b, e1, e2⟩ := light_loop l hl d (i + 1) (by omega) (fun j hj => by
          by_cases e : j = i
          · subst e; omega
          · exact hb j (by omega))
        refine ⟨b, Ends.succ (by simp only [carlingref21_Light.l0]; refine Ends.pos (by omega) (Ends.pos (by omega) (Ends.neg h1 (Ends.neg h2 ?_))); rw [wrap_succ (by omega)]; exact e1), e2⟩
theorem light_ends (l : List S31) : ∃ b, Ends (fun k => carlingref21_Light.f k l) b ∧ (b = true → fewJ l ∧ l.length ≤ 60) := by
  by_cases h : (l.length : Int) > 60
  · exact ⟨false, Ends.pos h (Ends.const _), fun h => by cases h⟩
  · obtain ⟨b, e1, e2⟩ := light_loop l (by omega) l.length 0 (by omega) (fun j hj => absurd hj (Nat.not_lt_zero _))
    refine ⟨b, Ends.neg h e1, fun hb => ⟨⟨by omega, fun x hx => ?_⟩, by omega⟩⟩
    obtain ⟨j, hj, rfl⟩ := List.mem_iff_getElem.1 hx
    have := e2 hb j hj
    have e : rd_T31 l (j : Int) = l[j] := by simp [rd_T31, hj]
    rw [e] at this
    omega
theorem go_len (l : List S31) : ∀ (k : Nat) (done : List Bool) (out : List Int), (orderGo l k done out).length ≤ out.length + k
  | 0, _, out => Nat.le_refl _
  | k + 1, done, out => by
    unfold orderGo
    split
    · omega
    · have := go_len l k (done.set (bestTo l (readyTo l done l.length) (readyTo l done l.length).length).toNat true) (out ++ [bestTo l (readyTo l done l.length) (readyTo l done l.length).length])
      rw [List.length_append, List.length_singleton] at this
      omega
theorem orderOf_len (l : List S31) : (orderOf l).1.length ≤ l.length + 1 := by
  have := go_len l (l.length + 1) (List.replicate l.length false) []
  unfold orderOf
  split
  · exact Nat.zero_le _
  · split
    · exact Nat.zero_le _
    · split
      · exact Nat.zero_le _
      · simpa using this
theorem less_ab (a b : UInt8) (h : (decide (a < b)) = false) : Op.bytesLess (ByteArray.mk #[a]).toList (ByteArray.mk #[b]).toList = false := by
  rw [ByteArray.toList_eq, ByteArray.toList_eq]; simp [Op.bytesLess]; simpa using h
def three : List S31 := [⟨⟨#[97]⟩, [1]⟩, ⟨⟨#[98]⟩, []⟩, ⟨⟨#[99]⟩, [1]⟩]
theorem step3 (done : List Bool) (r : List Int) (h : readyTo three done 3 = r) : readyTo three done 3 = r := h
theorem order3 : orderOf three = ([1, 0, 2], 0) := by
  have hb : badTo three three.length = false := by decide
  have ht : twiceTo three three.length = false := by decide
  have r1 : readyTo three [false, false, false] 3 = [1] := by decide
  have r2 : readyTo three [false, true, false] 3 = [0, 2] := by decide
  have r3 : readyTo three [true, true, false] 3 = [2] := by decide
  have r4 : readyTo three [true, true, true] 3 = [] := by decide
  have hl : Op.bytesLess ((rd_T31 three 2).f0).toList ((rd_T31 three 0).f0).toList = false := less_ab 99 97 (by decide)
  have b1 : bestTo three [1] 1 = 1 := by decide
  have b3 : bestTo three [2] 1 = 2 := by decide
  have b2 : bestTo three [0, 2] 2 = 0 := by
    show (if bestTo three [0, 2] 1 < 0 then _ else if Op.bytesLess ((rd_T31 three 2).f0).toList ((rd_T31 three (bestTo three [0, 2] 1)).f0).toList = true then _ else _) = _
    rw [show bestTo three [0, 2] 1 = 0 from by decide, if_neg (by decide), hl, if_neg (by decide)]
  have g : orderGo three 4 [false, false, false] [] = [1, 0, 2] := by
    unfold orderGo
    simp only [show three.length = 3 from rfl, r1, List.length_cons, List.length_nil, b1]
    rw [if_neg (by decide)]
    unfold orderGo
    simp only [show three.length = 3 from rfl, show List.set [false, false, false] (Int.toNat 1) true = [false, true, false] from rfl, r2, List.length_cons, List.length_nil, b2]
    rw [if_neg (by decide)]
    unfold orderGo
    simp only [show three.length = 3 from rfl, show List.set [false, true, false] (Int.toNat 0) true = [true, true, false] from rfl, r3, List.length_cons, List.length_nil, b3]
    rw [if_neg (by decide)]
    unfold orderGo
    simp only [show three.length = 3 from rfl, show List.set [true, true, false] (Int.toNat 2) true = [true, true, true] from rfl, r4, List.length_cons, List.length_nil]
    rfl
  unfold orderOf
  rw [hb, ht]
  have g' : orderGo three (three.length + 1) (List.replicate three.length false) [] = [1, 0, 2] := g
  rw [g']
  rfl
theorem awake_eq : carlinglaw21_awake.f = some true := by
  have h : graph_Order.f three = some ([1, 0, 2], 0) := by
    unfold graph_Order.f
    rw [if_pos (by decide), order3]
  unfold carlinglaw21_awake.f
  show (graph_Order.f three).bind _ = _
  rw [h]
  rfl
end Go.Proofs.Ytgjlgdohlmpnbaa.Pure
