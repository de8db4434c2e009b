/- How great nodes are: the document's Size, and what is written at most. Conditions: as each states. -/
import Derived.Test.YtciojbdkoojlhaaPx19
import Derived.Test.YtciojbdkoojlhaaB1
namespace Go.Proofs.Ytciojbdkoojlhaa.P
set_option linter.unusedVariables false
open Go.RowKit Go.Proofs.YtciojbdkoojlhaaW.PrintWords Go.Proofs.YtciojbdkoojlhaaW.PrintLast Go.Proofs.YtciojbdkoojlhaaW.PrintMore
mutual
/-- a node's weight -/
def wsm : S30 → Nat
  | ⟨_, b, c, _⟩ => 1 + min b.size 100000 + wsmL c
def wsmL : List S30 → Nat
  | [] => 0
  | n :: r => wsm n + wsmL r
end
theorem wsm_eq (n : S30) : wsm n = 1 + min n.f1.size 100000 + wsmL n.f2 := by cases n; simp [wsm]
mutual
theorem cnt_wsm : ∀ n, cnt n ≤ wsm n
  | ⟨a, b, c, d⟩ => by
    have := cnt_wsmL c
    simp only [cnt, wsm]
    omega
theorem cnt_wsmL : ∀ l, cntL l ≤ wsmL l
  | [] => Nat.le_refl _
  | n :: r => by
    have := cnt_wsm n
    have := cnt_wsmL r
    simp only [cntL, wsmL]
    omega
end
theorem wtTo_take (wn : S30 → Nat) (l : List S30) : ∀ i, i ≤ l.length → wtTo wn l i = ((l.take i).map wn).sum
  | 0, _ => by simp [wtTo]
  | i + 1, h => by
    have hlt : i < l.length := h
    simp only [wtTo]
    rw [wtTo_take wn l i (by omega), List.take_succ_eq_append_getElem hlt, rd_at hlt, List.map_append, List.sum_append]
    simp only [List.map_cons, List.map_nil, List.sum_cons, List.sum_nil, Nat.add_zero]
theorem wtTo_sum (wn : S30 → Nat) (l : List S30) : wtTo wn l l.length = (l.map wn).sum := by
  rw [wtTo_take wn l l.length (Nat.le_refl _), List.take_length]
theorem sum_le {wn : S30 → Nat} : ∀ (l : List S30), (∀ n ∈ l, wn n ≤ 3 * wsm n) → (l.map wn).sum ≤ 3 * wsmL l
  | [], _ => Nat.zero_le _
  | n :: r, h => by
    have h1 := h n List.mem_cons_self
    have h2 := sum_le r (fun m hm => h m (List.mem_cons_of_mem _ hm))
    simp only [List.map_cons, List.sum_cons, wsmL]
    omega
theorem wsm_mem {l : List S30} {n : S30} (h : n ∈ l) : wsm n ≤ wsmL l := by
  induction l with
  | nil => cases h
  | cons m r ih =>
    simp only [wsmL]
    rcases List.mem_cons.1 h with rfl | h
    · omega
    · have := ih h; omega
theorem wt_le : ∀ (r : Nat) (l : List S30), wsmL l < 100000 → wtR r l ≤ 3 * wsmL l
  | 0, l, hl => by
    rw [wtR_eq, wtTo_sum]
    refine sum_le l (fun n hn => ?_)
    have h1 := wsm_mem hn
    rw [wsm_eq] at h1 ⊢
    simp only [wnR]
    omega
  | r + 1, l, hl => by
    rw [wtR_eq, wtTo_sum]
    refine sum_le l (fun n hn => ?_)
    have h1 := wsm_mem hn
    rw [wsm_eq] at h1 ⊢
    have h2 := wt_le r n.f2 (by omega)
    simp only [wnR]
    omega
theorem wrap_mid {x : Int} (h1 : -900000 ≤ x) (h2 : x ≤ 900000) : wrap64 x = x := by unfold wrap64; omega
/-- no more than this is answered -/
def topOf (most : Int) : Int := if most < 0 then 0 else most + 100001
set_option maxHeartbeats 4000000 in
theorem size_ev : ∀ (N : Nat) (l : List S30) (most : Int) (deep : Nat), cntL l ≤ N → most ≤ 3000 → -200000 ≤ most → deep ≤ 41 →
    ∃ r : Int, Ev (fun k => carlingref02_Size.f k l most (deep : Int)) r ∧ 0 ≤ r ∧ r ≤ topOf most ∧ (r ≤ most → (wsmL l : Int) ≤ r)
  | N, l, most, deep, hN, hm1, hm2, hd => by
    have key : ∀ d i (n : Int), d + i = l.length → (i : Int) ≤ n → n ≤ topOf most →
        ∃ r : Int, Ev (fun k => carlingref02_Size.l0 k l most (deep : Int) n (i : Int)) r ∧ n ≤ r ∧ r ≤ topOf most ∧ (r ≤ most → n + (wsmL (l.drop i) : Int) ≤ r) := by
      intro d
      induction d with
      | zero =>
        intro i n hi h1 h2
        refine ⟨n, ?_, Int.le_refl _, h2, fun _ => by rw [List.drop_eq_nil_of_le (by omega)]; simp [wsmL]⟩
        refine Ev.step (f := fun k => carlingref02_Size.j1 k l most (deep : Int) n (i : Int) false) (fun k => ?_) ?_
        · simp only [carlingref02_Size.l0]
          rw [if_neg (by omega)]
        · refine Ev.step (f := fun k => some n) (fun k => ?_) (Ev.now _)
          simp only [carlingref02_Size.j1]
          rfl
      | succ d ih =>
        intro i n hi h1 h2
        have hlt : i < l.length := by omega
        have hl0 : ∀ k, carlingref02_Size.l0 (k + 1) l most (deep : Int) n (i : Int) = carlingref02_Size.j1 k l most (deep : Int) n (i : Int) (decide (n ≤ most)) := fun k => by
          simp only [carlingref02_Size.l0]
          rw [if_pos (by omega)]
        by_cases hn : n ≤ most
        · rw [decide_eq_true hn] at hl0
          by_cases h40 : deep = 41
          · refine ⟨most + 1, Ev.step hl0 ?_, by omega, by unfold topOf; split <;> omega, fun h => by omega⟩
            refine Ev.step (f := fun k => some (most + 1)) (fun k => ?_) (Ev.now _)
            simp only [carlingref02_Size.j1]
            rw [if_true, if_pos (by omega), if_pos (by omega), if_pos (by omega)]
            rw [wrap_mid (by omega) (by omega)]
          · obtain ⟨nd, hnd⟩ : ∃ nd, nd = rd_T30 l (i : Int) := ⟨_, rfl⟩
            have hrd := rd_at hlt
            have hc := cnt_at hlt
            rw [← hrd, ← hnd] at hc
            have hmn : mn (nd.f1.size : Int) 100000 = ((min nd.f1.size 100000 : Nat) : Int) := by unfold mn; split <;> omega
            have hmb : min nd.f1.size 100000 ≤ 100000 := Nat.min_le_right _ _
            obtain ⟨mi, hmi⟩ : ∃ mi, mi = min nd.f1.size 100000 := ⟨_, rfl⟩
            rw [← hmi] at hmn hmb
            have hcl : cntL nd.f2 < N := by omega
            have htop : topOf most = most + 100001 := by unfold topOf; rw [if_neg (by omega)]
            obtain ⟨r', hE, hr0, hr1, hr2⟩ := size_ev (cntL nd.f2) nd.f2 (most - (n + 1 + (mi : Int))) (deep + 1) (Nat.le_refl _) (by omega) (by omega) (by omega)
            have hnew : n + 1 + (mi : Int) + r' ≤ topOf most := by
              rw [htop]
              unfold topOf at hr1
              split at hr1 <;> omega
            obtain ⟨r, hE2, k1, k2, k3⟩ := ih (i + 1) (n + 1 + (mi : Int) + r') (by omega) (by omega) hnew
            refine ⟨r, Ev.step hl0 ?_, by omega, k2, fun h => ?_⟩
            · have hi1 : (0 : Int) ≤ (i : Int) := by omega
              have hi2 : (i : Int) < (l.length : Int) := by omega
              have hi3 : ¬ ((deep : Int) > 40) := by omega
              have w1 : wrap64 (n + 1) = n + 1 := wrap_mid (by omega) (by omega)
              have w2 : wrap64 (n + 1 + (mi : Int)) = n + 1 + (mi : Int) := wrap_mid (by omega) (by omega)
              have w3 : wrap64 (most - (n + 1 + (mi : Int))) = most - (n + 1 + (mi : Int)) := wrap_mid (by omega) (by omega)
              have w4 : wrap64 (n + 1 + (mi : Int) + r') = n + 1 + (mi : Int) + r' := wrap_mid (by omega) (by rw [htop] at hnew; omega)
              have w5 : wrap64 ((deep : Int) + 1) = ((deep + 1 : Nat) : Int) := wrap_at (by omega)
              have w6 : wrap64 ((i : Int) + 1) = ((i + 1 : Nat) : Int) := wrap_at (by omega)
              refine Ev.step (f := fun k => (carlingref02_Size.f k nd.f2 (most - (n + 1 + (mi : Int))) ((deep + 1 : Nat) : Int)).bind fun t => carlingref02_Size.l0 k l most (deep : Int) (wrap64 (n + 1 + (mi : Int) + t)) ((i + 1 : Nat) : Int)) (fun k => ?_) ?_
              · simp only [carlingref02_Size.j1, ← hnd, hmn, w1, w2, w3, w5, w6]
                rw [if_true, if_pos hi1, if_pos hi2, if_neg hi3]
              · refine Ev.bind hE ?_
                simp only [w4]
                exact hE2
            · have h3 := k3 h
              have h4 := hr2 (by omega)
              rw [List.drop_eq_getElem_cons hlt, ← hrd, ← hnd]
              simp only [wsmL]
              rw [wsm_eq, ← hmi]
              omega
        · rw [decide_eq_false hn] at hl0
          refine ⟨n, Ev.step hl0 ?_, Int.le_refl _, h2, fun h => absurd h hn⟩
          refine Ev.step (f := fun k => some n) (fun k => ?_) (Ev.now _)
          simp only [carlingref02_Size.j1]
          rfl
    obtain ⟨r, hE, h1, h2, h3⟩ := key l.length 0 0 rfl (by simp) (by unfold topOf; split <;> omega)
    refine ⟨r, Ev.step (f := fun k => carlingref02_Size.l0 k l most (deep : Int) 0 0) (fun k => ?_) hE, h1, h2, fun h => ?_⟩
    · simp only [carlingref02_Size.f]
    · have := h3 h
      rw [List.drop_zero] at this
      omega
termination_by N => N
end Go.Proofs.Ytciojbdkoojlhaa.P
