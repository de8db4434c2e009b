/- sexp: nodes but for places, how many there are, the parser's cases. Conditions: as each states. -/
import Derived.Test.YtciojbdkoojlhaaPx8
import Derived.Test.YtciojbdkoojlhaaPx9
import Derived.Test.YtciojbdkoojlhaaG2
import Derived.Test.YtciojbdkoojlhaaG3
namespace Go.Proofs.Ytciojbdkoojlhaa.P
set_option linter.unusedVariables false
open Go.RowKit Go.Proofs.YtciojbdkoojlhaaW.PrintWords Go.Proofs.YtciojbdkoojlhaaW.PrintLast Go.Proofs.YtciojbdkoojlhaaW.PrintMore
theorem awake_eq : carlinglaw02_awake.f = some true := by decide +kernel
mutual
/-- a node without its places -/
def er : S30 → S30
  | ⟨a, b, c, _⟩ => ⟨a, b, erL c, 0⟩
def erL : List S30 → List S30
  | [] => []
  | n :: r => er n :: erL r
end
mutual
/-- how many nodes there are -/
def cnt : S30 → Nat
  | ⟨_, _, c, _⟩ => 1 + cntL c
def cntL : List S30 → Nat
  | [] => 0
  | n :: r => cnt n + cntL r
end
theorem erL_map : ∀ l, erL l = l.map er
  | [] => by simp [erL]
  | n :: r => by simp [erL, erL_map r]
theorem erL_append (a b : List S30) : erL (a ++ b) = erL a ++ erL b := by simp [erL_map]
theorem cntL_append : ∀ a b, cntL (a ++ b) = cntL a + cntL b
  | [], b => by simp [cntL]
  | n :: r, b => by simp only [List.cons_append, cntL, cntL_append r b]; omega
theorem cnt_eq (n : S30) : cnt n = 1 + cntL n.f2 := by cases n; simp [cnt]
theorem er_f0 (n : S30) : (er n).f0 = n.f0 := by cases n; simp [er]
theorem er_f1 (n : S30) : (er n).f1 = n.f1 := by cases n; simp [er]
theorem er_f2 (n : S30) : (er n).f2 = erL n.f2 := by cases n; simp [er]
theorem erL_len (l : List S30) : (erL l).length = l.length := by rw [erL_map, List.length_map]
theorem cntL_len : ∀ l, l.length ≤ cntL l
  | [] => Nat.zero_le _
  | n :: r => by
    have := cntL_len r
    have := cnt_eq n
    simp only [List.length_cons, cntL]
    omega
theorem rd_at {l : List S30} {i : Nat} (h : i < l.length) : rd_T30 l (i : Int) = l[i] := by
  unfold rd_T30
  rw [Int.toNat_natCast, List.getD_eq_getElem?_getD, List.getElem?_eq_getElem h]
  rfl
theorem cnt_at : ∀ {l : List S30} {i : Nat} (h : i < l.length), 1 + cntL (l[i]).f2 ≤ cntL l
  | n :: r, 0, h => by
    have := cnt_eq n
    simp only [List.getElem_cons_zero, cntL]
    omega
  | n :: r, i + 1, h => by
    have := cnt_at (l := r) (i := i) (by simpa using h)
    simp only [List.getElem_cons_succ, cntL]
    omega
theorem wrap_at {i : Nat} (h : i ≤ 1099511627776) : wrap64 ((i : Int) + 1) = ((i + 1 : Nat) : Int) := by unfold wrap64; omega
/-- Nodes that are the same but for places are told alike. -/
theorem alike_ev : ∀ (N : Nat) (l m : List S30), cntL l ≤ N → N ≤ 1099511627776 → erL l = erL m → Ev (fun k => carlingref02_Alike.f k l m) true
  | N, l, m, hN, hB, he => by
    have hl : l.length = m.length := by rw [← erL_len l, he, erL_len]
    have hlc := cntL_len l
    have key : ∀ d i, d + i = l.length → Ev (fun k => carlingref02_Alike.l0 k l m (i : Int)) true := by
      intro d
      induction d with
      | zero =>
        intro i hi
        refine Ev.step (f := fun k => some true) (fun k => ?_) (Ev.now true)
        simp only [carlingref02_Alike.l0]
        rw [if_neg (by omega)]
      | succ d ih =>
        intro i hi
        have hlt : i < l.length := by omega
        have hlt' : i < m.length := by omega
        have hei : er l[i] = er m[i] := by
          have h1 : (erL l)[i]? = (erL m)[i]? := by rw [he]
          rw [erL_map, erL_map, List.getElem?_map, List.getElem?_map, List.getElem?_eq_getElem hlt, List.getElem?_eq_getElem hlt'] at h1
          simpa using h1
        have h0 : (rd_T30 l (i : Int)).f0 = (rd_T30 m (i : Int)).f0 := by rw [rd_at hlt, rd_at hlt', ← er_f0, hei, er_f0]
        have h1 : (rd_T30 l (i : Int)).f1 = (rd_T30 m (i : Int)).f1 := by rw [rd_at hlt, rd_at hlt', ← er_f1, hei, er_f1]
        have h2 : erL (rd_T30 l (i : Int)).f2 = erL (rd_T30 m (i : Int)).f2 := by rw [rd_at hlt, rd_at hlt', ← er_f2, hei, er_f2]
        have hc : cntL (rd_T30 l (i : Int)).f2 < N := by rw [rd_at hlt]; have := cnt_at hlt; omega
        have hsub := alike_ev (cntL (rd_T30 l (i : Int)).f2) _ _ (Nat.le_refl _) (by omega) h2
        have hn := ih (i + 1) (by omega)
        refine Ev.step (f := fun k => (carlingref02_Alike.f k (rd_T30 l (i : Int)).f2 (rd_T30 m (i : Int)).f2).bind fun t => if t = true then carlingref02_Alike.l0 k l m (wrap64 ((i : Int) + 1)) else some false) (fun k => ?_) ?_
        · simp only [carlingref02_Alike.l0]
          rw [if_pos (by omega), if_pos (by omega), if_pos (by omega), if_neg (by rw [h0]; simp), if_pos (by rw [h1])]
        · refine Ev.bind hsub ?_
          rw [wrap_at (by omega)]
          exact hn
    refine Ev.step (f := fun k => carlingref02_Alike.l0 k l m ((0 : Nat) : Int)) (fun k => ?_) (key l.length 0 rfl)
    simp only [carlingref02_Alike.f]
    rw [if_pos (by omega)]
    rfl
termination_by N => N
end Go.Proofs.Ytciojbdkoojlhaa.P
