/- Nodes are the same as they are. Conditions: how many they are. -/
import Derived.Test.YtciojbdkoojlhaaB1
import Derived.Test.YtciojbdkoojlhaaPx17
namespace Go.Proofs.Ytciojbdkoojlhaa.P
set_option linter.unusedVariables false
open Go.RowKit Go.Proofs.YtciojbdkoojlhaaW.PrintWords Go.Proofs.YtciojbdkoojlhaaW.PrintLast Go.Proofs.YtciojbdkoojlhaaW.PrintMore
/-- Nodes are the same as they are. -/
theorem same_ev : ∀ (N : Nat) (l : List S30), cntL l ≤ N → N ≤ 1099511627776 → Ev (fun k => carlingref02_Same.f k l l) true
  | N, l, hN, hB => by
    have hlc := cntL_len l
    have key : ∀ d i, d + i = l.length → Ev (fun k => carlingref02_Same.l0 k l l (i : Int)) true := by
      intro d
      induction d with
      | zero =>
        intro i hi
        refine Ev.step (f := fun k => some true) (fun k => ?_) (Ev.now true)
        simp only [carlingref02_Same.l0]
        rw [if_neg (by omega)]
      | succ d ih =>
        intro i hi
        have hlt : i < l.length := by omega
        have hc : cntL (rd_T30 l (i : Int)).f2 < N := by rw [rd_at hlt]; have := cnt_at hlt; omega
        have hsub := same_ev (cntL (rd_T30 l (i : Int)).f2) _ (Nat.le_refl _) (by omega)
        have hn := ih (i + 1) (by omega)
        refine Ev.step (f := fun k => (carlingref02_Same.f k (rd_T30 l (i : Int)).f2 (rd_T30 l (i : Int)).f2).bind fun t => if t = true then carlingref02_Same.l0 k l l (wrap64 ((i : Int) + 1)) else some false) (fun k => ?_) ?_
        · conv => lhs; unfold carlingref02_Same.l0
          rw [if_pos (by omega), if_pos (by omega), if_pos (by omega), if_neg (by simp), if_pos rfl, if_pos rfl]
        · refine Ev.bind hsub ?_
          rw [wrap_at (by omega)]
          exact hn
    refine Ev.step (f := fun k => carlingref02_Same.l0 k l l ((0 : Nat) : Int)) (fun k => ?_) (key l.length 0 rfl)
    conv => lhs; unfold carlingref02_Same.f
    rw [if_pos rfl]
    rfl
termination_by N => N
end Go.Proofs.Ytciojbdkoojlhaa.P
