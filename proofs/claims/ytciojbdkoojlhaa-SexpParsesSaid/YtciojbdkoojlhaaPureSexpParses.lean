/- The nodes of any text, or what is wrong: the law, in plain Lean. Conditions: the text's length. -/
import Derived.Test.YtciojbdkoojlhaaPx18
import Derived.Test.YtciojbdkoojlhaaB3
import Derived.Test.YtciojbdkoojlhaaB4
namespace Go.Proofs.Ytciojbdkoojlhaa.Pure
set_option linter.unusedVariables false
open Go.RowKit Go.Proofs.Ytciojbdkoojlhaa.P Go.Proofs.YtciojbdkoojlhaaW.PrintWords Go.Proofs.YtciojbdkoojlhaaW.PrintLast
theorem finX_eq {s : ByteArray} (h : s.size ≤ 16384) : parseM s = finX s := by
  unfold parseM finX
  rw [if_neg (by omega)]
theorem finX_cnt (a0 : ByteArray) (hsz : a0.size ≤ 16384) : cntL (finX a0).1 ≤ 16384 := by
  unfold finX
  cases hr : runM (.go P.start) (bytesL a0) with
  | bad e a => exact Nat.zero_le _
  | go s =>
    simp only [finM]
    split
    · have h1 := cnt_run hr
      have h2 := run_pos _ _ _ hr
      rw [bytesL_len] at h2
      have h3 : P.start.pos = 0 := rfl
      show cntL (flushT s) ≤ _
      rw [cnt_flush]
      unfold CntOk at h1
      omega
    · exact Nat.zero_le _
theorem ref_parse (a0 : ByteArray) (hsz : a0.size ≤ 16384) : Ev (fun k => carlingref02_Parse.f k a0) (finX a0) := by
  have hx : (bytesL a0).length = a0.size := bytesL_len a0
  obtain ⟨R, hN, hE⟩ := nodes_ev a0 hsz (bytesL a0).length P.start (okAt_start _) (by show 0 + _ = _; omega) rfl (.inl rfl)
  have hE' : Ev (fun k => carlingref02_nodes.f k a0 0 0) R := by
    refine Ev.step (f := fun k => carlingref02_nodes.l0 k a0 0 0 []) (fun k => ?_) hE
    simp only [carlingref02_nodes.f]
  refine Ev.congr (f := fun k => (carlingref02_nodes.f k a0 0 0).bind fun bt170 => (if bt170.2.1 = 0 then (some (bt170.1, 0, (-1))) else (some (([] : List (S30)), bt170.2.1, bt170.2.2)))) (fun k => ?_) (Ev.bind hE' ?_)
  · unfold carlingref02_Parse.f
    rw [if_neg (by omega)]
  · rcases hN with ⟨h1, h2, h3⟩ | ⟨s', h1, h2, h3, h4, h5, h6⟩
    · simp only [if_neg h1]
      have : (([] : List S30), R.2.1, R.2.2) = R := by rw [← h2]
      rw [this, h3]
      exact Ev.now _
    · have hk : s'.stk = [] := h4
      have hf : finX a0 = (flushT s', 0, -1) := by
        unfold finX
        rw [run_end h1 (h5 rfl)]
        simp only [finM]
        rw [if_pos hk]
      rw [h3, hf]
      simp only [if_true]
      exact Ev.now _
theorem SexpParses : carlinglaw02_SexpParses.Pure := by
  intro a0 hs0
  refine Ev.rounds ?_
  unfold carlinglaw02_SexpParses.f
  rw [awake_eq]
  simp only [Option.bind_some]
  by_cases hl : (a0.size : Int) > 17000
  · simp only [if_pos hl]
    exact Ev.now _
  simp only [if_neg hl]
  obtain ⟨F, hp, hr, hc⟩ : ∃ F, sexp_Parse.f a0 = some F ∧ Ev (fun k => carlingref02_Parse.f k a0) F ∧ cntL F.1 ≤ 1099511627776 := by
    by_cases hb : a0.size ≤ 16384
    · refine ⟨finX a0, ?_, ref_parse a0 hb, Nat.le_trans (finX_cnt a0 hb) (by decide)⟩
      unfold sexp_Parse.f
      rw [if_pos (by omega), finX_eq hb]
    · refine ⟨([], 5, 0), ?_, ?_, by decide⟩
      · unfold sexp_Parse.f parseM
        rw [if_pos (by omega), if_pos (by omega)]
      · refine Ev.congr (f := fun k => some ([], 5, 0)) (fun k => ?_) (Ev.now _)
        unfold carlingref02_Parse.f
        rw [if_pos (by omega)]
  simp only [hp, Option.bind_some]
  refine Ev.bind hr (Ev.bind (same_ev _ F.1 (Nat.le_refl _) hc) ?_)
  simp only [if_true, beq_self_eq_true]
  exact Ev.now _
end Go.Proofs.Ytciojbdkoojlhaa.Pure
