/- Written by a program of this session (gp.py), which drives the printer of the kit: contracts of Go functions over the translation, and the rows of laws: each says what its theorems state. Conditions: as each theorem states them. -/
import Derived.Test.YtfneceeaifnhkaaPx0
import Derived.Test.YtfneceeaifnhkaaG1
namespace Go.Proofs.Ytfneceeaifnhkaa.P
open Go.RowKit Go.Proofs.YtfneceeaifnhkaaW.PrintWords Go.Proofs.YtfneceeaifnhkaaW.PrintLast Go.Proofs.YtfneceeaifnhkaaW.PrintMore
attribute [local go_sem] max2_int min2_int max_two min_two max_three min_three max_four min_four   -- for this text's walks alone
set_option linter.unusedVariables false
set_option linter.unusedSimpArgs false

/-! ### word_Sign: function 13 -/
def word_Sign.f (a0 : Int) : Option (ByteArray × Bool) := if a0 < 1 then (some ((⟨#[]⟩ : ByteArray), false)) else (if a0 > 10 then (some ((⟨#[]⟩ : ByteArray), false)) else ((word_signs.f).bind fun t103 => (if 0 ≤ a0 then (if a0 < (t103.length : Int) then (some (rdOf ByteArray.empty t103 a0, true)) else (none)) else (none))))
set_option maxHeartbeats 8000000 in
set_option maxRecDepth 100000 in
theorem word_Sign.calls (a0 : Int) (r1 : ByteArray) (r2 : Bool) (w : World) (h : word_Sign.f a0 = some (r1, r2)) :
    Calls Try.prog 13 #[.int .i64 a0] w fun e w' => e = .returned (.tuple #[.string r1, .bool r2]) ∧ Below w.heap.size w w' := by
  have HB := Aside0.mk (Below.refl w.heap.size w)
  have H : (if a0 < 1 then (some ((⟨#[]⟩ : ByteArray), false)) else (if a0 > 10 then (some ((⟨#[]⟩ : ByteArray), false)) else ((word_signs.f).bind fun t103 => (if 0 ≤ a0 then (if a0 < (t103.length : Int) then (some (rdOf ByteArray.empty t103 a0, true)) else (none)) else (none))))) = some (r1, r2) := h
  clear h
  by_cases c2 : a0 < 1
  · rw [if_pos c2] at H
    have c2b0 : decide (a0 < 1) = true := decide_eq_true c2
    clear c2
    simp only [Option.some.injEq, Prod.mk.injEq] at H
    obtain ⟨rfl, rfl⟩ := H
    go_enter Try.func13, Try.ntmps13
    go_wp2
    go_ret2
    exact ⟨by first | rfl | (simp [errW_none, errW_some] <;> rfl) | (simp [*, errW_none, errW_some] <;> rfl), by repeat (first | (with_reducible first | exact HB.out | apply below_alloc | apply pw_below_drewN | apply below_drew1) | exact HB.out)⟩
  · rw [if_neg c2] at H
    have c2b0 : decide (a0 < 1) = false := decide_eq_false c2
    clear c2
    by_cases c3 : a0 > 10
    · rw [if_pos c3] at H
      have c3b0 : decide (10 < a0) = true := decide_eq_true c3
      clear c3
      simp only [Option.some.injEq, Prod.mk.injEq] at H
      obtain ⟨rfl, rfl⟩ := H
      go_enter Try.func13, Try.ntmps13
      go_wp2
      go_ret2
      exact ⟨by first | rfl | (simp [errW_none, errW_some] <;> rfl) | (simp [*, errW_none, errW_some] <;> rfl), by repeat (first | (with_reducible first | exact HB.out | apply below_alloc | apply pw_below_drewN | apply below_drew1) | exact HB.out)⟩
    · rw [if_neg c3] at H
      have c3b0 : decide (10 < a0) = false := decide_eq_false c3
      clear c3
      replace H := Option.bind_eq_some_iff.mp H
      obtain ⟨t103, A40, H⟩ := H
      replace H : (if 0 ≤ a0 then (if a0 < (t103.length : Int) then (some (rdOf ByteArray.empty t103 a0, true)) else (none)) else (none)) = some (r1, r2) := H
      have A4 := Aside0.mk A40
      clear A40
      by_cases c5 : 0 ≤ a0
      · rw [if_pos c5] at H
        have c5b0 : decide (0 ≤ a0) = true := decide_eq_true c5
        clear c5
        by_cases c6 : a0 < (t103.length : Int)
        · rw [if_pos c6] at H
          have c6b0 : decide (a0 < (t103.length : Int)) = true := decide_eq_true c6
          clear c6
          simp only [Option.some.injEq, Prod.mk.injEq] at H
          obtain ⟨rfl, rfl⟩ := H
          go_enter Try.func13, Try.ntmps13
          go_wp2_with (first | ((with_reducible refine gate_callee (f := 19) rfl ?_); refine goesL_ (some 10) rfl rfl Try.func19 (by kernel_rfl) rfl #[] rfl (by (try simp only [List.map_toArray, List.map_cons, List.map_nil]); first | done | rfl | (simp only [List.length_drop, List.length_take]; rfl)) ?_; (with_reducible refine (word_signs.calls  t103 _ A4.out).mono ?_); rintro e w7 ⟨v104, rfl, ho0, hb⟩; refine ⟨_, rfl, ?_⟩; have n0_ := Aside0.mk (Kd.V_lower (Kd.V_mono (ok' := fun k_ => True) ho0 (fun k_ hk_ => trivial)) (below_size (by repeat (first | (with_reducible first | exact HB.out | apply below_alloc | apply pw_below_drewN | apply below_drew1) | exact HB.out)))); have n1_ := Aside0.mk (below_step (by repeat (first | (with_reducible first | exact HB.out | apply below_alloc | apply pw_below_drewN | apply below_drew1) | exact HB.out)) hb); clear HB; have HO105 := n0_; have HB := n1_; clear n0_ n1_; (try clear hb); (try clear hb2); (try clear hk); (try clear hi); (try clear ho0); obtain ⟨Ao8, co8, eo8⟩ := Kd.V_slice HO105.out; subst eo8; have p106 : 0 ≤ (a0 : Int) := of_decide_eq_true (by first | (with_reducible assumption) | assumption); have q106 : a0 < (t103.length : Int) := of_decide_eq_true (by first | (with_reducible assumption) | assumption); obtain ⟨ad106, e106, hx106_0⟩ := Kd.at_string (Kd.V_reads' HO105.out).2.2 a0 p106 q106; cases e106; replace p106 := eq_true p106; replace q106 := eq_true q106))
          go_ret2
          exact ⟨by first | rfl | (simp [errW_none, errW_some] <;> rfl) | (simp [*, errW_none, errW_some] <;> rfl), by repeat (first | (with_reducible first | exact HB.out | apply below_alloc | apply pw_below_drewN | apply below_drew1) | exact HB.out)⟩
        · rw [if_neg c6] at H
          exact absurd H (by simp)
      · rw [if_neg c5] at H
        exact absurd H (by simp)

end Go.Proofs.Ytfneceeaifnhkaa.P
