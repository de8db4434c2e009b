/- Written by a program of this session (gp.py), which drives the printer of the kit: contracts of Go functions over the translation, and the rows of laws: each says what its theorems state. Conditions: as each theorem states them. -/
import Derived.Test.YtfneceeaifnhkaaPx0
import Derived.Test.YtfneceeaifnhkaaPx1
namespace Go.Proofs.Ytfneceeaifnhkaa.P
open Go.RowKit Go.Proofs.YtfneceeaifnhkaaW.PrintWords Go.Proofs.YtfneceeaifnhkaaW.PrintLast Go.Proofs.YtfneceeaifnhkaaW.PrintMore
attribute [local go_sem] max2_int min2_int max_two min_two max_three min_three max_four min_four   -- for this text's walks alone
set_option linter.unusedVariables false
set_option linter.unusedSimpArgs false

/-! ### word_Op: function 10 -/
def word_Op.f (a0 : Int) (a1 : Int) (a2 : Int) : Option (Int × Bool) := if a0 = 1 then (some ((a1 + a2) % 4294967296, true)) else (if a0 = 2 then (some ((a1 - a2) % 4294967296, true)) else (if a0 = 3 then (some ((a1 * a2) % 4294967296, true)) else (if a0 = 4 then (some (Go.bits .and .u32 a1 a2, true)) else (if a0 = 5 then (some (Go.bits .or .u32 a1 a2, true)) else (if a0 = 6 then (some (Go.bits .xor .u32 a1 a2, true)) else (if a0 = 7 then (if 0 ≤ (Int.tmod a2 32) then (some (shl .u32 a1 (Int.tmod a2 32), true)) else (none)) else (if a0 = 8 then (if 0 ≤ (Int.tmod a2 32) then (some (shr .u32 a1 (Int.tmod a2 32), true)) else (none)) else (if a0 = 9 then ((word_one.f (decide (a1 < a2))).bind fun t101 => (some (t101, true))) else (if a0 = 10 then ((word_one.f (a1 == a2)).bind fun t102 => (some (t102, true))) else (some (0, false)))))))))))
set_option maxHeartbeats 8000000 in
set_option maxRecDepth 100000 in
theorem word_Op.calls (a0 : Int) (a1 : Int) (a2 : Int) (r1 : Int) (r2 : Bool) (w : World) (h : word_Op.f a0 a1 a2 = some (r1, r2)) :
    Calls Try.prog 10 #[.int .i64 a0, .int .u32 a1, .int .u32 a2] w fun e w' => e = .returned (.tuple #[.int .u32 r1, .bool r2]) ∧ Drawn0 w w' := by
  have H : (if a0 = 1 then (some ((a1 + a2) % 4294967296, true)) else (if a0 = 2 then (some ((a1 - a2) % 4294967296, true)) else (if a0 = 3 then (some ((a1 * a2) % 4294967296, true)) else (if a0 = 4 then (some (Go.bits .and .u32 a1 a2, true)) else (if a0 = 5 then (some (Go.bits .or .u32 a1 a2, true)) else (if a0 = 6 then (some (Go.bits .xor .u32 a1 a2, true)) else (if a0 = 7 then (if 0 ≤ (Int.tmod a2 32) then (some (shl .u32 a1 (Int.tmod a2 32), true)) else (none)) else (if a0 = 8 then (if 0 ≤ (Int.tmod a2 32) then (some (shr .u32 a1 (Int.tmod a2 32), true)) else (none)) else (if a0 = 9 then ((word_one.f (decide (a1 < a2))).bind fun t101 => (some (t101, true))) else (if a0 = 10 then ((word_one.f (a1 == a2)).bind fun t102 => (some (t102, true))) else (some (0, false)))))))))))) = some (r1, r2) := h
  clear h
  by_cases c4 : a0 = 1
  · rw [if_pos c4] at H
    have c4b0 : (a0 == 1) = true := beq_iff_eq.mpr c4
    have c4b1 : (a0 != 1) = false := bne_eq_false_iff_eq.mpr c4
    clear c4
    simp only [Option.some.injEq, Prod.mk.injEq] at H
    obtain ⟨rfl, rfl⟩ := H
    go_enter Try.func10, Try.ntmps10
    go_wp2
    go_ret2
    exact ⟨by first | rfl | (simp; done) | (simp [*]; done), by repeat (first | exact Drawn0.refl _ | apply Drawn0.step)⟩
  · rw [if_neg c4] at H
    have c4b0 : (a0 == 1) = false := beq_eq_false_iff_ne.mpr c4
    have c4b1 : (a0 != 1) = true := bne_iff_ne.mpr c4
    by_cases c5 : a0 = 2
    · rw [if_pos c5] at H
      have c5b0 : (a0 == 2) = true := beq_iff_eq.mpr c5
      have c5b1 : (a0 != 2) = false := bne_eq_false_iff_eq.mpr c5
      clear c5
      simp only [Option.some.injEq, Prod.mk.injEq] at H
      obtain ⟨rfl, rfl⟩ := H
      go_enter Try.func10, Try.ntmps10
      go_wp2
      go_ret2
      exact ⟨by first | rfl | (simp; done) | (simp [*]; done), by repeat (first | exact Drawn0.refl _ | apply Drawn0.step)⟩
    · rw [if_neg c5] at H
      have c5b0 : (a0 == 2) = false := beq_eq_false_iff_ne.mpr c5
      have c5b1 : (a0 != 2) = true := bne_iff_ne.mpr c5
      by_cases c6 : a0 = 3
      · rw [if_pos c6] at H
        have c6b0 : (a0 == 3) = true := beq_iff_eq.mpr c6
        have c6b1 : (a0 != 3) = false := bne_eq_false_iff_eq.mpr c6
        clear c6
        simp only [Option.some.injEq, Prod.mk.injEq] at H
        obtain ⟨rfl, rfl⟩ := H
        go_enter Try.func10, Try.ntmps10
        go_wp2
        go_ret2
        exact ⟨by first | rfl | (simp; done) | (simp [*]; done), by repeat (first | exact Drawn0.refl _ | apply Drawn0.step)⟩
      · rw [if_neg c6] at H
        have c6b0 : (a0 == 3) = false := beq_eq_false_iff_ne.mpr c6
        have c6b1 : (a0 != 3) = true := bne_iff_ne.mpr c6
        by_cases c7 : a0 = 4
        · rw [if_pos c7] at H
          have c7b0 : (a0 == 4) = true := beq_iff_eq.mpr c7
          have c7b1 : (a0 != 4) = false := bne_eq_false_iff_eq.mpr c7
          clear c7
          simp only [Option.some.injEq, Prod.mk.injEq] at H
          obtain ⟨rfl, rfl⟩ := H
          go_enter Try.func10, Try.ntmps10
          go_wp2
          go_ret2
          exact ⟨by first | rfl | (simp; done) | (simp [*]; done), by repeat (first | exact Drawn0.refl _ | apply Drawn0.step)⟩
        · rw [if_neg c7] at H
          have c7b0 : (a0 == 4) = false := beq_eq_false_iff_ne.mpr c7
          have c7b1 : (a0 != 4) = true := bne_iff_ne.mpr c7
          by_cases c8 : a0 = 5
          · rw [if_pos c8] at H
            have c8b0 : (a0 == 5) = true := beq_iff_eq.mpr c8
            have c8b1 : (a0 != 5) = false := bne_eq_false_iff_eq.mpr c8
            clear c8
            simp only [Option.some.injEq, Prod.mk.injEq] at H
            obtain ⟨rfl, rfl⟩ := H
            go_enter Try.func10, Try.ntmps10
            go_wp2
            go_ret2
            exact ⟨by first | rfl | (simp; done) | (simp [*]; done), by repeat (first | exact Drawn0.refl _ | apply Drawn0.step)⟩
          · rw [if_neg c8] at H
            have c8b0 : (a0 == 5) = false := beq_eq_false_iff_ne.mpr c8
            have c8b1 : (a0 != 5) = true := bne_iff_ne.mpr c8
            by_cases c9 : a0 = 6
            · rw [if_pos c9] at H
              have c9b0 : (a0 == 6) = true := beq_iff_eq.mpr c9
              have c9b1 : (a0 != 6) = false := bne_eq_false_iff_eq.mpr c9
              clear c9
              simp only [Option.some.injEq, Prod.mk.injEq] at H
              obtain ⟨rfl, rfl⟩ := H
              go_enter Try.func10, Try.ntmps10
              go_wp2
              go_ret2
              exact ⟨by first | rfl | (simp; done) | (simp [*]; done), by repeat (first | exact Drawn0.refl _ | apply Drawn0.step)⟩
            · rw [if_neg c9] at H
              have c9b0 : (a0 == 6) = false := beq_eq_false_iff_ne.mpr c9
              have c9b1 : (a0 != 6) = true := bne_iff_ne.mpr c9
              by_cases c10 : a0 = 7
              · rw [if_pos c10] at H
                have c10b0 : (a0 == 7) = true := beq_iff_eq.mpr c10
                have c10b1 : (a0 != 7) = false := bne_eq_false_iff_eq.mpr c10
                clear c10
                obtain ⟨ji11, hji11⟩ : ∃ j_ : Int, (Int.tmod a2 32) = j_ := ⟨_, rfl⟩
                replace H : (if 0 ≤ (ji11) then (some (shl .u32 a1 (ji11), true)) else (none)) = some (r1, r2) := by first | (rw [hji11] at H; exact H) | (simp only [hji11] at H ⊢; exact H)
                by_cases c12 : 0 ≤ (ji11)
                · rw [if_pos c12] at H
                  have c12b0 := eq_true c12
                  have c12b1 : decide (0 ≤ (ji11)) = true := decide_eq_true c12
                  clear c12
                  obtain ⟨ji13, hji13⟩ : ∃ j_ : Int, (shl .u32 a1 (ji11)) = j_ := ⟨_, rfl⟩
                  replace H : (some (ji13, true)) = some (r1, r2) := by first | (rw [hji13] at H; exact H) | (simp only [hji13] at H ⊢; exact H)
                  have hji13_ : (IntKind.u32.wrap (a1 * 2 ^ min (ji11).toNat 32)) = ji13 := hji13
                  have hji13z : (ji11) ≤ 32 → (IntKind.u32.wrap (a1 * 2 ^ (ji11).toNat)) = ji13 := shl_small hji13
                  simp only [Option.some.injEq, Prod.mk.injEq] at H
                  obtain ⟨rfl, rfl⟩ := H
                  go_enter Try.func10, Try.ntmps10
                  go_wp2
                  go_ret2
                  exact ⟨by first | rfl | (simp; done) | (simp only [← hji11, ← hji13] <;> (first | rfl | simp)) | (simp [*]; done), by repeat (first | exact Drawn0.refl _ | apply Drawn0.step)⟩
                · rw [if_neg c12] at H
                  exact absurd H (by simp)
              · rw [if_neg c10] at H
                have c10b0 : (a0 == 7) = false := beq_eq_false_iff_ne.mpr c10
                have c10b1 : (a0 != 7) = true := bne_iff_ne.mpr c10
                by_cases c14 : a0 = 8
                · rw [if_pos c14] at H
                  have c14b0 : (a0 == 8) = true := beq_iff_eq.mpr c14
                  have c14b1 : (a0 != 8) = false := bne_eq_false_iff_eq.mpr c14
                  clear c14
                  obtain ⟨ji15, hji15⟩ : ∃ j_ : Int, (Int.tmod a2 32) = j_ := ⟨_, rfl⟩
                  replace H : (if 0 ≤ (ji15) then (some (shr .u32 a1 (ji15), true)) else (none)) = some (r1, r2) := by first | (rw [hji15] at H; exact H) | (simp only [hji15] at H ⊢; exact H)
                  by_cases c16 : 0 ≤ (ji15)
                  · rw [if_pos c16] at H
                    have c16b0 := eq_true c16
                    have c16b1 : decide (0 ≤ (ji15)) = true := decide_eq_true c16
                    clear c16
                    obtain ⟨ji17, hji17⟩ : ∃ j_ : Int, (shr .u32 a1 (ji15)) = j_ := ⟨_, rfl⟩
                    replace H : (some (ji17, true)) = some (r1, r2) := by first | (rw [hji17] at H; exact H) | (simp only [hji17] at H ⊢; exact H)
                    have hji17_ : (a1 / 2 ^ min (ji15).toNat 32) = ji17 := hji17
                    have hji17z : (ji15) ≤ 32 → (a1 / 2 ^ (ji15).toNat) = ji17 := shr_small hji17
                    simp only [Option.some.injEq, Prod.mk.injEq] at H
                    obtain ⟨rfl, rfl⟩ := H
                    go_enter Try.func10, Try.ntmps10
                    go_wp2
                    go_ret2
                    exact ⟨by first | rfl | (simp; done) | (simp only [← hji15, ← hji17] <;> (first | rfl | simp)) | (simp [*]; done), by repeat (first | exact Drawn0.refl _ | apply Drawn0.step)⟩
                  · rw [if_neg c16] at H
                    exact absurd H (by simp)
                · rw [if_neg c14] at H
                  have c14b0 : (a0 == 8) = false := beq_eq_false_iff_ne.mpr c14
                  have c14b1 : (a0 != 8) = true := bne_iff_ne.mpr c14
                  by_cases c18 : a0 = 9
                  · rw [if_pos c18] at H
                    have c18b0 : (a0 == 9) = true := beq_iff_eq.mpr c18
                    have c18b1 : (a0 != 9) = false := bne_eq_false_iff_eq.mpr c18
                    clear c18
                    replace H := Option.bind_eq_some_iff.mp H
                    obtain ⟨t101, A190, H⟩ := H
                    replace H : (some (t101, true)) = some (r1, r2) := H
                    have A19 := Aside0.mk A190
                    clear A190
                    simp only [Option.some.injEq, Prod.mk.injEq] at H
                    obtain ⟨rfl, rfl⟩ := H
                    go_enter Try.func10, Try.ntmps10
                    go_wp2_with (first | ((with_reducible refine gate_callee (f := 17) rfl ?_); refine goesL_ (some 56) rfl rfl Try.func17 (by kernel_rfl) rfl #[.bool (decide (a1 < a2))] rfl (by (try simp only [List.map_toArray, List.map_cons, List.map_nil]); first | done | rfl | (simp only [List.length_drop, List.length_take]; rfl)) ?_; (with_reducible refine (word_one.calls (decide (a1 < a2)) t101 _ A19.out).mono ?_); rintro e w' ⟨rfl, ⟨nd, rfl⟩⟩; refine ⟨_, rfl, ?_⟩))
                    go_ret2
                    exact ⟨by first | rfl | (simp; done) | (simp [*]; done), by repeat (first | exact Drawn0.refl _ | apply Drawn0.step)⟩
                  · rw [if_neg c18] at H
                    have c18b0 : (a0 == 9) = false := beq_eq_false_iff_ne.mpr c18
                    have c18b1 : (a0 != 9) = true := bne_iff_ne.mpr c18
                    by_cases c20 : a0 = 10
                    · rw [if_pos c20] at H
                      have c20b0 : (a0 == 10) = true := beq_iff_eq.mpr c20
                      have c20b1 : (a0 != 10) = false := bne_eq_false_iff_eq.mpr c20
                      clear c20
                      replace H := Option.bind_eq_some_iff.mp H
                      obtain ⟨t102, A210, H⟩ := H
                      replace H : (some (t102, true)) = some (r1, r2) := H
                      have A21 := Aside0.mk A210
                      clear A210
                      simp only [Option.some.injEq, Prod.mk.injEq] at H
                      obtain ⟨rfl, rfl⟩ := H
                      go_enter Try.func10, Try.ntmps10
                      go_wp2_with (first | ((with_reducible refine gate_callee (f := 17) rfl ?_); refine goesL_ (some 62) rfl rfl Try.func17 (by kernel_rfl) rfl #[.bool (a1 == a2)] rfl (by (try simp only [List.map_toArray, List.map_cons, List.map_nil]); first | done | rfl | (simp only [List.length_drop, List.length_take]; rfl)) ?_; (with_reducible refine (word_one.calls (a1 == a2) t102 _ A21.out).mono ?_); rintro e w' ⟨rfl, ⟨nd, rfl⟩⟩; refine ⟨_, rfl, ?_⟩))
                      go_ret2
                      exact ⟨by first | rfl | (simp; done) | (simp [*]; done), by repeat (first | exact Drawn0.refl _ | apply Drawn0.step)⟩
                    · rw [if_neg c20] at H
                      have c20b0 : (a0 == 10) = false := beq_eq_false_iff_ne.mpr c20
                      have c20b1 : (a0 != 10) = true := bne_iff_ne.mpr c20
                      simp only [Option.some.injEq, Prod.mk.injEq] at H
                      obtain ⟨rfl, rfl⟩ := H
                      go_enter Try.func10, Try.ntmps10
                      go_wp2
                      go_ret2
                      exact ⟨by first | rfl | (simp; done) | (simp [*]; done), by repeat (first | exact Drawn0.refl _ | apply Drawn0.step)⟩

end Go.Proofs.Ytfneceeaifnhkaa.P
