/- Written by a program of this session (gp.py), which drives the printer of the kit: contracts of Go functions over the translation, and the rows of laws: each says what its theorems state. Conditions: as each theorem states them. -/
import Derived.Test.YtciojbdkoojlhaaPx0
import Derived.Test.YtciojbdkoojlhaaPx13
import Derived.Test.YtciojbdkoojlhaaPx14
namespace Go.Proofs.Ytciojbdkoojlhaa.P
open Go.RowKit Go.Proofs.YtciojbdkoojlhaaW.PrintWords Go.Proofs.YtciojbdkoojlhaaW.PrintLast Go.Proofs.YtciojbdkoojlhaaW.PrintMore
attribute [local go_sem] max2_int min2_int max_two min_two max_three min_three max_four min_four   -- for this text's walks alone
set_option linter.unusedVariables false
set_option linter.unusedSimpArgs false

/-! ### carlingref02_nodes: function 22 -/
mutual
def carlingref02_nodes.l0 : Nat → ByteArray → Int → Int → List (S30) → Option ((List (S30)) × Int × Int)
  | 0, _, _, _, _ => none
  | k + 1, x0, x1, x2, x9 => (carlingref02_skip.f k x0 x1).bind fun t154 => (if t154 = (x0.size : Int) then (if x2 > 0 then (some (([] : List (S30)), 3, t154)) else (some (x9, 0, t154))) else (if 0 ≤ t154 then (if t154 < (x0.size : Int) then (if (bt x0 t154) = 41 then (if x2 = 0 then (some (([] : List (S30)), 3, t154)) else (some (x9, 0, t154))) else (if (bt x0 t154) = 40 then (if x2 = 24 then (some (([] : List (S30)), 4, t154)) else ((carlingref02_nodes.f k x0 (wrap64 (t154 + 1)) (wrap64 (x2 + 1))).bind fun bt155 => (if bt155.2.1 = 0 then (if x9.length < 2513169434916 then (carlingref02_nodes.l0 k x0 (wrap64 (bt155.2.2 + 1)) x2 (x9 ++ [(⟨true, (⟨#[]⟩ : ByteArray), bt155.1, t154⟩ : S30)])) else (none)) else (some (([] : List (S30)), bt155.2.1, bt155.2.2))))) else (carlingref02_nodes.l1 k x0 t154 x2 x9 0))) else (none)) else (none)))
def carlingref02_nodes.l1 : Nat → ByteArray → Int → Int → List (S30) → Int → Option ((List (S30)) × Int × Int)
  | 0, _, _, _, _, _ => none
  | k + 1, x0, x1, x2, x9, x14 => if (wrap64 (x1 + x14)) < (x0.size : Int) then (if 0 ≤ (wrap64 (x1 + x14)) then ((carlingref02_part.f k (bt x0 (wrap64 (x1 + x14)))).bind fun t163 => (if t163 = true then (carlingref02_nodes.l1 k x0 x1 x2 x9 (wrap64 (x14 + 1))) else (if x14 = 0 then (some (([] : List (S30)), 2, x1)) else (if 0 ≤ x1 then (if x1 ≤ (wrap64 (x1 + x14)) then (if (wrap64 (x1 + x14)) ≤ (x0.size : Int) then (if x9.length < 2513169434916 then (carlingref02_nodes.l0 k x0 (wrap64 (x1 + x14)) x2 (x9 ++ [(⟨false, x0.extract (x1 : Int).toNat ((wrap64 (x1 + x14)) : Int).toNat, ([] : List (S30)), x1⟩ : S30)])) else (none)) else (none)) else (none)) else (none))))) else (none)) else (if x14 = 0 then (some (([] : List (S30)), 2, x1)) else (if 0 ≤ x1 then (if x1 ≤ (wrap64 (x1 + x14)) then (if (wrap64 (x1 + x14)) ≤ (x0.size : Int) then (if x9.length < 2513169434916 then (carlingref02_nodes.l0 k x0 (wrap64 (x1 + x14)) x2 (x9 ++ [(⟨false, x0.extract (x1 : Int).toNat ((wrap64 (x1 + x14)) : Int).toNat, ([] : List (S30)), x1⟩ : S30)])) else (none)) else (none)) else (none)) else (none)))
def carlingref02_nodes.f : Nat → ByteArray → Int → Int → Option ((List (S30)) × Int × Int)
  | 0, _, _, _ => none
  | k + 1, a0, a1, a2 => carlingref02_nodes.l0 k a0 a1 a2 ([] : List (S30))
end
theorem carlingref02_nodes.mono_l : ∀ k, (∀ y0 y1 y2, LeO (carlingref02_nodes.f k y0 y1 y2) (carlingref02_nodes.f (k + 1) y0 y1 y2)) ∧ (∀ y0 y1 y2 y3, LeO (carlingref02_nodes.l0 k y0 y1 y2 y3) (carlingref02_nodes.l0 (k + 1) y0 y1 y2 y3)) ∧ (∀ y0 y1 y2 y3 y4, LeO (carlingref02_nodes.l1 k y0 y1 y2 y3 y4) (carlingref02_nodes.l1 (k + 1) y0 y1 y2 y3 y4))
  | 0 => ⟨fun _ _ _ r h => by simp [carlingref02_nodes.f] at h, fun _ _ _ _ r h => by simp [carlingref02_nodes.l0] at h, fun _ _ _ _ _ r h => by simp [carlingref02_nodes.l1] at h⟩
  | k + 1 => by
    obtain ⟨ih0, ih1, ih2⟩ := carlingref02_nodes.mono_l k
    refine ⟨?_, ?_, ?_⟩
    · intro y0 y1 y2
      unfold carlingref02_nodes.f
      repeat' first
      | (with_reducible exact ih0 _ _ _)
      | (with_reducible exact ih1 _ _ _ _)
      | (with_reducible exact ih2 _ _ _ _ _)
      | (with_reducible exact carlingref02_part.mono _ _)
      | (with_reducible exact carlingref02_skip.mono _ _ _)
      | (with_reducible exact LeO.refl _)
      | (with_reducible exact LeO.none _)
      | (with_reducible refine LeO.ite ?_ ?_)
      | (with_reducible refine LeO.bind ?_ (fun _ => ?_))
      | exact ih0 _ _ _
      | exact ih1 _ _ _ _
      | exact ih2 _ _ _ _ _
      | exact carlingref02_part.mono _ _
      | exact carlingref02_skip.mono _ _ _
      | exact LeO.none _
      | refine LeO.ite ?_ ?_
      | refine LeO.bind ?_ (fun _ => ?_)
    · intro y0 y1 y2 y3
      unfold carlingref02_nodes.l0
      repeat' first
      | (with_reducible exact ih0 _ _ _)
      | (with_reducible exact ih1 _ _ _ _)
      | (with_reducible exact ih2 _ _ _ _ _)
      | (with_reducible exact carlingref02_part.mono _ _)
      | (with_reducible exact carlingref02_skip.mono _ _ _)
      | (with_reducible exact LeO.refl _)
      | (with_reducible exact LeO.none _)
      | (with_reducible refine LeO.ite ?_ ?_)
      | (with_reducible refine LeO.bind ?_ (fun _ => ?_))
      | exact ih0 _ _ _
      | exact ih1 _ _ _ _
      | exact ih2 _ _ _ _ _
      | exact carlingref02_part.mono _ _
      | exact carlingref02_skip.mono _ _ _
      | exact LeO.none _
      | refine LeO.ite ?_ ?_
      | refine LeO.bind ?_ (fun _ => ?_)
    · intro y0 y1 y2 y3 y4
      unfold carlingref02_nodes.l1
      repeat' first
      | (with_reducible exact ih0 _ _ _)
      | (with_reducible exact ih1 _ _ _ _)
      | (with_reducible exact ih2 _ _ _ _ _)
      | (with_reducible exact carlingref02_part.mono _ _)
      | (with_reducible exact carlingref02_skip.mono _ _ _)
      | (with_reducible exact LeO.refl _)
      | (with_reducible exact LeO.none _)
      | (with_reducible refine LeO.ite ?_ ?_)
      | (with_reducible refine LeO.bind ?_ (fun _ => ?_))
      | exact ih0 _ _ _
      | exact ih1 _ _ _ _
      | exact ih2 _ _ _ _ _
      | exact carlingref02_part.mono _ _
      | exact carlingref02_skip.mono _ _ _
      | exact LeO.none _
      | refine LeO.ite ?_ ?_
      | refine LeO.bind ?_ (fun _ => ?_)
theorem carlingref02_nodes.mono : ∀ a0 a1 a2 k, LeO (carlingref02_nodes.f k a0 a1 a2) (carlingref02_nodes.f (k + 1) a0 a1 a2) := by
  intro a0 a1 a2 k
  obtain ⟨ih0, ih1, ih2⟩ := carlingref02_nodes.mono_l k
  exact ih0 a0 a1 a2
set_option maxHeartbeats 8000000 in
set_option maxRecDepth 100000 in
theorem carlingref02_nodes.calls (k : Nat) : ∀ (a0 : ByteArray) (a1 : Int) (a2 : Int) (r1 : List (S30)) (r2 : Int) (r3 : Int) (w : World) (h : carlingref02_nodes.f k a0 a1 a2 = some (r1, r2, r3)),
    Calls Try.prog 22 #[.string a0, .int .i64 a1, .int .i64 a2] w fun e w' => ∃ v0_ : Value, e = .returned (.tuple #[v0_, .int .i64 r2, .int .i64 r3]) ∧ Kd.R k30 30 w' w.heap.size (fun _ => True) v0_ r1 ∧ Below w.heap.size w w' := by
  induction k using Nat.strongRecOn with
  | _ k ih =>
  intro a0 a1 a2 r1 r2 r3 w h
  cases k with
  | zero => exact absurd h (by simp [carlingref02_nodes.f])
  | succ k =>
  simp only [carlingref02_nodes.f] at h
  have hu30 := Try.underlying30
  have HB := Aside0.mk (Below.refl w.heap.size w)
  have H : (carlingref02_nodes.l0 k a0 a1 a2 ([] : List (S30))) = some (r1, r2, r3) := h
  clear h
  have H' := Aside0.mk H
  clear H
  go_enter Try.func22, Try.ntmps22
  go_wp2
  go_loopg [1, 9] k (fun kq v1 v9 w' => ∃ (x1_1 : Int) (x9_1 : List (S30)), v1 = .int .i64 x1_1 ∧ Aside0 (carlingref02_nodes.l0 kq a0 x1_1 a2 x9_1 = some (r1, r2, r3)) ∧ Aside0 (kq ≤ k) ∧ Aside0 (Kd.R k30 30 w' w.heap.size (fun _ => True) v9 x9_1) ∧ Aside0 (Below w.heap.size w w'))
  case atStart => exact ⟨(a1), (([] : List (S30))), (by first | rfl | (simp; done) | (simp [*]; done)), H', ⟨Nat.le_refl _⟩, ⟨by first | exact Kd.R_nil _ _ _ _ _ | exact Kd.N_nil _ _ _ _ _ | exact Kd.V_nil _ _ _ _ _ | exact Kd.Q_nil _ _ _ _ _ | exact Kd.S_nil _ _ _ _ _⟩, ⟨by repeat (first | (with_reducible first | exact HB.out | apply below_alloc | apply pw_below_drewN | apply below_drew1) | exact HB.out)⟩⟩
  case round =>
    clear H'
    try clear c2
    try clear p2
    obtain ⟨x1_1, x9_1, rfl, HA, HK1, HO_9, HB⟩ := hrel
    cases gk with
    | zero => exact absurd HA.out (by simp [carlingref02_nodes.l0])
    | succ k1 =>
      have H := HA.out
      clear HA
      simp only [carlingref02_nodes.l0] at H
      replace H := Option.bind_eq_some_iff.mp H
      obtain ⟨t154, A40, H⟩ := H
      replace H : (if t154 = (a0.size : Int) then (if a2 > 0 then (some (([] : List (S30)), 3, t154)) else (some (x9_1, 0, t154))) else (if 0 ≤ t154 then (if t154 < (a0.size : Int) then (if (bt a0 t154) = 41 then (if a2 = 0 then (some (([] : List (S30)), 3, t154)) else (some (x9_1, 0, t154))) else (if (bt a0 t154) = 40 then (if a2 = 24 then (some (([] : List (S30)), 4, t154)) else ((carlingref02_nodes.f k1 a0 (wrap64 (t154 + 1)) (wrap64 (a2 + 1))).bind fun bt155 => (if bt155.2.1 = 0 then (if x9_1.length < 2513169434916 then (carlingref02_nodes.l0 k1 a0 (wrap64 (bt155.2.2 + 1)) a2 (x9_1 ++ [(⟨true, (⟨#[]⟩ : ByteArray), bt155.1, t154⟩ : S30)])) else (none)) else (some (([] : List (S30)), bt155.2.1, bt155.2.2))))) else (carlingref02_nodes.l1 k1 a0 t154 a2 x9_1 0))) else (none)) else (none))) = some (r1, r2, r3) := H
      have A4 := Aside0.mk A40
      clear A40
      by_cases c5 : t154 = (a0.size : Int)
      · rw [if_pos c5] at H
        have c5b0 : (t154 == (a0.size : Int)) = true := beq_iff_eq.mpr c5
        have c5b1 : (t154 != (a0.size : Int)) = false := bne_eq_false_iff_eq.mpr c5
        clear c5
        by_cases c6 : a2 > 0
        · rw [if_pos c6] at H
          have c6b0 : decide (0 < a2) = true := decide_eq_true c6
          clear c6
          simp only [Option.some.injEq, Prod.mk.injEq] at H
          obtain ⟨rfl, rfl, rfl⟩ := H
          go_wp2_with (first | ((with_reducible refine gate_callee (f := 30) rfl ?_); refine goesL_ (some 17) rfl rfl Try.func30 (by kernel_rfl) rfl #[.string a0, .int .i64 x1_1] rfl (by (try simp only [List.map_toArray, List.map_cons, List.map_nil]); first | done | rfl | (simp only [List.length_drop, List.length_take]; rfl)) ?_; (with_reducible refine (carlingref02_skip.calls k1 a0 x1_1 t154 _ A4.out).mono ?_); rintro e w' ⟨rfl, ⟨nd, rfl⟩⟩; refine ⟨_, rfl, ?_⟩))
          go_ret3
          exact ⟨_, by first | rfl | (simp [errW_none, errW_some] <;> rfl) | (simp [*, errW_none, errW_some] <;> rfl), by first | exact Kd.R_nil _ _ _ _ _ | exact Kd.N_nil _ _ _ _ _ | exact Kd.V_nil _ _ _ _ _ | exact Kd.Q_nil _ _ _ _ _ | exact Kd.S_nil _ _ _ _ _, by repeat (first | (with_reducible first | exact HB.out | apply below_alloc | apply pw_below_drewN | apply below_drew1) | exact HB.out)⟩
        · rw [if_neg c6] at H
          have c6b0 : decide (0 < a2) = false := decide_eq_false c6
          clear c6
          simp only [Option.some.injEq, Prod.mk.injEq] at H
          obtain ⟨rfl, rfl, rfl⟩ := H
          go_wp2_with (first | ((with_reducible refine gate_callee (f := 30) rfl ?_); refine goesL_ (some 17) rfl rfl Try.func30 (by kernel_rfl) rfl #[.string a0, .int .i64 x1_1] rfl (by (try simp only [List.map_toArray, List.map_cons, List.map_nil]); first | done | rfl | (simp only [List.length_drop, List.length_take]; rfl)) ?_; (with_reducible refine (carlingref02_skip.calls k1 a0 x1_1 t154 _ A4.out).mono ?_); rintro e w' ⟨rfl, ⟨nd, rfl⟩⟩; refine ⟨_, rfl, ?_⟩))
          go_ret3
          exact ⟨_, by first | rfl | (simp [errW_none, errW_some] <;> rfl) | (simp [*, errW_none, errW_some] <;> rfl), by (with_reducible repeat (first | apply Kd.R_alloc | apply Kd.R_drewN | apply Kd.R_drew)); exact HO_9.out, by repeat (first | (with_reducible first | exact HB.out | apply below_alloc | apply pw_below_drewN | apply below_drew1) | exact HB.out)⟩
      · rw [if_neg c5] at H
        have c5b0 : (t154 == (a0.size : Int)) = false := beq_eq_false_iff_ne.mpr c5
        have c5b1 : (t154 != (a0.size : Int)) = true := bne_iff_ne.mpr c5
        by_cases c7 : 0 ≤ t154
        · rw [if_pos c7] at H
          have c7b0 : decide (0 ≤ t154) = true := decide_eq_true c7
          clear c7
          by_cases c8 : t154 < (a0.size : Int)
          · rw [if_pos c8] at H
            have c8b0 : decide (t154 < (a0.size : Int)) = true := decide_eq_true c8
            clear c8
            by_cases c10 : (bt a0 t154) = 41
            · rw [if_pos c10] at H
              have c10b0 : ((bt a0 t154) == 41) = true := beq_iff_eq.mpr c10
              have c10b1 : ((bt a0 t154) != 41) = false := bne_eq_false_iff_eq.mpr c10
              clear c10
              by_cases c11 : a2 = 0
              · rw [if_pos c11] at H
                have c11b0 : (a2 == 0) = true := beq_iff_eq.mpr c11
                have c11b1 : (a2 != 0) = false := bne_eq_false_iff_eq.mpr c11
                clear c11
                simp only [Option.some.injEq, Prod.mk.injEq] at H
                obtain ⟨rfl, rfl, rfl⟩ := H
                go_wp2_with (first | ((with_reducible refine gate_callee (f := 30) rfl ?_); refine goesL_ (some 17) rfl rfl Try.func30 (by kernel_rfl) rfl #[.string a0, .int .i64 x1_1] rfl (by (try simp only [List.map_toArray, List.map_cons, List.map_nil]); first | done | rfl | (simp only [List.length_drop, List.length_take]; rfl)) ?_; (with_reducible refine (carlingref02_skip.calls k1 a0 x1_1 t154 _ A4.out).mono ?_); rintro e w' ⟨rfl, ⟨nd, rfl⟩⟩; refine ⟨_, rfl, ?_⟩; have p9 : 0 ≤ (t154 : Int) := of_decide_eq_true (by first | (with_reducible assumption) | assumption); have q9 : t154 < (a0.size : Int) := of_decide_eq_true (by first | (with_reducible assumption) | assumption); have hx9 := bt_at a0 t154; replace p9 := eq_true p9; replace q9 := eq_true q9))
                go_ret3
                exact ⟨_, by first | rfl | (simp [errW_none, errW_some] <;> rfl) | (simp [*, errW_none, errW_some] <;> rfl), by first | exact Kd.R_nil _ _ _ _ _ | exact Kd.N_nil _ _ _ _ _ | exact Kd.V_nil _ _ _ _ _ | exact Kd.Q_nil _ _ _ _ _ | exact Kd.S_nil _ _ _ _ _, by repeat (first | (with_reducible first | exact HB.out | apply below_alloc | apply pw_below_drewN | apply below_drew1) | exact HB.out)⟩
              · rw [if_neg c11] at H
                have c11b0 : (a2 == 0) = false := beq_eq_false_iff_ne.mpr c11
                have c11b1 : (a2 != 0) = true := bne_iff_ne.mpr c11
                simp only [Option.some.injEq, Prod.mk.injEq] at H
                obtain ⟨rfl, rfl, rfl⟩ := H
                go_wp2_with (first | ((with_reducible refine gate_callee (f := 30) rfl ?_); refine goesL_ (some 17) rfl rfl Try.func30 (by kernel_rfl) rfl #[.string a0, .int .i64 x1_1] rfl (by (try simp only [List.map_toArray, List.map_cons, List.map_nil]); first | done | rfl | (simp only [List.length_drop, List.length_take]; rfl)) ?_; (with_reducible refine (carlingref02_skip.calls k1 a0 x1_1 t154 _ A4.out).mono ?_); rintro e w' ⟨rfl, ⟨nd, rfl⟩⟩; refine ⟨_, rfl, ?_⟩; have p9 : 0 ≤ (t154 : Int) := of_decide_eq_true (by first | (with_reducible assumption) | assumption); have q9 : t154 < (a0.size : Int) := of_decide_eq_true (by first | (with_reducible assumption) | assumption); have hx9 := bt_at a0 t154; replace p9 := eq_true p9; replace q9 := eq_true q9))
                go_ret3
                exact ⟨_, by first | rfl | (simp [errW_none, errW_some] <;> rfl) | (simp [*, errW_none, errW_some] <;> rfl), by (with_reducible repeat (first | apply Kd.R_alloc | apply Kd.R_drewN | apply Kd.R_drew)); exact HO_9.out, by repeat (first | (with_reducible first | exact HB.out | apply below_alloc | apply pw_below_drewN | apply below_drew1) | exact HB.out)⟩
            · rw [if_neg c10] at H
              have c10b0 : ((bt a0 t154) == 41) = false := beq_eq_false_iff_ne.mpr c10
              have c10b1 : ((bt a0 t154) != 41) = true := bne_iff_ne.mpr c10
              by_cases c12 : (bt a0 t154) = 40
              · rw [if_pos c12] at H
                have c12b0 : ((bt a0 t154) == 40) = true := beq_iff_eq.mpr c12
                have c12b1 : ((bt a0 t154) != 40) = false := bne_eq_false_iff_eq.mpr c12
                clear c12
                by_cases c13 : a2 = 24
                · rw [if_pos c13] at H
                  have c13b0 : (a2 == 24) = true := beq_iff_eq.mpr c13
                  have c13b1 : (a2 != 24) = false := bne_eq_false_iff_eq.mpr c13
                  clear c13
                  simp only [Option.some.injEq, Prod.mk.injEq] at H
                  obtain ⟨rfl, rfl, rfl⟩ := H
                  go_wp2_with (first | ((with_reducible refine gate_callee (f := 30) rfl ?_); refine goesL_ (some 17) rfl rfl Try.func30 (by kernel_rfl) rfl #[.string a0, .int .i64 x1_1] rfl (by (try simp only [List.map_toArray, List.map_cons, List.map_nil]); first | done | rfl | (simp only [List.length_drop, List.length_take]; rfl)) ?_; (with_reducible refine (carlingref02_skip.calls k1 a0 x1_1 t154 _ A4.out).mono ?_); rintro e w' ⟨rfl, ⟨nd, rfl⟩⟩; refine ⟨_, rfl, ?_⟩; have p9 : 0 ≤ (t154 : Int) := of_decide_eq_true (by first | (with_reducible assumption) | assumption); have q9 : t154 < (a0.size : Int) := of_decide_eq_true (by first | (with_reducible assumption) | assumption); have hx9 := bt_at a0 t154; replace p9 := eq_true p9; replace q9 := eq_true q9))
                  go_ret3
                  exact ⟨_, by first | rfl | (simp [errW_none, errW_some] <;> rfl) | (simp [*, errW_none, errW_some] <;> rfl), by first | exact Kd.R_nil _ _ _ _ _ | exact Kd.N_nil _ _ _ _ _ | exact Kd.V_nil _ _ _ _ _ | exact Kd.Q_nil _ _ _ _ _ | exact Kd.S_nil _ _ _ _ _, by repeat (first | (with_reducible first | exact HB.out | apply below_alloc | apply pw_below_drewN | apply below_drew1) | exact HB.out)⟩
                · rw [if_neg c13] at H
                  have c13b0 : (a2 == 24) = false := beq_eq_false_iff_ne.mpr c13
                  have c13b1 : (a2 != 24) = true := bne_iff_ne.mpr c13
                  replace H := Option.bind_eq_some_iff.mp H
                  obtain ⟨⟨t155, t156, t157⟩, A140, H⟩ := H
                  replace H : (if t156 = 0 then (if x9_1.length < 2513169434916 then (carlingref02_nodes.l0 k1 a0 (wrap64 (t157 + 1)) a2 (x9_1 ++ [(⟨true, (⟨#[]⟩ : ByteArray), t155, t154⟩ : S30)])) else (none)) else (some (([] : List (S30)), t156, t157))) = some (r1, r2, r3) := H
                  have A14 := Aside0.mk A140
                  clear A140
                  by_cases c15 : t156 = 0
                  · rw [if_pos c15] at H
                    have c15b0 : (t156 == 0) = true := beq_iff_eq.mpr c15
                    have c15b1 : (t156 != 0) = false := bne_eq_false_iff_eq.mpr c15
                    clear c15
                    by_cases c16 : x9_1.length < 2513169434916
                    · rw [if_pos c16] at H
                      have LMc16 := Aside0.mk c16
                      clear c16
                      obtain ⟨y160, hy160⟩ : ∃ y_ : List (S30), y_ = (x9_1 ++ [(⟨true, (⟨#[]⟩ : ByteArray), t155, t154⟩ : S30)]) := ⟨_, rfl⟩
                      replace H : (carlingref02_nodes.l0 k1 a0 (wrap64 (t157 + 1)) a2 y160) = some (r1, r2, r3) := by first | (rw [hy160]; with_reducible exact H) | (have H2_ := (Option.bind_some _ _).symm.trans H; rw [hy160]; with_reducible exact H2_) | (have H2_ := (Option.bind_some _ _).symm.trans H; with_reducible exact H2_) | with_reducible exact H | (rw [hy160]; exact H) | exact H
                      have Ny160 := Aside0.mk hy160
                      clear hy160
                      have H' := Aside0.mk H
                      clear H
                      go_wp2_with (first | ((with_reducible refine gate_callee (f := 30) rfl ?_); refine goesL_ (some 17) rfl rfl Try.func30 (by kernel_rfl) rfl #[.string a0, .int .i64 x1_1] rfl (by (try simp only [List.map_toArray, List.map_cons, List.map_nil]); first | done | rfl | (simp only [List.length_drop, List.length_take]; rfl)) ?_; (with_reducible refine (carlingref02_skip.calls k1 a0 x1_1 t154 _ A4.out).mono ?_); rintro e w' ⟨rfl, ⟨nd, rfl⟩⟩; refine ⟨_, rfl, ?_⟩; have p9 : 0 ≤ (t154 : Int) := of_decide_eq_true (by first | (with_reducible assumption) | assumption); have q9 : t154 < (a0.size : Int) := of_decide_eq_true (by first | (with_reducible assumption) | assumption); have hx9 := bt_at a0 t154; replace p9 := eq_true p9; replace q9 := eq_true q9) | ((with_reducible refine gate_callee (f := 22) rfl ?_); refine goesL_ (some 48) rfl rfl Try.func22 (by kernel_rfl) rfl #[.string a0, .int .i64 (wrap64 (t154 + 1)), .int .i64 (wrap64 (a2 + 1))] rfl (by (try simp only [List.map_toArray, List.map_cons, List.map_nil]); first | done | rfl | (simp only [List.length_drop, List.length_take]; rfl)) ?_; (with_reducible refine (ih k1 (by have := HK1.out; omega) a0 (wrap64 (t154 + 1)) (wrap64 (a2 + 1)) t155 t156 t157 _ A14.out).mono ?_); rintro e w17 ⟨v158, rfl, ho0, hb⟩; refine ⟨_, rfl, ?_⟩; have n0_ := Aside0.mk (Kd.R_elder' (by (with_reducible repeat (first | apply Kd.R_alloc | apply Kd.R_drewN | apply Kd.R_drew)); exact HO_9.out) (Kd.R_base ho0) hb); have n1_ := Aside0.mk (Kd.R_lower (Kd.R_new' ho0 (Kd.R_lt (by (with_reducible repeat (first | apply Kd.R_alloc | apply Kd.R_drewN | apply Kd.R_drew)); exact HO_9.out))) (below_size (by repeat (first | (with_reducible first | exact HB.out | apply below_alloc | apply pw_below_drewN | apply below_drew1) | exact HB.out)))); have n2_ := Aside0.mk (below_step (by repeat (first | (with_reducible first | exact HB.out | apply below_alloc | apply pw_below_drewN | apply below_drew1) | exact HB.out)) hb); clear HO_9; clear HB; have HO_9 := n0_; have HO159 := n1_; have HB := n2_; clear n0_ n1_ n2_; (try clear hb); (try clear hb2); (try clear hk); (try clear hi); (try clear ho0); obtain ⟨Ao18, co18, eo18⟩ := Kd.R_slice HO159.out; subst eo18) | ((with_reducible refine gate_builtin (b := .append) (xs := #[.tmp 56, .tmp 60]) rfl ?_); at_builtin; refine Kd.R_append k30 (w0 := w) w.heap.size rfl (.tmp 56) (.tmp 60) 23 30 (.agg #[(.bool false), (.string ⟨#[]⟩), (.slice none 0 0), (.int .i64 0)]) 56 rfl Try.underlying23 info30 rfl (by decide) (by omega) u9 x9_1 (⟨true, (⟨#[]⟩ : ByteArray), t155, t154⟩ : S30) [.bool true, .string (⟨#[]⟩ : ByteArray), .slice Ao18 t155.length co18, .int .i64 t154] (fun _ => True) (fun k_ => ((fun _ => True)) k_ ∧ some k_ ≠ (u9 : Value).ownBlock) rfl rfl ?aP (fun _ hk => hk) ?aF ?aO ?aB ?aS ?aL ?_; (case aP => exact k30_mkM _ _ _ (⟨true, (⟨#[]⟩ : ByteArray), t155, t154⟩ : S30) (Kd.R_mono (HO159.out) (fun k_ hk => ⟨trivial, hk.2⟩))); (case aB => exact (by repeat (first | (with_reducible first | exact HB.out | apply below_alloc | apply pw_below_drewN | apply below_drew1) | exact HB.out))); (case aF => exact (fun _ _ => trivial)); (case aO => exact (by (with_reducible repeat (first | apply Kd.R_alloc | apply Kd.R_drewN | apply Kd.R_drew)); exact Kd.R_mono HO_9.out (fun _ hk => trivial))); (case aS => exact (below_size (by repeat (first | (with_reducible first | exact HB.out | apply below_alloc | apply pw_below_drewN | apply below_drew1) | exact HB.out)))); (case aL => have := LMc16.out; omega); intro v161 w19 ho hb hg hat; rw [← Ny160.out] at ho; have n0_ := Aside0.mk (hb); have n1_ := Aside0.mk (ho); clear HB; clear HO_9; clear HO159; have HB := n0_; have HO162 := n1_; clear n0_ n1_; clear ho hb hg hat))
                      go_roundg k1
                      case measure => have := HK1.out; omega
                      case rel => exact ⟨(wrap64 (t157 + 1)), (y160), (by first | rfl | (simp; done) | (simp [*]; done)), H', ⟨by have := HK1.out; omega⟩, ⟨by (with_reducible repeat (first | apply Kd.R_alloc | apply Kd.R_drewN | apply Kd.R_drew)); exact HO162.out⟩, ⟨by repeat (first | (with_reducible first | exact HB.out | apply below_alloc | apply pw_below_drewN | apply below_drew1) | exact HB.out)⟩⟩
                    · rw [if_neg c16] at H
                      exact absurd H (by simp)
                  · rw [if_neg c15] at H
                    have c15b0 : (t156 == 0) = false := beq_eq_false_iff_ne.mpr c15
                    have c15b1 : (t156 != 0) = true := bne_iff_ne.mpr c15
                    simp only [Option.some.injEq, Prod.mk.injEq] at H
                    obtain ⟨rfl, rfl, rfl⟩ := H
                    go_wp2_with (first | ((with_reducible refine gate_callee (f := 30) rfl ?_); refine goesL_ (some 17) rfl rfl Try.func30 (by kernel_rfl) rfl #[.string a0, .int .i64 x1_1] rfl (by (try simp only [List.map_toArray, List.map_cons, List.map_nil]); first | done | rfl | (simp only [List.length_drop, List.length_take]; rfl)) ?_; (with_reducible refine (carlingref02_skip.calls k1 a0 x1_1 t154 _ A4.out).mono ?_); rintro e w' ⟨rfl, ⟨nd, rfl⟩⟩; refine ⟨_, rfl, ?_⟩; have p9 : 0 ≤ (t154 : Int) := of_decide_eq_true (by first | (with_reducible assumption) | assumption); have q9 : t154 < (a0.size : Int) := of_decide_eq_true (by first | (with_reducible assumption) | assumption); have hx9 := bt_at a0 t154; replace p9 := eq_true p9; replace q9 := eq_true q9) | ((with_reducible refine gate_callee (f := 22) rfl ?_); refine goesL_ (some 48) rfl rfl Try.func22 (by kernel_rfl) rfl #[.string a0, .int .i64 (wrap64 (t154 + 1)), .int .i64 (wrap64 (a2 + 1))] rfl (by (try simp only [List.map_toArray, List.map_cons, List.map_nil]); first | done | rfl | (simp only [List.length_drop, List.length_take]; rfl)) ?_; (with_reducible refine (ih k1 (by have := HK1.out; omega) a0 (wrap64 (t154 + 1)) (wrap64 (a2 + 1)) t155 t156 t157 _ A14.out).mono ?_); rintro e w20 ⟨v158, rfl, ho0, hb⟩; refine ⟨_, rfl, ?_⟩; have n0_ := Aside0.mk (Kd.R_elder' (by (with_reducible repeat (first | apply Kd.R_alloc | apply Kd.R_drewN | apply Kd.R_drew)); exact HO_9.out) (Kd.R_base ho0) hb); have n1_ := Aside0.mk (Kd.R_lower (Kd.R_new' ho0 (Kd.R_lt (by (with_reducible repeat (first | apply Kd.R_alloc | apply Kd.R_drewN | apply Kd.R_drew)); exact HO_9.out))) (below_size (by repeat (first | (with_reducible first | exact HB.out | apply below_alloc | apply pw_below_drewN | apply below_drew1) | exact HB.out)))); have n2_ := Aside0.mk (below_step (by repeat (first | (with_reducible first | exact HB.out | apply below_alloc | apply pw_below_drewN | apply below_drew1) | exact HB.out)) hb); clear HO_9; clear HB; have HO_9 := n0_; have HO159 := n1_; have HB := n2_; clear n0_ n1_ n2_; (try clear hb); (try clear hb2); (try clear hk); (try clear hi); (try clear ho0)))
                    go_ret3
                    exact ⟨_, by first | rfl | (simp [errW_none, errW_some] <;> rfl) | (simp [*, errW_none, errW_some] <;> rfl), by first | exact Kd.R_nil _ _ _ _ _ | exact Kd.N_nil _ _ _ _ _ | exact Kd.V_nil _ _ _ _ _ | exact Kd.Q_nil _ _ _ _ _ | exact Kd.S_nil _ _ _ _ _, by repeat (first | (with_reducible first | exact HB.out | apply below_alloc | apply pw_below_drewN | apply below_drew1) | exact HB.out)⟩
              · rw [if_neg c12] at H
                have c12b0 : ((bt a0 t154) == 40) = false := beq_eq_false_iff_ne.mpr c12
                have c12b1 : ((bt a0 t154) != 40) = true := bne_iff_ne.mpr c12
                have H' := Aside0.mk H
                clear H
                go_wp2_with (first | ((with_reducible refine gate_callee (f := 30) rfl ?_); refine goesL_ (some 17) rfl rfl Try.func30 (by kernel_rfl) rfl #[.string a0, .int .i64 x1_1] rfl (by (try simp only [List.map_toArray, List.map_cons, List.map_nil]); first | done | rfl | (simp only [List.length_drop, List.length_take]; rfl)) ?_; (with_reducible refine (carlingref02_skip.calls k1 a0 x1_1 t154 _ A4.out).mono ?_); rintro e w' ⟨rfl, ⟨nd, rfl⟩⟩; refine ⟨_, rfl, ?_⟩; have p9 : 0 ≤ (t154 : Int) := of_decide_eq_true (by first | (with_reducible assumption) | assumption); have q9 : t154 < (a0.size : Int) := of_decide_eq_true (by first | (with_reducible assumption) | assumption); have hx9 := bt_at a0 t154; replace p9 := eq_true p9; replace q9 := eq_true q9))
                go_loopg [14] k1 (fun kq v14 w' => ∃ (x14_2 : Int), v14 = .int .i64 x14_2 ∧ Aside0 (carlingref02_nodes.l1 kq a0 t154 a2 x9_1 x14_2 = some (r1, r2, r3)) ∧ Aside0 (kq ≤ k1) ∧ Aside0 (Kd.R k30 30 w' w.heap.size (fun _ => True) u9 x9_1) ∧ Aside0 (Below w.heap.size w w'))
                case atStart => exact ⟨(0), (by first | rfl | (simp; done) | (simp [*]; done)), H', ⟨Nat.le_refl _⟩, ⟨by (with_reducible repeat (first | apply Kd.R_alloc | apply Kd.R_drewN | apply Kd.R_drew)); exact HO_9.out⟩, ⟨by repeat (first | (with_reducible first | exact HB.out | apply below_alloc | apply pw_below_drewN | apply below_drew1) | exact HB.out)⟩⟩
                case round =>
                  clear H'
                  try clear c1
                  try clear c2
                  try clear p2
                  try clear c3
                  try clear c5
                  try clear c5b0
                  try clear c5b1
                  try clear c6
                  try clear c6b0
                  try clear p6
                  try clear c7
                  try clear c7b0
                  try clear c8
                  try clear c8b0
                  try clear p9
                  try clear q9
                  try clear hx9
                  try clear c10
                  try clear c10b0
                  try clear c10b1
                  try clear c11
                  try clear c11b0
                  try clear c11b1
                  try clear c12
                  try clear c12b0
                  try clear c12b1
                  try clear c13
                  try clear c13b0
                  try clear c13b1
                  try clear c15
                  try clear c15b0
                  try clear c15b1
                  try clear c16
                  try clear p2
                  try clear p9
                  try clear q9
                  obtain ⟨x14_2, rfl, HA, HK2, HO_9, HB⟩ := hrel
                  cases gk with
                  | zero => exact absurd HA.out (by simp [carlingref02_nodes.l1])
                  | succ k2 =>
                    have H := HA.out
                    clear HA
                    simp only [carlingref02_nodes.l1] at H
                    by_cases c21 : (wrap64 (t154 + x14_2)) < (a0.size : Int)
                    · rw [if_pos c21] at H
                      have c21b0 : decide ((wrap64 (t154 + x14_2)) < (a0.size : Int)) = true := decide_eq_true c21
                      clear c21
                      obtain ⟨ji22, hji22⟩ : ∃ j_ : Int, (wrap64 (t154 + x14_2)) = j_ := ⟨_, rfl⟩
                      replace H : (if 0 ≤ (ji22) then ((carlingref02_part.f k2 (bt a0 (ji22))).bind fun t163 => (if t163 = true then (carlingref02_nodes.l1 k2 a0 t154 a2 x9_1 (wrap64 (x14_2 + 1))) else (if x14_2 = 0 then (some (([] : List (S30)), 2, t154)) else (if 0 ≤ t154 then (if t154 ≤ (ji22) then (if (ji22) ≤ (a0.size : Int) then (if x9_1.length < 2513169434916 then (carlingref02_nodes.l0 k2 a0 ji22 a2 (x9_1 ++ [(⟨false, a0.extract (t154 : Int).toNat ((ji22) : Int).toNat, ([] : List (S30)), t154⟩ : S30)])) else (none)) else (none)) else (none)) else (none))))) else (none)) = some (r1, r2, r3) := by first | (rw [hji22] at H; exact H) | (simp only [hji22] at H ⊢; exact H)
                      (try rw [hji22] at c21b0)
                      have hji22w : (IntKind.i64.wrap (t154 + x14_2)) = ji22 := (i64_w _).trans hji22
                      by_cases c23 : 0 ≤ (ji22)
                      · rw [if_pos c23] at H
                        have c23b0 : decide (0 ≤ (ji22)) = true := decide_eq_true c23
                        clear c23
                        replace H := Option.bind_eq_some_iff.mp H
                        obtain ⟨t163, A250, H⟩ := H
                        replace H : (if t163 = true then (carlingref02_nodes.l1 k2 a0 t154 a2 x9_1 (wrap64 (x14_2 + 1))) else (if x14_2 = 0 then (some (([] : List (S30)), 2, t154)) else (if 0 ≤ t154 then (if t154 ≤ (ji22) then (if (ji22) ≤ (a0.size : Int) then (if x9_1.length < 2513169434916 then (carlingref02_nodes.l0 k2 a0 ji22 a2 (x9_1 ++ [(⟨false, a0.extract (t154 : Int).toNat ((ji22) : Int).toNat, ([] : List (S30)), t154⟩ : S30)])) else (none)) else (none)) else (none)) else (none)))) = some (r1, r2, r3) := H
                        have A25 := Aside0.mk A250
                        clear A250
                        by_cases c26 : t163 = true
                        · subst c26
                          have H1 : (carlingref02_nodes.l1 k2 a0 t154 a2 x9_1 (wrap64 (x14_2 + 1))) = some (r1, r2, r3) := by rw [if_pos rfl] at H; exact H
                          clear H
                          have H := H1
                          clear H1
                          have H' := Aside0.mk H
                          clear H
                          have p24 : 0 ≤ ((ji22) : Int) := of_decide_eq_true (by first | (with_reducible assumption) | assumption)
                          have q24 : (ji22) < (a0.size : Int) := of_decide_eq_true (by first | (with_reducible assumption) | assumption)
                          have hx24 := bt_at a0 (ji22)
                          replace p24 := eq_true p24
                          replace q24 := eq_true q24
                          go_wp2_with (first | (go_at_call 28; (with_reducible refine (carlingref02_part.calls k2 (bt a0 (ji22)) true _ A25.out).mono ?_); rintro e w' ⟨rfl, ⟨nd, rfl⟩⟩))
                          go_roundg k2
                          case measure => have := HK1.out; have := HK2.out; omega
                          case rel => exact ⟨(wrap64 (x14_2 + 1)), (by first | rfl | (simp; done) | (simp [*]; done)), H', ⟨by have := HK1.out; have := HK2.out; omega⟩, ⟨by (with_reducible repeat (first | apply Kd.R_alloc | apply Kd.R_drewN | apply Kd.R_drew)); exact HO_9.out⟩, ⟨by repeat (first | (with_reducible first | exact HB.out | apply below_alloc | apply pw_below_drewN | apply below_drew1) | exact HB.out)⟩⟩
                        · replace c26 := Bool.eq_false_iff.mpr c26
                          subst c26
                          have H1 : (if x14_2 = 0 then (some (([] : List (S30)), 2, t154)) else (if 0 ≤ t154 then (if t154 ≤ (ji22) then (if (ji22) ≤ (a0.size : Int) then (if x9_1.length < 2513169434916 then (carlingref02_nodes.l0 k2 a0 ji22 a2 (x9_1 ++ [(⟨false, a0.extract (t154 : Int).toNat ((ji22) : Int).toNat, ([] : List (S30)), t154⟩ : S30)])) else (none)) else (none)) else (none)) else (none))) = some (r1, r2, r3) := by rw [if_neg (show ¬ (false = true) by decide)] at H; exact H
                          clear H
                          have H := H1
                          clear H1
                          by_cases c27 : x14_2 = 0
                          · rw [if_pos c27] at H
                            have c27b0 : (x14_2 == 0) = true := beq_iff_eq.mpr c27
                            have c27b1 : (x14_2 != 0) = false := bne_eq_false_iff_eq.mpr c27
                            clear c27
                            simp only [Option.some.injEq, Prod.mk.injEq] at H
                            obtain ⟨rfl, rfl, rfl⟩ := H
                            have p24 : 0 ≤ ((ji22) : Int) := of_decide_eq_true (by first | (with_reducible assumption) | assumption)
                            have q24 : (ji22) < (a0.size : Int) := of_decide_eq_true (by first | (with_reducible assumption) | assumption)
                            have hx24 := bt_at a0 (ji22)
                            replace p24 := eq_true p24
                            replace q24 := eq_true q24
                            go_wp2_with (first | (go_at_call 28; (with_reducible refine (carlingref02_part.calls k2 (bt a0 (ji22)) false _ A25.out).mono ?_); rintro e w' ⟨rfl, ⟨nd, rfl⟩⟩))
                            go_ret3
                            exact ⟨_, by first | rfl | (simp [errW_none, errW_some] <;> rfl) | (simp only [← hji22]; first | rfl | (simp [errW_none, errW_some] <;> rfl)) | (simp [*, errW_none, errW_some] <;> rfl), by first | exact Kd.R_nil _ _ _ _ _ | exact Kd.N_nil _ _ _ _ _ | exact Kd.V_nil _ _ _ _ _ | exact Kd.Q_nil _ _ _ _ _ | exact Kd.S_nil _ _ _ _ _, by repeat (first | (with_reducible first | exact HB.out | apply below_alloc | apply pw_below_drewN | apply below_drew1) | exact HB.out)⟩
                          · rw [if_neg c27] at H
                            have c27b0 : (x14_2 == 0) = false := beq_eq_false_iff_ne.mpr c27
                            have c27b1 : (x14_2 != 0) = true := bne_iff_ne.mpr c27
                            by_cases c28 : 0 ≤ t154
                            · rw [if_pos c28] at H
                              have c28b0 := eq_true c28
                              have c28b1 : decide (0 ≤ t154) = true := decide_eq_true c28
                              clear c28
                              by_cases c29 : t154 ≤ (ji22)
                              · rw [if_pos c29] at H
                                have c29b0 := eq_true c29
                                have c29b1 : decide (t154 ≤ (ji22)) = true := decide_eq_true c29
                                clear c29
                                by_cases c30 : (ji22) ≤ (a0.size : Int)
                                · rw [if_pos c30] at H
                                  have c30b0 := eq_true c30
                                  have c30b1 : decide ((ji22) ≤ (a0.size : Int)) = true := decide_eq_true c30
                                  clear c30
                                  by_cases c31 : x9_1.length < 2513169434916
                                  · rw [if_pos c31] at H
                                    have LMc31 := Aside0.mk c31
                                    clear c31
                                    obtain ⟨y164, hy164⟩ : ∃ y_ : List (S30), y_ = (x9_1 ++ [(⟨false, a0.extract (t154 : Int).toNat ((ji22) : Int).toNat, ([] : List (S30)), t154⟩ : S30)]) := ⟨_, rfl⟩
                                    replace H : (carlingref02_nodes.l0 k2 a0 ji22 a2 y164) = some (r1, r2, r3) := by first | (rw [hy164]; with_reducible exact H) | (have H2_ := (Option.bind_some _ _).symm.trans H; rw [hy164]; with_reducible exact H2_) | (have H2_ := (Option.bind_some _ _).symm.trans H; with_reducible exact H2_) | with_reducible exact H | (rw [hy164]; exact H) | exact H
                                    have Ny164 := Aside0.mk hy164
                                    clear hy164
                                    have H' := Aside0.mk H
                                    clear H
                                    have p24 : 0 ≤ ((ji22) : Int) := of_decide_eq_true (by first | (with_reducible assumption) | assumption)
                                    have q24 : (ji22) < (a0.size : Int) := of_decide_eq_true (by first | (with_reducible assumption) | assumption)
                                    have hx24 := bt_at a0 (ji22)
                                    replace p24 := eq_true p24
                                    replace q24 := eq_true q24
                                    go_wp2_with (first | (go_at_call 28; (with_reducible refine (carlingref02_part.calls k2 (bt a0 (ji22)) false _ A25.out).mono ?_); rintro e w' ⟨rfl, ⟨nd, rfl⟩⟩) | ((with_reducible refine gate_builtin (b := .append) (xs := #[.tmp 83, .tmp 92]) rfl ?_); at_builtin; refine Kd.R_append k30 (w0 := w) w.heap.size rfl (.tmp 83) (.tmp 92) 23 30 (.agg #[(.bool false), (.string ⟨#[]⟩), (.slice none 0 0), (.int .i64 0)]) 56 rfl Try.underlying23 info30 rfl (by decide) (by omega) u9 x9_1 (⟨false, a0.extract (t154 : Int).toNat ((ji22) : Int).toNat, ([] : List (S30)), t154⟩ : S30) [.bool false, .string (a0.extract (t154 : Int).toNat ((ji22) : Int).toNat), .slice none 0 0, .int .i64 t154] (fun _ => True) (fun k_ => ((fun _ => True)) k_ ∧ some k_ ≠ (u9 : Value).ownBlock) rfl rfl ?aP (fun _ hk => hk) ?aF ?aO ?aB ?aS ?aL ?_; (case aP => exact k30_mkM _ _ _ (⟨false, a0.extract (t154 : Int).toNat ((ji22) : Int).toNat, ([] : List (S30)), t154⟩ : S30) (Kd.R_nil _ _ _ _ _)); (case aB => exact (by repeat (first | (with_reducible first | exact HB.out | apply below_alloc | apply pw_below_drewN | apply below_drew1) | exact HB.out))); (case aF => exact (fun _ _ => trivial)); (case aO => exact (by (with_reducible repeat (first | apply Kd.R_alloc | apply Kd.R_drewN | apply Kd.R_drew)); exact HO_9.out)); (case aS => exact (below_size (by repeat (first | (with_reducible first | exact HB.out | apply below_alloc | apply pw_below_drewN | apply below_drew1) | exact HB.out)))); (case aL => have := LMc31.out; omega); intro v165 w32 ho hb hg hat; rw [← Ny164.out] at ho; have n0_ := Aside0.mk (hb); have n1_ := Aside0.mk (ho); clear HB; clear HO_9; have HB := n0_; have HO166 := n1_; clear n0_ n1_; clear ho hb hg hat))
                                    go_roundg k2
                                    case measure => have := HK1.out; have := HK2.out; omega
                                    case rel => exact ⟨(ji22), (y164), (by first | rfl | (simp; done) | (simp only [← hji22] <;> (first | rfl | simp)) | (simp [*]; done)), H', ⟨by have := HK1.out; have := HK2.out; omega⟩, ⟨by (with_reducible repeat (first | apply Kd.R_alloc | apply Kd.R_drewN | apply Kd.R_drew)); exact HO166.out⟩, ⟨by repeat (first | (with_reducible first | exact HB.out | apply below_alloc | apply pw_below_drewN | apply below_drew1) | exact HB.out)⟩⟩
                                  · rw [if_neg c31] at H
                                    exact absurd H (by simp)
                                · rw [if_neg c30] at H
                                  exact absurd H (by simp)
                              · rw [if_neg c29] at H
                                exact absurd H (by simp)
                            · rw [if_neg c28] at H
                              exact absurd H (by simp)
                      · rw [if_neg c23] at H
                        exact absurd H (by simp)
                    · rw [if_neg c21] at H
                      have c21b0 : decide ((wrap64 (t154 + x14_2)) < (a0.size : Int)) = false := decide_eq_false c21
                      clear c21
                      by_cases c33 : x14_2 = 0
                      · rw [if_pos c33] at H
                        have c33b0 : (x14_2 == 0) = true := beq_iff_eq.mpr c33
                        have c33b1 : (x14_2 != 0) = false := bne_eq_false_iff_eq.mpr c33
                        clear c33
                        simp only [Option.some.injEq, Prod.mk.injEq] at H
                        obtain ⟨rfl, rfl, rfl⟩ := H
                        go_wp2
                        go_ret3
                        exact ⟨_, by first | rfl | (simp [errW_none, errW_some] <;> rfl) | (simp [*, errW_none, errW_some] <;> rfl), by first | exact Kd.R_nil _ _ _ _ _ | exact Kd.N_nil _ _ _ _ _ | exact Kd.V_nil _ _ _ _ _ | exact Kd.Q_nil _ _ _ _ _ | exact Kd.S_nil _ _ _ _ _, by repeat (first | (with_reducible first | exact HB.out | apply below_alloc | apply pw_below_drewN | apply below_drew1) | exact HB.out)⟩
                      · rw [if_neg c33] at H
                        have c33b0 : (x14_2 == 0) = false := beq_eq_false_iff_ne.mpr c33
                        have c33b1 : (x14_2 != 0) = true := bne_iff_ne.mpr c33
                        by_cases c34 : 0 ≤ t154
                        · rw [if_pos c34] at H
                          have c34b0 := eq_true c34
                          have c34b1 : decide (0 ≤ t154) = true := decide_eq_true c34
                          clear c34
                          by_cases c35 : t154 ≤ (wrap64 (t154 + x14_2))
                          · rw [if_pos c35] at H
                            have c35b0 := eq_true c35
                            have c35b1 : decide (t154 ≤ (wrap64 (t154 + x14_2))) = true := decide_eq_true c35
                            by_cases c36 : (wrap64 (t154 + x14_2)) ≤ (a0.size : Int)
                            · rw [if_pos c36] at H
                              have c36b0 := eq_true c36
                              have c36b1 : decide ((wrap64 (t154 + x14_2)) ≤ (a0.size : Int)) = true := decide_eq_true c36
                              by_cases c37 : x9_1.length < 2513169434916
                              · rw [if_pos c37] at H
                                have LMc37 := Aside0.mk c37
                                clear c37
                                obtain ⟨y167, hy167⟩ : ∃ y_ : List (S30), y_ = (x9_1 ++ [(⟨false, a0.extract (t154 : Int).toNat ((wrap64 (t154 + x14_2)) : Int).toNat, ([] : List (S30)), t154⟩ : S30)]) := ⟨_, rfl⟩
                                replace H : (carlingref02_nodes.l0 k2 a0 (wrap64 (t154 + x14_2)) a2 y167) = some (r1, r2, r3) := by first | (rw [hy167]; with_reducible exact H) | (have H2_ := (Option.bind_some _ _).symm.trans H; rw [hy167]; with_reducible exact H2_) | (have H2_ := (Option.bind_some _ _).symm.trans H; with_reducible exact H2_) | with_reducible exact H | (rw [hy167]; exact H) | exact H
                                have Ny167 := Aside0.mk hy167
                                clear hy167
                                have H' := Aside0.mk H
                                clear H
                                go_wp2_with (first | ((with_reducible refine gate_builtin (b := .append) (xs := #[.tmp 83, .tmp 92]) rfl ?_); at_builtin; refine Kd.R_append k30 (w0 := w) w.heap.size rfl (.tmp 83) (.tmp 92) 23 30 (.agg #[(.bool false), (.string ⟨#[]⟩), (.slice none 0 0), (.int .i64 0)]) 56 rfl Try.underlying23 info30 rfl (by decide) (by omega) u9 x9_1 (⟨false, a0.extract (t154 : Int).toNat ((wrap64 (t154 + x14_2)) : Int).toNat, ([] : List (S30)), t154⟩ : S30) [.bool false, .string (a0.extract (t154 : Int).toNat ((wrap64 (t154 + x14_2)) : Int).toNat), .slice none 0 0, .int .i64 t154] (fun _ => True) (fun k_ => ((fun _ => True)) k_ ∧ some k_ ≠ (u9 : Value).ownBlock) rfl rfl ?aP (fun _ hk => hk) ?aF ?aO ?aB ?aS ?aL ?_; (case aP => exact k30_mkM _ _ _ (⟨false, a0.extract (t154 : Int).toNat ((wrap64 (t154 + x14_2)) : Int).toNat, ([] : List (S30)), t154⟩ : S30) (Kd.R_nil _ _ _ _ _)); (case aB => exact (by repeat (first | (with_reducible first | exact HB.out | apply below_alloc | apply pw_below_drewN | apply below_drew1) | exact HB.out))); (case aF => exact (fun _ _ => trivial)); (case aO => exact (by (with_reducible repeat (first | apply Kd.R_alloc | apply Kd.R_drewN | apply Kd.R_drew)); exact HO_9.out)); (case aS => exact (below_size (by repeat (first | (with_reducible first | exact HB.out | apply below_alloc | apply pw_below_drewN | apply below_drew1) | exact HB.out)))); (case aL => have := LMc37.out; omega); intro v168 w38 ho hb hg hat; rw [← Ny167.out] at ho; have n0_ := Aside0.mk (hb); have n1_ := Aside0.mk (ho); clear HB; clear HO_9; have HB := n0_; have HO169 := n1_; clear n0_ n1_; clear ho hb hg hat))
                                go_roundg k2
                                case measure => have := HK1.out; have := HK2.out; omega
                                case rel => exact ⟨(wrap64 (t154 + x14_2)), (y167), (by first | rfl | (simp; done) | (simp [*]; done)), H', ⟨by have := HK1.out; have := HK2.out; omega⟩, ⟨by (with_reducible repeat (first | apply Kd.R_alloc | apply Kd.R_drewN | apply Kd.R_drew)); exact HO169.out⟩, ⟨by repeat (first | (with_reducible first | exact HB.out | apply below_alloc | apply pw_below_drewN | apply below_drew1) | exact HB.out)⟩⟩
                              · rw [if_neg c37] at H
                                exact absurd H (by simp)
                            · rw [if_neg c36] at H
                              exact absurd H (by simp)
                          · rw [if_neg c35] at H
                            exact absurd H (by simp)
                        · rw [if_neg c34] at H
                          exact absurd H (by simp)
          · rw [if_neg c8] at H
            exact absurd H (by simp)
        · rw [if_neg c7] at H
          exact absurd H (by simp)

end Go.Proofs.Ytciojbdkoojlhaa.P
