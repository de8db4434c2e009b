/- Written by a program of this session (gp.py), which drives the printer of the kit: contracts of Go functions over the translation, and the rows of laws: each says what its theorems state. Conditions: as each theorem states them. -/
import Derived.Test.YtnhianjjhkjeoaaPx0
import Derived.Test.YtnhianjjhkjeoaaPx7
namespace Go.Proofs.Ytnhianjjhkjeoaa.P
open Go.RowKit Go.Proofs.YtnhianjjhkjeoaaW.PrintWords Go.Proofs.YtnhianjjhkjeoaaW.PrintLast Go.Proofs.YtnhianjjhkjeoaaW.PrintMore
attribute [local go_sem] max2_int min2_int max_two min_two max_three min_three max_four min_four   -- for this text's walks alone
set_option linter.unusedVariables false
set_option linter.unusedSimpArgs false

/-! ### carlingref13_Of: function 17 -/
def carlingref13_Of.l0 : Nat → List Int → List (S31) → Int → Option ((List (S31)) × Int)
  | 0, _, _, _ => none
  | k + 1, x0, x4, x5 => if x5 < (x0.length : Int) then (if 0 ≤ x5 then (if 0 ≤ (wrap64 (x5 + 1)) then (if (wrap64 (x5 + 1)) < (x0.length : Int) then (if 0 ≤ (wrap64 (x5 + 2)) then (if (wrap64 (x5 + 2)) < (x0.length : Int) then (if 0 ≤ (wrap64 (x5 + 3)) then (if (wrap64 (x5 + 3)) < (x0.length : Int) then (if 0 ≤ (wrap64 (x5 + 4)) then (if (wrap64 (x5 + 4)) < (x0.length : Int) then (if 0 ≤ (wrap64 (x5 + 5)) then (if (wrap64 (x5 + 5)) < (x0.length : Int) then (if 0 ≤ (wrap64 (x5 + 6)) then (if (wrap64 (x5 + 6)) < (x0.length : Int) then (if 0 ≤ (wrap64 (x5 + 7)) then (if (wrap64 (x5 + 7)) < (x0.length : Int) then (if 0 ≤ (wrap64 (x5 + 8)) then (if (wrap64 (x5 + 8)) < (x0.length : Int) then ((carlingref13_Right.f k (wrap64 (rd x0 x5)) (wrap64 (rd x0 (wrap64 (x5 + 1)))) (wrap64 (rd x0 (wrap64 (x5 + 2)))) (wrap64 (rd x0 (wrap64 (x5 + 3)))) (wrap64 (rd x0 (wrap64 (x5 + 4)))) ((((((((((rd x0 (wrap64 (x5 + 5))) % 4294967296) * 16777216) % 4294967296) + ((((rd x0 (wrap64 (x5 + 6))) % 4294967296) * 65536) % 4294967296)) % 4294967296) + ((((rd x0 (wrap64 (x5 + 7))) % 4294967296) * 256) % 4294967296)) % 4294967296) + ((rd x0 (wrap64 (x5 + 8))) % 4294967296)) % 4294967296)).bind fun t176 => (if t176 = true then (if x4.length < 2932031007402 then (carlingref13_Of.l0 k x0 (x4 ++ [(⟨wrap64 (rd x0 x5), wrap64 (rd x0 (wrap64 (x5 + 1))), wrap64 (rd x0 (wrap64 (x5 + 2))), wrap64 (rd x0 (wrap64 (x5 + 3))), wrap64 (rd x0 (wrap64 (x5 + 4))), (((((((((rd x0 (wrap64 (x5 + 5))) % 4294967296) * 16777216) % 4294967296) + ((((rd x0 (wrap64 (x5 + 6))) % 4294967296) * 65536) % 4294967296)) % 4294967296) + ((((rd x0 (wrap64 (x5 + 7))) % 4294967296) * 256) % 4294967296)) % 4294967296) + ((rd x0 (wrap64 (x5 + 8))) % 4294967296)) % 4294967296⟩ : S31)]) (wrap64 (x5 + 9))) else (none)) else (some (([] : List (S31)), 6)))) else (none)) else (none)) else (none)) else (none)) else (none)) else (none)) else (none)) else (none)) else (none)) else (none)) else (none)) else (none)) else (none)) else (none)) else (none)) else (none)) else (none)) else (some (x4, 0))
def carlingref13_Of.f (k : Nat) (l0 : List Int) : Option ((List (S31)) × Int) := if ((l0.length : Int) % 9) = 0 then (carlingref13_Of.l0 k l0 ([] : List (S31)) 0) else (some (([] : List (S31)), 7))
theorem carlingref13_Of.mono_l : ∀ k, (∀ y0 y1 y2, LeO (carlingref13_Of.l0 k y0 y1 y2) (carlingref13_Of.l0 (k + 1) y0 y1 y2))
  | 0 => fun _ _ _ r h => by simp [carlingref13_Of.l0] at h
  | k + 1 => by
    have ih0 := carlingref13_Of.mono_l k
    · intro y0 y1 y2
      unfold carlingref13_Of.l0
      repeat' first
      | (with_reducible exact ih0 _ _ _)
      | (with_reducible exact carlingref13_Right.mono _ _ _ _ _ _ _)
      | (with_reducible exact LeO.refl _)
      | (with_reducible exact LeO.none _)
      | (with_reducible refine LeO.ite ?_ ?_)
      | (with_reducible refine LeO.bind ?_ (fun _ => ?_))
      | exact ih0 _ _ _
      | exact carlingref13_Right.mono _ _ _ _ _ _ _
      | exact LeO.none _
      | refine LeO.ite ?_ ?_
      | refine LeO.bind ?_ (fun _ => ?_)
theorem carlingref13_Of.mono : ∀ a0 k, LeO (carlingref13_Of.f k a0) (carlingref13_Of.f (k + 1) a0) := by
  intro a0 k
  have ih0 := carlingref13_Of.mono_l k
  unfold carlingref13_Of.f
  repeat' first
      | (with_reducible exact ih0 _ _ _)
      | (with_reducible exact carlingref13_Right.mono _ _ _ _ _ _ _)
      | (with_reducible exact LeO.refl _)
      | (with_reducible exact LeO.none _)
      | (with_reducible refine LeO.ite ?_ ?_)
      | (with_reducible refine LeO.bind ?_ (fun _ => ?_))
      | exact ih0 _ _ _
      | exact carlingref13_Right.mono _ _ _ _ _ _ _
      | exact LeO.none _
      | refine LeO.ite ?_ ?_
      | refine LeO.bind ?_ (fun _ => ?_)
def carlingref13_Of.T7 : Bool × List (List Nat × List Nat) := (true, [([], []), ([], []), ([0, 1], [0, 1]), ([2], [2]), ([3], [3]), ([], []), ([], []), ([6], [6]), ([5, 7], [5, 7]), ([8], [8]), ([9], [9]), ([], []), ([], []), ([12], [12]), ([11, 13], [11, 13]), ([14], [14]), ([15], [15]), ([], []), ([], []), ([18], [18]), ([17, 19], [17, 19]), ([20], [20]), ([21], [21]), ([], []), ([], []), ([24], [24]), ([23, 25], [23, 25]), ([26], [26]), ([27], [27]), ([4, 10, 16, 22, 28], [4, 10, 16, 22, 28]), ([], []), ([30, 29, 0, 1, 2, 3, 4, 5, 6, 7, 8, 9, 10, 11, 12, 13, 14, 15, 16, 17, 18, 19, 20, 21, 22, 23, 24, 25, 26, 27, 28, 29, 30], [29, 30])])
def carlingref13_Of.B7 : List Nat := [0, 0, 3, 7, 15, 0, 0, 64, 224, 480, 992, 0, 0, 4096, 14336, 30720, 63488, 0, 0, 262144, 917504, 1966080, 4063232, 0, 0, 16777216, 58720256, 125829120, 260046848, 536870911, 0, 2147483647]
theorem carlingref13_Of.tab7 : rtab .any (opsOf Try.f17 7) = carlingref13_Of.T7 := by kernel_rfl
theorem carlingref13_Of.bits7 : waitsOk carlingref13_Of.T7.2 carlingref13_Of.B7 = true := by kernel_rfl
def carlingref13_Of.T8 : Bool × List (List Nat × List Nat) := (true, [([], []), ([], []), ([1], [1]), ([0, 2], [0, 2]), ([3], [3]), ([4], [4]), ([5], [5]), ([], []), ([], []), ([8], [8]), ([7, 9], [7, 9]), ([10], [10]), ([11], [11]), ([12], [12]), ([6, 13], [6, 13]), ([], []), ([], []), ([16], [16]), ([15, 17], [15, 17]), ([18], [18]), ([19], [19]), ([20], [20]), ([14, 21], [14, 21]), ([], []), ([], []), ([24], [24]), ([23, 25], [23, 25]), ([26], [26]), ([27], [27]), ([22, 28], [22, 28]), ([0, 1, 2, 3, 4, 5, 6, 7, 8, 9, 10, 11, 12, 13, 14, 15, 16, 17, 18, 19, 20, 21, 22, 23, 24, 25, 26, 27, 28, 29], []), ([30, 29, 0, 1, 2, 3, 4, 5, 6, 7, 8, 9, 10, 11, 12, 13, 14, 15, 16, 17, 18, 19, 20, 21, 22, 23, 24, 25, 26, 27, 28, 29], [29, 30])])
def carlingref13_Of.B8 : List Nat := [0, 0, 2, 7, 15, 31, 63, 0, 0, 256, 896, 1920, 3968, 8064, 16383, 0, 0, 65536, 229376, 491520, 1015808, 2064384, 4194303, 0, 0, 16777216, 58720256, 125829120, 260046848, 536870911, 1073741823, 2147483647]
theorem carlingref13_Of.tab8 : rtab .any (opsOf Try.f17 8) = carlingref13_Of.T8 := by kernel_rfl
theorem carlingref13_Of.bits8 : waitsOk carlingref13_Of.T8.2 carlingref13_Of.B8 = true := by kernel_rfl
set_option maxHeartbeats 8000000 in
set_option maxRecDepth 100000 in
theorem carlingref13_Of.calls (k : Nat) (A0 : Option Addr) (c0 : Nat) (l0 : List Int) (r1 : List (S31)) (r2 : Int) (w : World) (hr0 : Kd.C (Kd.int .u8) w A0 l0.length l0) (hc0 : l0.length ≤ c0) (h : carlingref13_Of.f k l0 = some (r1, r2)) :
    Calls Try.prog 17 #[.slice A0 l0.length c0] w fun e w' => ∃ v0_ : Value, e = .returned (.tuple #[v0_, .int .i64 r2]) ∧ Kd.R k31 31 w' w.heap.size (fun _ => True) v0_ r1 ∧ Below w.heap.size w w' := by
  have hu31 := Try.underlying31
  have HR0 := Aside0.mk hr0
  have HC0 := Aside0.mk hc0
  clear hr0 hc0
  have HB := Aside0.mk (Below.refl w.heap.size w)
  have H : (if ((l0.length : Int) % 9) = 0 then (carlingref13_Of.l0 k l0 ([] : List (S31)) 0) else (some (([] : List (S31)), 7))) = some (r1, r2) := h
  clear h
  by_cases c2 : ((l0.length : Int) % 9) = 0
  · rw [if_pos c2] at H
    have c2b0 : (((l0.length : Int) % 9) == 0) = true := beq_iff_eq.mpr c2
    have c2b1 : (((l0.length : Int) % 9) != 0) = false := bne_eq_false_iff_eq.mpr c2
    clear c2
    have H' := Aside0.mk H
    clear H
    go_enter Try.func17, Try.ntmps17
    go_wp2
    go_loopg [4, 5] k (fun kq v4 v5 w' => ∃ (x4_1 : List (S31)) (x5_1 : Int), v5 = .int .i64 x5_1 ∧ Aside0 (carlingref13_Of.l0 kq l0 x4_1 x5_1 = some (r1, r2)) ∧ Aside0 (kq ≤ k) ∧ Aside0 (Kd.R k31 31 w' w.heap.size (fun _ => True) v4 x4_1) ∧ Aside0 (Below w.heap.size w w'))
    case atStart => exact ⟨(([] : List (S31))), (0), (by first | rfl | (simp; done) | (simp [*]; done)), H', ⟨Nat.le_refl _⟩, ⟨by first | exact Kd.R_nil _ _ _ _ _ | exact Kd.N_nil _ _ _ _ _ | exact Kd.V_nil _ _ _ _ _ | exact Kd.Q_nil _ _ _ _ _ | exact Kd.S_nil _ _ _ _ _⟩, ⟨by repeat (first | (with_reducible first | exact HB.out | apply below_alloc | apply pw_below_drewN | apply below_drew1) | exact HB.out)⟩⟩
    case round =>
      clear H'
      try clear c1
      try clear c2
      try clear c2b0
      try clear c2b1
      try clear p2
      obtain ⟨x4_1, x5_1, rfl, HA, HK1, HO_4, HB⟩ := hrel
      cases gk with
      | zero => exact absurd HA.out (by simp [carlingref13_Of.l0])
      | succ k1 =>
        have H := HA.out
        clear HA
        simp only [carlingref13_Of.l0] at H
        have HE_ := Aside0.mk (show ∀ a b c d : Int, (a % 4294967296 * 16777216 + b % 4294967296 * 65536 + c % 4294967296 * 256 + d) % 4294967296 = ((((((((a % 4294967296) * 16777216) % 4294967296) + (((b % 4294967296) * 65536) % 4294967296)) % 4294967296) + (((c % 4294967296) * 256) % 4294967296)) % 4294967296) + (d % 4294967296)) % 4294967296 from by intro a b c d; omega)
        by_cases c3 : x5_1 < (l0.length : Int)
        · rw [if_pos c3] at H
          have c3b0 : decide (x5_1 < (l0.length : Int)) = true := decide_eq_true c3
          clear c3
          by_cases c4 : 0 ≤ x5_1
          · rw [if_pos c4] at H
            have c4b0 : decide (0 ≤ x5_1) = true := decide_eq_true c4
            clear c4
            obtain ⟨ji5, hji5⟩ : ∃ j_ : Int, (wrap64 (x5_1 + 1)) = j_ := ⟨_, rfl⟩
            replace H : (if 0 ≤ (ji5) then (if (ji5) < (l0.length : Int) then (if 0 ≤ (wrap64 (x5_1 + 2)) then (if (wrap64 (x5_1 + 2)) < (l0.length : Int) then (if 0 ≤ (wrap64 (x5_1 + 3)) then (if (wrap64 (x5_1 + 3)) < (l0.length : Int) then (if 0 ≤ (wrap64 (x5_1 + 4)) then (if (wrap64 (x5_1 + 4)) < (l0.length : Int) then (if 0 ≤ (wrap64 (x5_1 + 5)) then (if (wrap64 (x5_1 + 5)) < (l0.length : Int) then (if 0 ≤ (wrap64 (x5_1 + 6)) then (if (wrap64 (x5_1 + 6)) < (l0.length : Int) then (if 0 ≤ (wrap64 (x5_1 + 7)) then (if (wrap64 (x5_1 + 7)) < (l0.length : Int) then (if 0 ≤ (wrap64 (x5_1 + 8)) then (if (wrap64 (x5_1 + 8)) < (l0.length : Int) then ((carlingref13_Right.f k1 (wrap64 (rd l0 x5_1)) (wrap64 (rd l0 (ji5))) (wrap64 (rd l0 (wrap64 (x5_1 + 2)))) (wrap64 (rd l0 (wrap64 (x5_1 + 3)))) (wrap64 (rd l0 (wrap64 (x5_1 + 4)))) ((((((((((rd l0 (wrap64 (x5_1 + 5))) % 4294967296) * 16777216) % 4294967296) + ((((rd l0 (wrap64 (x5_1 + 6))) % 4294967296) * 65536) % 4294967296)) % 4294967296) + ((((rd l0 (wrap64 (x5_1 + 7))) % 4294967296) * 256) % 4294967296)) % 4294967296) + ((rd l0 (wrap64 (x5_1 + 8))) % 4294967296)) % 4294967296)).bind fun t176 => (if t176 = true then (if x4_1.length < 2932031007402 then (carlingref13_Of.l0 k1 l0 (x4_1 ++ [(⟨wrap64 (rd l0 x5_1), wrap64 (rd l0 (ji5)), wrap64 (rd l0 (wrap64 (x5_1 + 2))), wrap64 (rd l0 (wrap64 (x5_1 + 3))), wrap64 (rd l0 (wrap64 (x5_1 + 4))), (((((((((rd l0 (wrap64 (x5_1 + 5))) % 4294967296) * 16777216) % 4294967296) + ((((rd l0 (wrap64 (x5_1 + 6))) % 4294967296) * 65536) % 4294967296)) % 4294967296) + ((((rd l0 (wrap64 (x5_1 + 7))) % 4294967296) * 256) % 4294967296)) % 4294967296) + ((rd l0 (wrap64 (x5_1 + 8))) % 4294967296)) % 4294967296⟩ : S31)]) (wrap64 (x5_1 + 9))) else (none)) else (some (([] : List (S31)), 6)))) else (none)) else (none)) else (none)) else (none)) else (none)) else (none)) else (none)) else (none)) else (none)) else (none)) else (none)) else (none)) else (none)) else (none)) else (none)) else (none)) = some (r1, r2) := by first | (rw [hji5] at H; exact H) | (simp only [hji5] at H ⊢; exact H)
            have hji5w : (IntKind.i64.wrap (x5_1 + 1)) = ji5 := (i64_w _).trans hji5
            by_cases c6 : 0 ≤ (ji5)
            · rw [if_pos c6] at H
              have c6b0 : decide (0 ≤ (ji5)) = true := decide_eq_true c6
              clear c6
              by_cases c7 : (ji5) < (l0.length : Int)
              · rw [if_pos c7] at H
                have c7b0 : decide ((ji5) < (l0.length : Int)) = true := decide_eq_true c7
                clear c7
                obtain ⟨ji8, hji8⟩ : ∃ j_ : Int, (wrap64 (x5_1 + 2)) = j_ := ⟨_, rfl⟩
                replace H : (if 0 ≤ (ji8) then (if (ji8) < (l0.length : Int) then (if 0 ≤ (wrap64 (x5_1 + 3)) then (if (wrap64 (x5_1 + 3)) < (l0.length : Int) then (if 0 ≤ (wrap64 (x5_1 + 4)) then (if (wrap64 (x5_1 + 4)) < (l0.length : Int) then (if 0 ≤ (wrap64 (x5_1 + 5)) then (if (wrap64 (x5_1 + 5)) < (l0.length : Int) then (if 0 ≤ (wrap64 (x5_1 + 6)) then (if (wrap64 (x5_1 + 6)) < (l0.length : Int) then (if 0 ≤ (wrap64 (x5_1 + 7)) then (if (wrap64 (x5_1 + 7)) < (l0.length : Int) then (if 0 ≤ (wrap64 (x5_1 + 8)) then (if (wrap64 (x5_1 + 8)) < (l0.length : Int) then ((carlingref13_Right.f k1 (wrap64 (rd l0 x5_1)) (wrap64 (rd l0 (ji5))) (wrap64 (rd l0 (ji8))) (wrap64 (rd l0 (wrap64 (x5_1 + 3)))) (wrap64 (rd l0 (wrap64 (x5_1 + 4)))) ((((((((((rd l0 (wrap64 (x5_1 + 5))) % 4294967296) * 16777216) % 4294967296) + ((((rd l0 (wrap64 (x5_1 + 6))) % 4294967296) * 65536) % 4294967296)) % 4294967296) + ((((rd l0 (wrap64 (x5_1 + 7))) % 4294967296) * 256) % 4294967296)) % 4294967296) + ((rd l0 (wrap64 (x5_1 + 8))) % 4294967296)) % 4294967296)).bind fun t176 => (if t176 = true then (if x4_1.length < 2932031007402 then (carlingref13_Of.l0 k1 l0 (x4_1 ++ [(⟨wrap64 (rd l0 x5_1), wrap64 (rd l0 (ji5)), wrap64 (rd l0 (ji8)), wrap64 (rd l0 (wrap64 (x5_1 + 3))), wrap64 (rd l0 (wrap64 (x5_1 + 4))), (((((((((rd l0 (wrap64 (x5_1 + 5))) % 4294967296) * 16777216) % 4294967296) + ((((rd l0 (wrap64 (x5_1 + 6))) % 4294967296) * 65536) % 4294967296)) % 4294967296) + ((((rd l0 (wrap64 (x5_1 + 7))) % 4294967296) * 256) % 4294967296)) % 4294967296) + ((rd l0 (wrap64 (x5_1 + 8))) % 4294967296)) % 4294967296⟩ : S31)]) (wrap64 (x5_1 + 9))) else (none)) else (some (([] : List (S31)), 6)))) else (none)) else (none)) else (none)) else (none)) else (none)) else (none)) else (none)) else (none)) else (none)) else (none)) else (none)) else (none)) else (none)) else (none)) = some (r1, r2) := by first | (rw [hji8] at H; exact H) | (simp only [hji8] at H ⊢; exact H)
                have hji8w : (IntKind.i64.wrap (x5_1 + 2)) = ji8 := (i64_w _).trans hji8
                by_cases c9 : 0 ≤ (ji8)
                · rw [if_pos c9] at H
                  have c9b0 : decide (0 ≤ (ji8)) = true := decide_eq_true c9
                  clear c9
                  by_cases c10 : (ji8) < (l0.length : Int)
                  · rw [if_pos c10] at H
                    have c10b0 : decide ((ji8) < (l0.length : Int)) = true := decide_eq_true c10
                    clear c10
                    obtain ⟨ji11, hji11⟩ : ∃ j_ : Int, (wrap64 (x5_1 + 3)) = j_ := ⟨_, rfl⟩
                    replace H : (if 0 ≤ (ji11) then (if (ji11) < (l0.length : Int) then (if 0 ≤ (wrap64 (x5_1 + 4)) then (if (wrap64 (x5_1 + 4)) < (l0.length : Int) then (if 0 ≤ (wrap64 (x5_1 + 5)) then (if (wrap64 (x5_1 + 5)) < (l0.length : Int) then (if 0 ≤ (wrap64 (x5_1 + 6)) then (if (wrap64 (x5_1 + 6)) < (l0.length : Int) then (if 0 ≤ (wrap64 (x5_1 + 7)) then (if (wrap64 (x5_1 + 7)) < (l0.length : Int) then (if 0 ≤ (wrap64 (x5_1 + 8)) then (if (wrap64 (x5_1 + 8)) < (l0.length : Int) then ((carlingref13_Right.f k1 (wrap64 (rd l0 x5_1)) (wrap64 (rd l0 (ji5))) (wrap64 (rd l0 (ji8))) (wrap64 (rd l0 (ji11))) (wrap64 (rd l0 (wrap64 (x5_1 + 4)))) ((((((((((rd l0 (wrap64 (x5_1 + 5))) % 4294967296) * 16777216) % 4294967296) + ((((rd l0 (wrap64 (x5_1 + 6))) % 4294967296) * 65536) % 4294967296)) % 4294967296) + ((((rd l0 (wrap64 (x5_1 + 7))) % 4294967296) * 256) % 4294967296)) % 4294967296) + ((rd l0 (wrap64 (x5_1 + 8))) % 4294967296)) % 4294967296)).bind fun t176 => (if t176 = true then (if x4_1.length < 2932031007402 then (carlingref13_Of.l0 k1 l0 (x4_1 ++ [(⟨wrap64 (rd l0 x5_1), wrap64 (rd l0 (ji5)), wrap64 (rd l0 (ji8)), wrap64 (rd l0 (ji11)), wrap64 (rd l0 (wrap64 (x5_1 + 4))), (((((((((rd l0 (wrap64 (x5_1 + 5))) % 4294967296) * 16777216) % 4294967296) + ((((rd l0 (wrap64 (x5_1 + 6))) % 4294967296) * 65536) % 4294967296)) % 4294967296) + ((((rd l0 (wrap64 (x5_1 + 7))) % 4294967296) * 256) % 4294967296)) % 4294967296) + ((rd l0 (wrap64 (x5_1 + 8))) % 4294967296)) % 4294967296⟩ : S31)]) (wrap64 (x5_1 + 9))) else (none)) else (some (([] : List (S31)), 6)))) else (none)) else (none)) else (none)) else (none)) else (none)) else (none)) else (none)) else (none)) else (none)) else (none)) else (none)) else (none)) = some (r1, r2) := by first | (rw [hji11] at H; exact H) | (simp only [hji11] at H ⊢; exact H)
                    have hji11w : (IntKind.i64.wrap (x5_1 + 3)) = ji11 := (i64_w _).trans hji11
                    by_cases c12 : 0 ≤ (ji11)
                    · rw [if_pos c12] at H
                      have c12b0 : decide (0 ≤ (ji11)) = true := decide_eq_true c12
                      clear c12
                      by_cases c13 : (ji11) < (l0.length : Int)
                      · rw [if_pos c13] at H
                        have c13b0 : decide ((ji11) < (l0.length : Int)) = true := decide_eq_true c13
                        clear c13
                        obtain ⟨ji14, hji14⟩ : ∃ j_ : Int, (wrap64 (x5_1 + 4)) = j_ := ⟨_, rfl⟩
                        replace H : (if 0 ≤ (ji14) then (if (ji14) < (l0.length : Int) then (if 0 ≤ (wrap64 (x5_1 + 5)) then (if (wrap64 (x5_1 + 5)) < (l0.length : Int) then (if 0 ≤ (wrap64 (x5_1 + 6)) then (if (wrap64 (x5_1 + 6)) < (l0.length : Int) then (if 0 ≤ (wrap64 (x5_1 + 7)) then (if (wrap64 (x5_1 + 7)) < (l0.length : Int) then (if 0 ≤ (wrap64 (x5_1 + 8)) then (if (wrap64 (x5_1 + 8)) < (l0.length : Int) then ((carlingref13_Right.f k1 (wrap64 (rd l0 x5_1)) (wrap64 (rd l0 (ji5))) (wrap64 (rd l0 (ji8))) (wrap64 (rd l0 (ji11))) (wrap64 (rd l0 (ji14))) ((((((((((rd l0 (wrap64 (x5_1 + 5))) % 4294967296) * 16777216) % 4294967296) + ((((rd l0 (wrap64 (x5_1 + 6))) % 4294967296) * 65536) % 4294967296)) % 4294967296) + ((((rd l0 (wrap64 (x5_1 + 7))) % 4294967296) * 256) % 4294967296)) % 4294967296) + ((rd l0 (wrap64 (x5_1 + 8))) % 4294967296)) % 4294967296)).bind fun t176 => (if t176 = true then (if x4_1.length < 2932031007402 then (carlingref13_Of.l0 k1 l0 (x4_1 ++ [(⟨wrap64 (rd l0 x5_1), wrap64 (rd l0 (ji5)), wrap64 (rd l0 (ji8)), wrap64 (rd l0 (ji11)), wrap64 (rd l0 (ji14)), (((((((((rd l0 (wrap64 (x5_1 + 5))) % 4294967296) * 16777216) % 4294967296) + ((((rd l0 (wrap64 (x5_1 + 6))) % 4294967296) * 65536) % 4294967296)) % 4294967296) + ((((rd l0 (wrap64 (x5_1 + 7))) % 4294967296) * 256) % 4294967296)) % 4294967296) + ((rd l0 (wrap64 (x5_1 + 8))) % 4294967296)) % 4294967296⟩ : S31)]) (wrap64 (x5_1 + 9))) else (none)) else (some (([] : List (S31)), 6)))) else (none)) else (none)) else (none)) else (none)) else (none)) else (none)) else (none)) else (none)) else (none)) else (none)) = some (r1, r2) := by first | (rw [hji14] at H; exact H) | (simp only [hji14] at H ⊢; exact H)
                        have hji14w : (IntKind.i64.wrap (x5_1 + 4)) = ji14 := (i64_w _).trans hji14
                        by_cases c15 : 0 ≤ (ji14)
                        · rw [if_pos c15] at H
                          have c15b0 : decide (0 ≤ (ji14)) = true := decide_eq_true c15
                          clear c15
                          by_cases c16 : (ji14) < (l0.length : Int)
                          · rw [if_pos c16] at H
                            have c16b0 : decide ((ji14) < (l0.length : Int)) = true := decide_eq_true c16
                            clear c16
                            obtain ⟨ji17, hji17⟩ : ∃ j_ : Int, (wrap64 (x5_1 + 5)) = j_ := ⟨_, rfl⟩
                            replace H : (if 0 ≤ (ji17) then (if (ji17) < (l0.length : Int) then (if 0 ≤ (wrap64 (x5_1 + 6)) then (if (wrap64 (x5_1 + 6)) < (l0.length : Int) then (if 0 ≤ (wrap64 (x5_1 + 7)) then (if (wrap64 (x5_1 + 7)) < (l0.length : Int) then (if 0 ≤ (wrap64 (x5_1 + 8)) then (if (wrap64 (x5_1 + 8)) < (l0.length : Int) then ((carlingref13_Right.f k1 (wrap64 (rd l0 x5_1)) (wrap64 (rd l0 (ji5))) (wrap64 (rd l0 (ji8))) (wrap64 (rd l0 (ji11))) (wrap64 (rd l0 (ji14))) ((((((((((rd l0 (ji17)) % 4294967296) * 16777216) % 4294967296) + ((((rd l0 (wrap64 (x5_1 + 6))) % 4294967296) * 65536) % 4294967296)) % 4294967296) + ((((rd l0 (wrap64 (x5_1 + 7))) % 4294967296) * 256) % 4294967296)) % 4294967296) + ((rd l0 (wrap64 (x5_1 + 8))) % 4294967296)) % 4294967296)).bind fun t176 => (if t176 = true then (if x4_1.length < 2932031007402 then (carlingref13_Of.l0 k1 l0 (x4_1 ++ [(⟨wrap64 (rd l0 x5_1), wrap64 (rd l0 (ji5)), wrap64 (rd l0 (ji8)), wrap64 (rd l0 (ji11)), wrap64 (rd l0 (ji14)), (((((((((rd l0 (ji17)) % 4294967296) * 16777216) % 4294967296) + ((((rd l0 (wrap64 (x5_1 + 6))) % 4294967296) * 65536) % 4294967296)) % 4294967296) + ((((rd l0 (wrap64 (x5_1 + 7))) % 4294967296) * 256) % 4294967296)) % 4294967296) + ((rd l0 (wrap64 (x5_1 + 8))) % 4294967296)) % 4294967296⟩ : S31)]) (wrap64 (x5_1 + 9))) else (none)) else (some (([] : List (S31)), 6)))) else (none)) else (none)) else (none)) else (none)) else (none)) else (none)) else (none)) else (none)) = some (r1, r2) := by first | (rw [hji17] at H; exact H) | (simp only [hji17] at H ⊢; exact H)
                            have hji17w : (IntKind.i64.wrap (x5_1 + 5)) = ji17 := (i64_w _).trans hji17
                            by_cases c18 : 0 ≤ (ji17)
                            · rw [if_pos c18] at H
                              have c18b0 : decide (0 ≤ (ji17)) = true := decide_eq_true c18
                              clear c18
                              by_cases c19 : (ji17) < (l0.length : Int)
                              · rw [if_pos c19] at H
                                have c19b0 : decide ((ji17) < (l0.length : Int)) = true := decide_eq_true c19
                                clear c19
                                obtain ⟨ji20, hji20⟩ : ∃ j_ : Int, (wrap64 (x5_1 + 6)) = j_ := ⟨_, rfl⟩
                                replace H : (if 0 ≤ (ji20) then (if (ji20) < (l0.length : Int) then (if 0 ≤ (wrap64 (x5_1 + 7)) then (if (wrap64 (x5_1 + 7)) < (l0.length : Int) then (if 0 ≤ (wrap64 (x5_1 + 8)) then (if (wrap64 (x5_1 + 8)) < (l0.length : Int) then ((carlingref13_Right.f k1 (wrap64 (rd l0 x5_1)) (wrap64 (rd l0 (ji5))) (wrap64 (rd l0 (ji8))) (wrap64 (rd l0 (ji11))) (wrap64 (rd l0 (ji14))) ((((((((((rd l0 (ji17)) % 4294967296) * 16777216) % 4294967296) + ((((rd l0 (ji20)) % 4294967296) * 65536) % 4294967296)) % 4294967296) + ((((rd l0 (wrap64 (x5_1 + 7))) % 4294967296) * 256) % 4294967296)) % 4294967296) + ((rd l0 (wrap64 (x5_1 + 8))) % 4294967296)) % 4294967296)).bind fun t176 => (if t176 = true then (if x4_1.length < 2932031007402 then (carlingref13_Of.l0 k1 l0 (x4_1 ++ [(⟨wrap64 (rd l0 x5_1), wrap64 (rd l0 (ji5)), wrap64 (rd l0 (ji8)), wrap64 (rd l0 (ji11)), wrap64 (rd l0 (ji14)), (((((((((rd l0 (ji17)) % 4294967296) * 16777216) % 4294967296) + ((((rd l0 (ji20)) % 4294967296) * 65536) % 4294967296)) % 4294967296) + ((((rd l0 (wrap64 (x5_1 + 7))) % 4294967296) * 256) % 4294967296)) % 4294967296) + ((rd l0 (wrap64 (x5_1 + 8))) % 4294967296)) % 4294967296⟩ : S31)]) (wrap64 (x5_1 + 9))) else (none)) else (some (([] : List (S31)), 6)))) else (none)) else (none)) else (none)) else (none)) else (none)) else (none)) = some (r1, r2) := by first | (rw [hji20] at H; exact H) | (simp only [hji20] at H ⊢; exact H)
                                have hji20w : (IntKind.i64.wrap (x5_1 + 6)) = ji20 := (i64_w _).trans hji20
                                by_cases c21 : 0 ≤ (ji20)
                                · rw [if_pos c21] at H
                                  have c21b0 : decide (0 ≤ (ji20)) = true := decide_eq_true c21
                                  clear c21
                                  by_cases c22 : (ji20) < (l0.length : Int)
                                  · rw [if_pos c22] at H
                                    have c22b0 : decide ((ji20) < (l0.length : Int)) = true := decide_eq_true c22
                                    clear c22
                                    obtain ⟨ji23, hji23⟩ : ∃ j_ : Int, (wrap64 (x5_1 + 7)) = j_ := ⟨_, rfl⟩
                                    replace H : (if 0 ≤ (ji23) then (if (ji23) < (l0.length : Int) then (if 0 ≤ (wrap64 (x5_1 + 8)) then (if (wrap64 (x5_1 + 8)) < (l0.length : Int) then ((carlingref13_Right.f k1 (wrap64 (rd l0 x5_1)) (wrap64 (rd l0 (ji5))) (wrap64 (rd l0 (ji8))) (wrap64 (rd l0 (ji11))) (wrap64 (rd l0 (ji14))) ((((((((((rd l0 (ji17)) % 4294967296) * 16777216) % 4294967296) + ((((rd l0 (ji20)) % 4294967296) * 65536) % 4294967296)) % 4294967296) + ((((rd l0 (ji23)) % 4294967296) * 256) % 4294967296)) % 4294967296) + ((rd l0 (wrap64 (x5_1 + 8))) % 4294967296)) % 4294967296)).bind fun t176 => (if t176 = true then (if x4_1.length < 2932031007402 then (carlingref13_Of.l0 k1 l0 (x4_1 ++ [(⟨wrap64 (rd l0 x5_1), wrap64 (rd l0 (ji5)), wrap64 (rd l0 (ji8)), wrap64 (rd l0 (ji11)), wrap64 (rd l0 (ji14)), (((((((((rd l0 (ji17)) % 4294967296) * 16777216) % 4294967296) + ((((rd l0 (ji20)) % 4294967296) * 65536) % 4294967296)) % 4294967296) + ((((rd l0 (ji23)) % 4294967296) * 256) % 4294967296)) % 4294967296) + ((rd l0 (wrap64 (x5_1 + 8))) % 4294967296)) % 4294967296⟩ : S31)]) (wrap64 (x5_1 + 9))) else (none)) else (some (([] : List (S31)), 6)))) else (none)) else (none)) else (none)) else (none)) = some (r1, r2) := by first | (rw [hji23] at H; exact H) | (simp only [hji23] at H ⊢; exact H)
                                    have hji23w : (IntKind.i64.wrap (x5_1 + 7)) = ji23 := (i64_w _).trans hji23
                                    by_cases c24 : 0 ≤ (ji23)
                                    · rw [if_pos c24] at H
                                      have c24b0 : decide (0 ≤ (ji23)) = true := decide_eq_true c24
                                      clear c24
                                      by_cases c25 : (ji23) < (l0.length : Int)
                                      · rw [if_pos c25] at H
                                        have c25b0 : decide ((ji23) < (l0.length : Int)) = true := decide_eq_true c25
                                        clear c25
                                        obtain ⟨ji26, hji26⟩ : ∃ j_ : Int, (wrap64 (x5_1 + 8)) = j_ := ⟨_, rfl⟩
                                        replace H : (if 0 ≤ (ji26) then (if (ji26) < (l0.length : Int) then ((carlingref13_Right.f k1 (wrap64 (rd l0 x5_1)) (wrap64 (rd l0 (ji5))) (wrap64 (rd l0 (ji8))) (wrap64 (rd l0 (ji11))) (wrap64 (rd l0 (ji14))) ((((((((((rd l0 (ji17)) % 4294967296) * 16777216) % 4294967296) + ((((rd l0 (ji20)) % 4294967296) * 65536) % 4294967296)) % 4294967296) + ((((rd l0 (ji23)) % 4294967296) * 256) % 4294967296)) % 4294967296) + ((rd l0 (ji26)) % 4294967296)) % 4294967296)).bind fun t176 => (if t176 = true then (if x4_1.length < 2932031007402 then (carlingref13_Of.l0 k1 l0 (x4_1 ++ [(⟨wrap64 (rd l0 x5_1), wrap64 (rd l0 (ji5)), wrap64 (rd l0 (ji8)), wrap64 (rd l0 (ji11)), wrap64 (rd l0 (ji14)), (((((((((rd l0 (ji17)) % 4294967296) * 16777216) % 4294967296) + ((((rd l0 (ji20)) % 4294967296) * 65536) % 4294967296)) % 4294967296) + ((((rd l0 (ji23)) % 4294967296) * 256) % 4294967296)) % 4294967296) + ((rd l0 (ji26)) % 4294967296)) % 4294967296⟩ : S31)]) (wrap64 (x5_1 + 9))) else (none)) else (some (([] : List (S31)), 6)))) else (none)) else (none)) = some (r1, r2) := by first | (rw [hji26] at H; exact H) | (simp only [hji26] at H ⊢; exact H)
                                        have hji26w : (IntKind.i64.wrap (x5_1 + 8)) = ji26 := (i64_w _).trans hji26
                                        by_cases c27 : 0 ≤ (ji26)
                                        · rw [if_pos c27] at H
                                          have c27b0 : decide (0 ≤ (ji26)) = true := decide_eq_true c27
                                          clear c27
                                          by_cases c28 : (ji26) < (l0.length : Int)
                                          · rw [if_pos c28] at H
                                            have c28b0 : decide ((ji26) < (l0.length : Int)) = true := decide_eq_true c28
                                            clear c28
                                            replace H := Option.bind_eq_some_iff.mp H
                                            obtain ⟨t176, A290, H⟩ := H
                                            replace H : (if t176 = true then (if x4_1.length < 2932031007402 then (carlingref13_Of.l0 k1 l0 (x4_1 ++ [(⟨wrap64 (rd l0 x5_1), wrap64 (rd l0 (ji5)), wrap64 (rd l0 (ji8)), wrap64 (rd l0 (ji11)), wrap64 (rd l0 (ji14)), (((((((((rd l0 (ji17)) % 4294967296) * 16777216) % 4294967296) + ((((rd l0 (ji20)) % 4294967296) * 65536) % 4294967296)) % 4294967296) + ((((rd l0 (ji23)) % 4294967296) * 256) % 4294967296)) % 4294967296) + ((rd l0 (ji26)) % 4294967296)) % 4294967296⟩ : S31)]) (wrap64 (x5_1 + 9))) else (none)) else (some (([] : List (S31)), 6))) = some (r1, r2) := H
                                            have A29 := Aside0.mk A290
                                            clear A290
                                            by_cases c30 : t176 = true
                                            · subst c30
                                              have H1 : (if x4_1.length < 2932031007402 then (carlingref13_Of.l0 k1 l0 (x4_1 ++ [(⟨wrap64 (rd l0 x5_1), wrap64 (rd l0 (ji5)), wrap64 (rd l0 (ji8)), wrap64 (rd l0 (ji11)), wrap64 (rd l0 (ji14)), (((((((((rd l0 (ji17)) % 4294967296) * 16777216) % 4294967296) + ((((rd l0 (ji20)) % 4294967296) * 65536) % 4294967296)) % 4294967296) + ((((rd l0 (ji23)) % 4294967296) * 256) % 4294967296)) % 4294967296) + ((rd l0 (ji26)) % 4294967296)) % 4294967296⟩ : S31)]) (wrap64 (x5_1 + 9))) else (none)) = some (r1, r2) := by rw [if_pos rfl] at H; exact H
                                              clear H
                                              have H := H1
                                              clear H1
                                              by_cases c31 : x4_1.length < 2932031007402
                                              · rw [if_pos c31] at H
                                                have LMc31 := Aside0.mk c31
                                                clear c31
                                                obtain ⟨y177, hy177⟩ : ∃ y_ : List (S31), y_ = (x4_1 ++ [(⟨wrap64 (rd l0 x5_1), wrap64 (rd l0 (ji5)), wrap64 (rd l0 (ji8)), wrap64 (rd l0 (ji11)), wrap64 (rd l0 (ji14)), (((((((((rd l0 (ji17)) % 4294967296) * 16777216) % 4294967296) + ((((rd l0 (ji20)) % 4294967296) * 65536) % 4294967296)) % 4294967296) + ((((rd l0 (ji23)) % 4294967296) * 256) % 4294967296)) % 4294967296) + ((rd l0 (ji26)) % 4294967296)) % 4294967296⟩ : S31)]) := ⟨_, rfl⟩
                                                replace H : (carlingref13_Of.l0 k1 l0 y177 (wrap64 (x5_1 + 9))) = some (r1, r2) := by first | (rw [hy177]; with_reducible exact H) | (have H2_ := (Option.bind_some _ _).symm.trans H; rw [hy177]; with_reducible exact H2_) | (have H2_ := (Option.bind_some _ _).symm.trans H; with_reducible exact H2_) | with_reducible exact H | (rw [hy177]; exact H) | exact H
                                                have Ny177 := Aside0.mk hy177
                                                clear hy177
                                                have H' := Aside0.mk H
                                                clear H
                                                try go_wp2
                                                have n0_ := Aside0.mk (Kd.R_drew HO_4.out)
                                                have n1_ := Aside0.mk (below_drew1 HB.out)
                                                clear HO_4
                                                clear HB
                                                have HO_4 := n0_
                                                have HB := n1_
                                                clear n0_ n1_
                                                have p166 : 0 ≤ (x5_1 : Int) := of_decide_eq_true (by first | (with_reducible assumption) | assumption)
                                                have q166 : x5_1 < (l0.length : Int) := of_decide_eq_true (by first | (with_reducible assumption) | assumption)
                                                obtain ⟨ad166, e166, hx166_0⟩ := Kd.at_int HR0.out x5_1 p166 q166
                                                have hw166_0 := hx166_0
                                                cases e166
                                                replace hx166_0 := (HB.out.cell (World.block_lt_of_cell? w _ hx166_0)).trans hx166_0
                                                replace p166 := eq_true p166
                                                replace q166 := eq_true q166
                                                have p167 : 0 ≤ ((ji5) : Int) := of_decide_eq_true (by first | (with_reducible assumption) | assumption)
                                                have q167 : (ji5) < (l0.length : Int) := of_decide_eq_true (by first | (with_reducible assumption) | assumption)
                                                obtain ⟨ad167, e167, hx167_0⟩ := Kd.at_int HR0.out (ji5) p167 q167
                                                have hw167_0 := hx167_0
                                                obtain rfl : ad166 = ad167 := (by injection e167)
                                                replace hx167_0 := (HB.out.cell (World.block_lt_of_cell? w _ hx167_0)).trans hx167_0
                                                replace p167 := eq_true p167
                                                replace q167 := eq_true q167
                                                have p168 : 0 ≤ ((ji8) : Int) := of_decide_eq_true (by first | (with_reducible assumption) | assumption)
                                                have q168 : (ji8) < (l0.length : Int) := of_decide_eq_true (by first | (with_reducible assumption) | assumption)
                                                obtain ⟨ad168, e168, hx168_0⟩ := Kd.at_int HR0.out (ji8) p168 q168
                                                have hw168_0 := hx168_0
                                                obtain rfl : ad166 = ad168 := (by injection e168)
                                                replace hx168_0 := (HB.out.cell (World.block_lt_of_cell? w _ hx168_0)).trans hx168_0
                                                replace p168 := eq_true p168
                                                replace q168 := eq_true q168
                                                have p169 : 0 ≤ ((ji11) : Int) := of_decide_eq_true (by first | (with_reducible assumption) | assumption)
                                                have q169 : (ji11) < (l0.length : Int) := of_decide_eq_true (by first | (with_reducible assumption) | assumption)
                                                obtain ⟨ad169, e169, hx169_0⟩ := Kd.at_int HR0.out (ji11) p169 q169
                                                have hw169_0 := hx169_0
                                                obtain rfl : ad166 = ad169 := (by injection e169)
                                                replace hx169_0 := (HB.out.cell (World.block_lt_of_cell? w _ hx169_0)).trans hx169_0
                                                replace p169 := eq_true p169
                                                replace q169 := eq_true q169
                                                have p170 : 0 ≤ ((ji14) : Int) := of_decide_eq_true (by first | (with_reducible assumption) | assumption)
                                                have q170 : (ji14) < (l0.length : Int) := of_decide_eq_true (by first | (with_reducible assumption) | assumption)
                                                obtain ⟨ad170, e170, hx170_0⟩ := Kd.at_int HR0.out (ji14) p170 q170
                                                have hw170_0 := hx170_0
                                                obtain rfl : ad166 = ad170 := (by injection e170)
                                                replace hx170_0 := (HB.out.cell (World.block_lt_of_cell? w _ hx170_0)).trans hx170_0
                                                replace p170 := eq_true p170
                                                replace q170 := eq_true q170
                                                refine start_ (n := 32) (S := fun w' => w'.cell? (ad166.add (x5_1).toNat) = some (.int .u8 (rd l0 x5_1)) ∧ w'.cell? (ad166.add ((ji5)).toNat) = some (.int .u8 (rd l0 (ji5))) ∧ w'.cell? (ad166.add ((ji8)).toNat) = some (.int .u8 (rd l0 (ji8))) ∧ w'.cell? (ad166.add ((ji11)).toNat) = some (.int .u8 (rd l0 (ji11))) ∧ w'.cell? (ad166.add ((ji14)).toNat) = some (.int .u8 (rd l0 (ji14)))) (ds := []) #[false, false, false, false, false, false, false, false, false, false, false, false, false, false, false, false, false, false, false, false, false, false, false, false, false, false, false, false, false, false, false, false] (by kernel_rfl) rfl rfl ⟨((HB.out.cell (World.block_lt_of_cell? w _ hw166_0)).trans hw166_0), ((HB.out.cell (World.block_lt_of_cell? w _ hw167_0)).trans hw167_0), ((HB.out.cell (World.block_lt_of_cell? w _ hw168_0)).trans hw168_0), ((HB.out.cell (World.block_lt_of_cell? w _ hw169_0)).trans hw169_0), ((HB.out.cell (World.block_lt_of_cell? w _ hw170_0)).trans hw170_0)⟩ (fun hHeld => ?_); refine with_tabW carlingref13_Of.tab7 carlingref13_Of.bits7 (fun HT_ HW_ => ?_)
                                                generalize wr.drew = w32 at HO_4 HB hx166_0 hx167_0 hx168_0 hx169_0 hx170_0 hHeld ⊢
                                                refine pure_ (i := 0) (N := some 17) (v := ?_) (a' := ?_) #[true, false, false, false, false, false, false, false, false, false, false, false, false, false, false, false, false, false, false, false, false, false, false, false, false, false, false, false, false, false, false, false] rfl rfl (any_of HT_.out (by kernel_rfl)) (fun _ _ _ h => h) (Or.inl ⟨by rfl, ?_⟩) ?_ ?_
                                                rotate_left
                                                · intro w'
                                                  go_simp
                                                  with_reducible rfl
                                                rotate_left
                                                · simp only [Act.put, List.setIfInBounds_toArray, List.set_cons_zero, List.set_cons_succ, i64_w, i32_w]
                                                  rfl
                                                refine pure_ (i := 1) (N := some 18) (v := ?_) (a' := ?_) #[true, true, false, false, false, false, false, false, false, false, false, false, false, false, false, false, false, false, false, false, false, false, false, false, false, false, false, false, false, false, false, false] rfl rfl (any_of HT_.out (by kernel_rfl)) (fun _ _ _ h => h) (Or.inl ⟨by rfl, ?_⟩) ?_ ?_
                                                rotate_left
                                                · intro w'
                                                  go_simp
                                                  with_reducible rfl
                                                rotate_left
                                                · simp only [Act.put, List.setIfInBounds_toArray, List.set_cons_zero, List.set_cons_succ, i64_w, i32_w]
                                                  rfl
                                                refine pure_ (i := 2) (N := some 19) (v := ?_) (a' := ?_) #[true, true, true, false, false, false, false, false, false, false, false, false, false, false, false, false, false, false, false, false, false, false, false, false, false, false, false, false, false, false, false, false] rfl rfl (any_of HT_.out (by kernel_rfl)) (fun _ _ _ h => h) (Or.inl ⟨by rfl, ?_⟩) ?_ ?_
                                                rotate_left
                                                · intro w'
                                                  go_simp
                                                  with_reducible rfl
                                                rotate_left
                                                · simp only [Act.put, List.setIfInBounds_toArray, List.set_cons_zero, List.set_cons_succ, i64_w, i32_w]
                                                  rfl
                                                refine pure_ (i := 5) (N := some 22) (v := ?_) (a' := ?_) #[true, true, true, false, false, true, false, false, false, false, false, false, false, false, false, false, false, false, false, false, false, false, false, false, false, false, false, false, false, false, false, false] rfl rfl (any_of HT_.out (by kernel_rfl)) (fun _ _ _ h => h) (Or.inl ⟨by rfl, ?_⟩) ?_ ?_
                                                rotate_left
                                                · intro w'
                                                  go_simp
                                                  with_reducible rfl
                                                rotate_left
                                                · simp only [Act.put, List.setIfInBounds_toArray, List.set_cons_zero, List.set_cons_succ, i64_w, i32_w]
                                                  rfl
                                                refine pure_ (i := 6) (N := some 23) (v := ?_) (a' := ?_) #[true, true, true, false, false, true, true, false, false, false, false, false, false, false, false, false, false, false, false, false, false, false, false, false, false, false, false, false, false, false, false, false] rfl rfl (any_of HT_.out (by kernel_rfl)) (fun _ _ _ h => h) (Or.inl ⟨by rfl, ?_⟩) ?_ ?_
                                                rotate_left
                                                · intro w'
                                                  go_simp
                                                  with_reducible rfl
                                                rotate_left
                                                · simp only [Act.put, List.setIfInBounds_toArray, List.set_cons_zero, List.set_cons_succ, i64_w, i32_w]
                                                  rfl
                                                refine pure_ (i := 7) (N := some 24) (v := ?_) (a' := ?_) #[true, true, true, false, false, true, true, true, false, false, false, false, false, false, false, false, false, false, false, false, false, false, false, false, false, false, false, false, false, false, false, false] rfl rfl (any_of HT_.out (by kernel_rfl)) (fun _ _ _ h => h) (Or.inl ⟨by rfl, ?_⟩) ?_ ?_
                                                rotate_left
                                                · intro w'
                                                  go_simp
                                                  with_reducible rfl
                                                rotate_left
                                                · simp only [Act.put, List.setIfInBounds_toArray, List.set_cons_zero, List.set_cons_succ, i64_w, i32_w]
                                                  rfl
                                                refine pure_ (i := 8) (N := some 25) (v := ?_) (a' := ?_) #[true, true, true, false, false, true, true, true, true, false, false, false, false, false, false, false, false, false, false, false, false, false, false, false, false, false, false, false, false, false, false, false] rfl rfl (any_of HT_.out (by kernel_rfl)) (fun _ _ _ h => h) (Or.inl ⟨by rfl, ?_⟩) ?_ ?_
                                                rotate_left
                                                · intro w'
                                                  go_simp
                                                  with_reducible rfl
                                                rotate_left
                                                · simp only [Act.put, List.setIfInBounds_toArray, List.set_cons_zero, List.set_cons_succ, i64_w, i32_w]
                                                  rfl
                                                refine pure_ (i := 11) (N := some 28) (v := ?_) (a' := ?_) #[true, true, true, false, false, true, true, true, true, false, false, true, false, false, false, false, false, false, false, false, false, false, false, false, false, false, false, false, false, false, false, false] rfl rfl (any_of HT_.out (by kernel_rfl)) (fun _ _ _ h => h) (Or.inl ⟨by rfl, ?_⟩) ?_ ?_
                                                rotate_left
                                                · intro w'
                                                  go_simp
                                                  with_reducible rfl
                                                rotate_left
                                                · simp only [Act.put, List.setIfInBounds_toArray, List.set_cons_zero, List.set_cons_succ, i64_w, i32_w]
                                                  rfl
                                                refine pure_ (i := 12) (N := some 29) (v := ?_) (a' := ?_) #[true, true, true, false, false, true, true, true, true, false, false, true, true, false, false, false, false, false, false, false, false, false, false, false, false, false, false, false, false, false, false, false] rfl rfl (any_of HT_.out (by kernel_rfl)) (fun _ _ _ h => h) (Or.inl ⟨by rfl, ?_⟩) ?_ ?_
                                                rotate_left
                                                · intro w'
                                                  go_simp
                                                  with_reducible rfl
                                                rotate_left
                                                · simp only [Act.put, List.setIfInBounds_toArray, List.set_cons_zero, List.set_cons_succ, i64_w, i32_w]
                                                  rfl
                                                refine pure_ (i := 13) (N := some 30) (v := ?_) (a' := ?_) #[true, true, true, false, false, true, true, true, true, false, false, true, true, true, false, false, false, false, false, false, false, false, false, false, false, false, false, false, false, false, false, false] rfl rfl (any_of HT_.out (by kernel_rfl)) (fun _ _ _ h => h) (Or.inl ⟨by rfl, ?_⟩) ?_ ?_
                                                rotate_left
                                                · intro w'
                                                  go_simp
                                                  with_reducible rfl
                                                rotate_left
                                                · simp only [Act.put, List.setIfInBounds_toArray, List.set_cons_zero, List.set_cons_succ, i64_w, i32_w]
                                                  rfl
                                                refine pure_ (i := 14) (N := some 31) (v := ?_) (a' := ?_) #[true, true, true, false, false, true, true, true, true, false, false, true, true, true, true, false, false, false, false, false, false, false, false, false, false, false, false, false, false, false, false, false] rfl rfl (any_of HT_.out (by kernel_rfl)) (fun _ _ _ h => h) (Or.inl ⟨by rfl, ?_⟩) ?_ ?_
                                                rotate_left
                                                · intro w'
                                                  go_simp
                                                  with_reducible rfl
                                                rotate_left
                                                · simp only [Act.put, List.setIfInBounds_toArray, List.set_cons_zero, List.set_cons_succ, i64_w, i32_w]
                                                  rfl
                                                refine pure_ (i := 17) (N := some 34) (v := ?_) (a' := ?_) #[true, true, true, false, false, true, true, true, true, false, false, true, true, true, true, false, false, true, false, false, false, false, false, false, false, false, false, false, false, false, false, false] rfl rfl (any_of HT_.out (by kernel_rfl)) (fun _ _ _ h => h) (Or.inl ⟨by rfl, ?_⟩) ?_ ?_
                                                rotate_left
                                                · intro w'
                                                  go_simp
                                                  with_reducible rfl
                                                rotate_left
                                                · simp only [Act.put, List.setIfInBounds_toArray, List.set_cons_zero, List.set_cons_succ, i64_w, i32_w]
                                                  rfl
                                                refine pure_ (i := 18) (N := some 35) (v := ?_) (a' := ?_) #[true, true, true, false, false, true, true, true, true, false, false, true, true, true, true, false, false, true, true, false, false, false, false, false, false, false, false, false, false, false, false, false] rfl rfl (any_of HT_.out (by kernel_rfl)) (fun _ _ _ h => h) (Or.inl ⟨by rfl, ?_⟩) ?_ ?_
                                                rotate_left
                                                · intro w'
                                                  go_simp
                                                  with_reducible rfl
                                                rotate_left
                                                · simp only [Act.put, List.setIfInBounds_toArray, List.set_cons_zero, List.set_cons_succ, i64_w, i32_w]
                                                  rfl
                                                refine pure_ (i := 19) (N := some 36) (v := ?_) (a' := ?_) #[true, true, true, false, false, true, true, true, true, false, false, true, true, true, true, false, false, true, true, true, false, false, false, false, false, false, false, false, false, false, false, false] rfl rfl (any_of HT_.out (by kernel_rfl)) (fun _ _ _ h => h) (Or.inl ⟨by rfl, ?_⟩) ?_ ?_
                                                rotate_left
                                                · intro w'
                                                  go_simp
                                                  with_reducible rfl
                                                rotate_left
                                                · simp only [Act.put, List.setIfInBounds_toArray, List.set_cons_zero, List.set_cons_succ, i64_w, i32_w]
                                                  rfl
                                                refine pure_ (i := 20) (N := some 37) (v := ?_) (a' := ?_) #[true, true, true, false, false, true, true, true, true, false, false, true, true, true, true, false, false, true, true, true, true, false, false, false, false, false, false, false, false, false, false, false] rfl rfl (any_of HT_.out (by kernel_rfl)) (fun _ _ _ h => h) (Or.inl ⟨by rfl, ?_⟩) ?_ ?_
                                                rotate_left
                                                · intro w'
                                                  go_simp
                                                  with_reducible rfl
                                                rotate_left
                                                · simp only [Act.put, List.setIfInBounds_toArray, List.set_cons_zero, List.set_cons_succ, i64_w, i32_w]
                                                  rfl
                                                refine pure_ (i := 23) (N := some 40) (v := ?_) (a' := ?_) #[true, true, true, false, false, true, true, true, true, false, false, true, true, true, true, false, false, true, true, true, true, false, false, true, false, false, false, false, false, false, false, false] rfl rfl (any_of HT_.out (by kernel_rfl)) (fun _ _ _ h => h) (Or.inl ⟨by rfl, ?_⟩) ?_ ?_
                                                rotate_left
                                                · intro w'
                                                  go_simp
                                                  with_reducible rfl
                                                rotate_left
                                                · simp only [Act.put, List.setIfInBounds_toArray, List.set_cons_zero, List.set_cons_succ, i64_w, i32_w]
                                                  rfl
                                                refine pure_ (i := 24) (N := some 41) (v := ?_) (a' := ?_) #[true, true, true, false, false, true, true, true, true, false, false, true, true, true, true, false, false, true, true, true, true, false, false, true, true, false, false, false, false, false, false, false] rfl rfl (any_of HT_.out (by kernel_rfl)) (fun _ _ _ h => h) (Or.inl ⟨by rfl, ?_⟩) ?_ ?_
                                                rotate_left
                                                · intro w'
                                                  go_simp
                                                  with_reducible rfl
                                                rotate_left
                                                · simp only [Act.put, List.setIfInBounds_toArray, List.set_cons_zero, List.set_cons_succ, i64_w, i32_w]
                                                  rfl
                                                refine pure_ (i := 25) (N := some 42) (v := ?_) (a' := ?_) #[true, true, true, false, false, true, true, true, true, false, false, true, true, true, true, false, false, true, true, true, true, false, false, true, true, true, false, false, false, false, false, false] rfl rfl (any_of HT_.out (by kernel_rfl)) (fun _ _ _ h => h) (Or.inl ⟨by rfl, ?_⟩) ?_ ?_
                                                rotate_left
                                                · intro w'
                                                  go_simp
                                                  with_reducible rfl
                                                rotate_left
                                                · simp only [Act.put, List.setIfInBounds_toArray, List.set_cons_zero, List.set_cons_succ, i64_w, i32_w]
                                                  rfl
                                                refine pure_ (i := 26) (N := some 43) (v := ?_) (a' := ?_) #[true, true, true, false, false, true, true, true, true, false, false, true, true, true, true, false, false, true, true, true, true, false, false, true, true, true, true, false, false, false, false, false] rfl rfl (any_of HT_.out (by kernel_rfl)) (fun _ _ _ h => h) (Or.inl ⟨by rfl, ?_⟩) ?_ ?_
                                                rotate_left
                                                · intro w'
                                                  go_simp
                                                  with_reducible rfl
                                                rotate_left
                                                · simp only [Act.put, List.setIfInBounds_toArray, List.set_cons_zero, List.set_cons_succ, i64_w, i32_w]
                                                  rfl
                                                refine take_ (i := 3) (N := some 20) (v := ?_) (a' := ?_) #[true, true, true, true, false, true, true, true, true, false, false, true, true, true, true, false, false, true, true, true, true, false, false, true, true, true, true, false, false, false, false, false] rfl rfl (take_ofW HT_.out HW_.out (by kernel_rfl)) (fun _ _ _ h => h) (Or.inl ⟨by rfl, ?_⟩) hHeld ?_ ?_
                                                rotate_left
                                                · rintro w' ⟨s0, s1, s2, s3, s4⟩
                                                  go_simp
                                                  with_reducible rfl
                                                rotate_left
                                                · simp only [Act.put, List.setIfInBounds_toArray, List.set_cons_zero, List.set_cons_succ, i64_w, i32_w]
                                                  rfl
                                                refine pure_ (i := 4) (N := some 21) (v := ?_) (a' := ?_) #[true, true, true, true, true, true, true, true, true, false, false, true, true, true, true, false, false, true, true, true, true, false, false, true, true, true, true, false, false, false, false, false] rfl rfl (any_of HT_.out (by kernel_rfl)) (fun _ _ _ h => h) (Or.inl ⟨by rfl, ?_⟩) ?_ ?_
                                                rotate_left
                                                · intro w'
                                                  go_simp
                                                  with_reducible rfl
                                                rotate_left
                                                · simp only [Act.put, List.setIfInBounds_toArray, List.set_cons_zero, List.set_cons_succ, i64_w, i32_w]
                                                  rfl
                                                refine take_ (i := 9) (N := some 26) (v := ?_) (a' := ?_) #[true, true, true, true, true, true, true, true, true, true, false, true, true, true, true, false, false, true, true, true, true, false, false, true, true, true, true, false, false, false, false, false] rfl rfl (take_ofW HT_.out HW_.out (by kernel_rfl)) (fun _ _ _ h => h) (Or.inl ⟨by rfl, ?_⟩) hHeld ?_ ?_
                                                rotate_left
                                                · rintro w' ⟨s0, s1, s2, s3, s4⟩
                                                  go_simp
                                                  with_reducible rfl
                                                rotate_left
                                                · simp only [Act.put, List.setIfInBounds_toArray, List.set_cons_zero, List.set_cons_succ, i64_w, i32_w]
                                                  rfl
                                                refine pure_ (i := 10) (N := some 27) (v := ?_) (a' := ?_) #[true, true, true, true, true, true, true, true, true, true, true, true, true, true, true, false, false, true, true, true, true, false, false, true, true, true, true, false, false, false, false, false] rfl rfl (any_of HT_.out (by kernel_rfl)) (fun _ _ _ h => h) (Or.inl ⟨by rfl, ?_⟩) ?_ ?_
                                                rotate_left
                                                · intro w'
                                                  go_simp
                                                  with_reducible rfl
                                                rotate_left
                                                · simp only [Act.put, List.setIfInBounds_toArray, List.set_cons_zero, List.set_cons_succ, i64_w, i32_w]
                                                  rfl
                                                refine take_ (i := 15) (N := some 32) (v := ?_) (a' := ?_) #[true, true, true, true, true, true, true, true, true, true, true, true, true, true, true, true, false, true, true, true, true, false, false, true, true, true, true, false, false, false, false, false] rfl rfl (take_ofW HT_.out HW_.out (by kernel_rfl)) (fun _ _ _ h => h) (Or.inl ⟨by rfl, ?_⟩) hHeld ?_ ?_
                                                rotate_left
                                                · rintro w' ⟨s0, s1, s2, s3, s4⟩
                                                  go_simp
                                                  with_reducible rfl
                                                rotate_left
                                                · simp only [Act.put, List.setIfInBounds_toArray, List.set_cons_zero, List.set_cons_succ, i64_w, i32_w]
                                                  rfl
                                                refine pure_ (i := 16) (N := some 33) (v := ?_) (a' := ?_) #[true, true, true, true, true, true, true, true, true, true, true, true, true, true, true, true, true, true, true, true, true, false, false, true, true, true, true, false, false, false, false, false] rfl rfl (any_of HT_.out (by kernel_rfl)) (fun _ _ _ h => h) (Or.inl ⟨by rfl, ?_⟩) ?_ ?_
                                                rotate_left
                                                · intro w'
                                                  go_simp
                                                  with_reducible rfl
                                                rotate_left
                                                · simp only [Act.put, List.setIfInBounds_toArray, List.set_cons_zero, List.set_cons_succ, i64_w, i32_w]
                                                  rfl
                                                refine take_ (i := 21) (N := some 38) (v := ?_) (a' := ?_) #[true, true, true, true, true, true, true, true, true, true, true, true, true, true, true, true, true, true, true, true, true, true, false, true, true, true, true, false, false, false, false, false] rfl rfl (take_ofW HT_.out HW_.out (by kernel_rfl)) (fun _ _ _ h => h) (Or.inl ⟨by rfl, ?_⟩) hHeld ?_ ?_
                                                rotate_left
                                                · rintro w' ⟨s0, s1, s2, s3, s4⟩
                                                  go_simp
                                                  with_reducible rfl
                                                rotate_left
                                                · simp only [Act.put, List.setIfInBounds_toArray, List.set_cons_zero, List.set_cons_succ, i64_w, i32_w]
                                                  rfl
                                                refine pure_ (i := 22) (N := some 39) (v := ?_) (a' := ?_) #[true, true, true, true, true, true, true, true, true, true, true, true, true, true, true, true, true, true, true, true, true, true, true, true, true, true, true, false, false, false, false, false] rfl rfl (any_of HT_.out (by kernel_rfl)) (fun _ _ _ h => h) (Or.inl ⟨by rfl, ?_⟩) ?_ ?_
                                                rotate_left
                                                · intro w'
                                                  go_simp
                                                  with_reducible rfl
                                                rotate_left
                                                · simp only [Act.put, List.setIfInBounds_toArray, List.set_cons_zero, List.set_cons_succ, i64_w, i32_w]
                                                  rfl
                                                refine take_ (i := 27) (N := some 44) (v := ?_) (a' := ?_) #[true, true, true, true, true, true, true, true, true, true, true, true, true, true, true, true, true, true, true, true, true, true, true, true, true, true, true, true, false, false, false, false] rfl rfl (take_ofW HT_.out HW_.out (by kernel_rfl)) (fun _ _ _ h => h) (Or.inl ⟨by rfl, ?_⟩) hHeld ?_ ?_
                                                rotate_left
                                                · rintro w' ⟨s0, s1, s2, s3, s4⟩
                                                  go_simp
                                                  with_reducible rfl
                                                rotate_left
                                                · simp only [Act.put, List.setIfInBounds_toArray, List.set_cons_zero, List.set_cons_succ, i64_w, i32_w]
                                                  rfl
                                                refine pure_ (i := 28) (N := some 45) (v := ?_) (a' := ?_) #[true, true, true, true, true, true, true, true, true, true, true, true, true, true, true, true, true, true, true, true, true, true, true, true, true, true, true, true, true, false, false, false] rfl rfl (any_of HT_.out (by kernel_rfl)) (fun _ _ _ h => h) (Or.inl ⟨by rfl, ?_⟩) ?_ ?_
                                                rotate_left
                                                · intro w'
                                                  go_simp
                                                  with_reducible rfl
                                                rotate_left
                                                · simp only [Act.put, List.setIfInBounds_toArray, List.set_cons_zero, List.set_cons_succ, i64_w, i32_w]
                                                  rfl
                                                refine pure_ (i := 29) (N := some 46) (v := ?_) (a' := ?_) #[true, true, true, true, true, true, true, true, true, true, true, true, true, true, true, true, true, true, true, true, true, true, true, true, true, true, true, true, true, true, false, false] rfl rfl (any_of HT_.out (by kernel_rfl)) (fun _ _ _ h => h) (Or.inl ⟨by rfl, ?_⟩) ?_ ?_
                                                rotate_left
                                                · intro w'
                                                  go_simp
                                                  with_reducible rfl
                                                rotate_left
                                                · simp only [Act.put, List.setIfInBounds_toArray, List.set_cons_zero, List.set_cons_succ, i64_w, i32_w]
                                                  rfl
                                                refine one_ (i := 30) (N := some 6) #[true, true, true, true, true, true, true, true, true, true, true, true, true, true, true, true, true, true, true, true, true, true, true, true, true, true, true, true, true, true, true, false] rfl rfl (one_of HT_.out (by kernel_rfl)) (by decide) (fun K hK => ?_)
                                                refine box_step ?hg (N := 6) ?hd (cs := #[.int .i64 0, .int .i64 0, .int .i64 0, .int .i64 0, .int .i64 0, .int .u32 0]) (t := 31) ?hr ?_; (case hd => rfl); (case hg => rfl); (case hr => first | (go_simp; done) | (go_simp; rfl))
                                                intro gb171 hg w33 hbox hb
                                                have n0_ := Aside0.mk (Kd.R_below (Kd.R_elderB (by (with_reducible repeat (first | apply Kd.R_alloc | apply Kd.R_drewN | apply Kd.R_drew)); exact HO_4.out) gb171 (Nat.le_of_eq hg.symm)) hb)
                                                have n1_ := Aside0.mk (below_step (by repeat (first | (with_reducible first | exact HB.out | apply below_alloc | apply pw_below_drewN | apply below_drew1) | exact HB.out)) hb)
                                                have n2_ := Aside0.mk (hbox)
                                                have n3_ := Aside0.mk ((by rw [hg]; exact (below_size (by repeat (first | (with_reducible first | exact HB.out | apply below_alloc | apply pw_below_drewN | apply below_drew1) | exact HB.out))) : w.heap.size ≤ gb171))
                                                have n4_ := Aside0.mk ((by rw [hg]; exact (below_size (by repeat (first | (with_reducible first | exact HB.out | apply below_alloc | apply pw_below_drewN | apply below_drew1) | exact HB.out))) : w.heap.size ≤ gb171))
                                                clear HO_4
                                                clear HB
                                                have HO_4 := n0_
                                                have HB := n1_
                                                have BK171 := n2_
                                                have GW171 := n3_
                                                have GE171 := n4_
                                                clear n0_ n1_ n2_ n3_ n4_
                                                clear hb hbox hg
                                                refine hK.out _ _ ⟨((HB.out.cell (World.block_lt_of_cell? w _ hw166_0)).trans hw166_0), ((HB.out.cell (World.block_lt_of_cell? w _ hw167_0)).trans hw167_0), ((HB.out.cell (World.block_lt_of_cell? w _ hw168_0)).trans hw168_0), ((HB.out.cell (World.block_lt_of_cell? w _ hw169_0)).trans hw169_0), ((HB.out.cell (World.block_lt_of_cell? w _ hw170_0)).trans hw170_0)⟩ (fun hHeld => ?_)
                                                clear hK K
                                                refine norm_ (a' := ?_) ?_ ?_
                                                rotate_left
                                                · show Act.put _ (some 6) _ = _
                                                  simp only [Act.put, List.setIfInBounds_toArray, List.set_cons_zero, List.set_cons_succ, i64_w, i32_w]
                                                  rfl
                                                refine one_ (i := 31) (N := none) #[true, true, true, true, true, true, true, true, true, true, true, true, true, true, true, true, true, true, true, true, true, true, true, true, true, true, true, true, true, true, true, true] rfl rfl (one_of HT_.out (by kernel_rfl)) (by decide) (fun K hK => ?_)
                                                have hs34 : w33.cell? ⟨gb171, 0, none⟩ = some (.int .i64 0) := (blk_cell BK171.out 0).trans rfl
                                                have hfs34 := blk_frozen BK171.out 0
                                                have hs35 : w33.cell? ⟨gb171, 1, none⟩ = some (.int .i64 0) := (blk_cell BK171.out 1).trans rfl
                                                have hfs35 := blk_frozen BK171.out 1
                                                have hs36 : w33.cell? ⟨gb171, 2, none⟩ = some (.int .i64 0) := (blk_cell BK171.out 2).trans rfl
                                                have hfs36 := blk_frozen BK171.out 2
                                                have hs37 : w33.cell? ⟨gb171, 3, none⟩ = some (.int .i64 0) := (blk_cell BK171.out 3).trans rfl
                                                have hfs37 := blk_frozen BK171.out 3
                                                have hs38 : w33.cell? ⟨gb171, 4, none⟩ = some (.int .i64 0) := (blk_cell BK171.out 4).trans rfl
                                                have hfs38 := blk_frozen BK171.out 4
                                                have hs39 : w33.cell? ⟨gb171, 5, none⟩ = some (.int .u32 0) := (blk_cell BK171.out 5).trans rfl
                                                have hfs39 := blk_frozen BK171.out 5
                                                refine skip_ (w1 := ?_) (by rfl) rfl ?_ ?_
                                                rotate_left
                                                · go_simp
                                                  rfl
                                                refine hK.out _ _ ⟨((cell_far (p := ⟨gb171, _, none⟩) (by first | exact Nat.ne_of_lt (Nat.lt_of_lt_of_le (by have := World.block_lt_of_cell? _ _ hw166_0; first | rwa [add_block] at this | exact this) GW171.out) | (rw [add_block]; exact Nat.ne_of_lt (Nat.lt_of_lt_of_le (by have := World.block_lt_of_cell? _ _ hw166_0; first | rwa [add_block] at this | exact this) GW171.out)) | (show (Addr.add _ _).block ≠ _; rw [add_block]; exact Nat.ne_of_lt (Nat.lt_of_lt_of_le (by have := World.block_lt_of_cell? _ _ hw166_0; first | rwa [add_block] at this | exact this) GW171.out)) | (dsimp only; exact Nat.ne_of_lt (Nat.lt_of_lt_of_le (by have := World.block_lt_of_cell? _ _ hw166_0; first | rwa [add_block] at this | exact this) GW171.out))) _).trans (((cell_far (p := ⟨gb171, _, none⟩) (by first | exact Nat.ne_of_lt (Nat.lt_of_lt_of_le (by have := World.block_lt_of_cell? _ _ hw166_0; first | rwa [add_block] at this | exact this) GW171.out) | (rw [add_block]; exact Nat.ne_of_lt (Nat.lt_of_lt_of_le (by have := World.block_lt_of_cell? _ _ hw166_0; first | rwa [add_block] at this | exact this) GW171.out)) | (show (Addr.add _ _).block ≠ _; rw [add_block]; exact Nat.ne_of_lt (Nat.lt_of_lt_of_le (by have := World.block_lt_of_cell? _ _ hw166_0; first | rwa [add_block] at this | exact this) GW171.out)) | (dsimp only; exact Nat.ne_of_lt (Nat.lt_of_lt_of_le (by have := World.block_lt_of_cell? _ _ hw166_0; first | rwa [add_block] at this | exact this) GW171.out))) _).trans (((cell_far (p := ⟨gb171, _, none⟩) (by first | exact Nat.ne_of_lt (Nat.lt_of_lt_of_le (by have := World.block_lt_of_cell? _ _ hw166_0; first | rwa [add_block] at this | exact this) GW171.out) | (rw [add_block]; exact Nat.ne_of_lt (Nat.lt_of_lt_of_le (by have := World.block_lt_of_cell? _ _ hw166_0; first | rwa [add_block] at this | exact this) GW171.out)) | (show (Addr.add _ _).block ≠ _; rw [add_block]; exact Nat.ne_of_lt (Nat.lt_of_lt_of_le (by have := World.block_lt_of_cell? _ _ hw166_0; first | rwa [add_block] at this | exact this) GW171.out)) | (dsimp only; exact Nat.ne_of_lt (Nat.lt_of_lt_of_le (by have := World.block_lt_of_cell? _ _ hw166_0; first | rwa [add_block] at this | exact this) GW171.out))) _).trans (((cell_far (p := ⟨gb171, _, none⟩) (by first | exact Nat.ne_of_lt (Nat.lt_of_lt_of_le (by have := World.block_lt_of_cell? _ _ hw166_0; first | rwa [add_block] at this | exact this) GW171.out) | (rw [add_block]; exact Nat.ne_of_lt (Nat.lt_of_lt_of_le (by have := World.block_lt_of_cell? _ _ hw166_0; first | rwa [add_block] at this | exact this) GW171.out)) | (show (Addr.add _ _).block ≠ _; rw [add_block]; exact Nat.ne_of_lt (Nat.lt_of_lt_of_le (by have := World.block_lt_of_cell? _ _ hw166_0; first | rwa [add_block] at this | exact this) GW171.out)) | (dsimp only; exact Nat.ne_of_lt (Nat.lt_of_lt_of_le (by have := World.block_lt_of_cell? _ _ hw166_0; first | rwa [add_block] at this | exact this) GW171.out))) _).trans (((cell_far (p := ⟨gb171, _, none⟩) (by first | exact Nat.ne_of_lt (Nat.lt_of_lt_of_le (by have := World.block_lt_of_cell? _ _ hw166_0; first | rwa [add_block] at this | exact this) GW171.out) | (rw [add_block]; exact Nat.ne_of_lt (Nat.lt_of_lt_of_le (by have := World.block_lt_of_cell? _ _ hw166_0; first | rwa [add_block] at this | exact this) GW171.out)) | (show (Addr.add _ _).block ≠ _; rw [add_block]; exact Nat.ne_of_lt (Nat.lt_of_lt_of_le (by have := World.block_lt_of_cell? _ _ hw166_0; first | rwa [add_block] at this | exact this) GW171.out)) | (dsimp only; exact Nat.ne_of_lt (Nat.lt_of_lt_of_le (by have := World.block_lt_of_cell? _ _ hw166_0; first | rwa [add_block] at this | exact this) GW171.out))) _).trans (((cell_far (p := ⟨gb171, _, none⟩) (by first | exact Nat.ne_of_lt (Nat.lt_of_lt_of_le (by have := World.block_lt_of_cell? _ _ hw166_0; first | rwa [add_block] at this | exact this) GW171.out) | (rw [add_block]; exact Nat.ne_of_lt (Nat.lt_of_lt_of_le (by have := World.block_lt_of_cell? _ _ hw166_0; first | rwa [add_block] at this | exact this) GW171.out)) | (show (Addr.add _ _).block ≠ _; rw [add_block]; exact Nat.ne_of_lt (Nat.lt_of_lt_of_le (by have := World.block_lt_of_cell? _ _ hw166_0; first | rwa [add_block] at this | exact this) GW171.out)) | (dsimp only; exact Nat.ne_of_lt (Nat.lt_of_lt_of_le (by have := World.block_lt_of_cell? _ _ hw166_0; first | rwa [add_block] at this | exact this) GW171.out))) _).trans (hHeld.1)))))))))))), ((cell_far (p := ⟨gb171, _, none⟩) (by first | exact Nat.ne_of_lt (Nat.lt_of_lt_of_le (by have := World.block_lt_of_cell? _ _ hw167_0; first | rwa [add_block] at this | exact this) GW171.out) | (rw [add_block]; exact Nat.ne_of_lt (Nat.lt_of_lt_of_le (by have := World.block_lt_of_cell? _ _ hw167_0; first | rwa [add_block] at this | exact this) GW171.out)) | (show (Addr.add _ _).block ≠ _; rw [add_block]; exact Nat.ne_of_lt (Nat.lt_of_lt_of_le (by have := World.block_lt_of_cell? _ _ hw167_0; first | rwa [add_block] at this | exact this) GW171.out)) | (dsimp only; exact Nat.ne_of_lt (Nat.lt_of_lt_of_le (by have := World.block_lt_of_cell? _ _ hw167_0; first | rwa [add_block] at this | exact this) GW171.out))) _).trans (((cell_far (p := ⟨gb171, _, none⟩) (by first | exact Nat.ne_of_lt (Nat.lt_of_lt_of_le (by have := World.block_lt_of_cell? _ _ hw167_0; first | rwa [add_block] at this | exact this) GW171.out) | (rw [add_block]; exact Nat.ne_of_lt (Nat.lt_of_lt_of_le (by have := World.block_lt_of_cell? _ _ hw167_0; first | rwa [add_block] at this | exact this) GW171.out)) | (show (Addr.add _ _).block ≠ _; rw [add_block]; exact Nat.ne_of_lt (Nat.lt_of_lt_of_le (by have := World.block_lt_of_cell? _ _ hw167_0; first | rwa [add_block] at this | exact this) GW171.out)) | (dsimp only; exact Nat.ne_of_lt (Nat.lt_of_lt_of_le (by have := World.block_lt_of_cell? _ _ hw167_0; first | rwa [add_block] at this | exact this) GW171.out))) _).trans (((cell_far (p := ⟨gb171, _, none⟩) (by first | exact Nat.ne_of_lt (Nat.lt_of_lt_of_le (by have := World.block_lt_of_cell? _ _ hw167_0; first | rwa [add_block] at this | exact this) GW171.out) | (rw [add_block]; exact Nat.ne_of_lt (Nat.lt_of_lt_of_le (by have := World.block_lt_of_cell? _ _ hw167_0; first | rwa [add_block] at this | exact this) GW171.out)) | (show (Addr.add _ _).block ≠ _; rw [add_block]; exact Nat.ne_of_lt (Nat.lt_of_lt_of_le (by have := World.block_lt_of_cell? _ _ hw167_0; first | rwa [add_block] at this | exact this) GW171.out)) | (dsimp only; exact Nat.ne_of_lt (Nat.lt_of_lt_of_le (by have := World.block_lt_of_cell? _ _ hw167_0; first | rwa [add_block] at this | exact this) GW171.out))) _).trans (((cell_far (p := ⟨gb171, _, none⟩) (by first | exact Nat.ne_of_lt (Nat.lt_of_lt_of_le (by have := World.block_lt_of_cell? _ _ hw167_0; first | rwa [add_block] at this | exact this) GW171.out) | (rw [add_block]; exact Nat.ne_of_lt (Nat.lt_of_lt_of_le (by have := World.block_lt_of_cell? _ _ hw167_0; first | rwa [add_block] at this | exact this) GW171.out)) | (show (Addr.add _ _).block ≠ _; rw [add_block]; exact Nat.ne_of_lt (Nat.lt_of_lt_of_le (by have := World.block_lt_of_cell? _ _ hw167_0; first | rwa [add_block] at this | exact this) GW171.out)) | (dsimp only; exact Nat.ne_of_lt (Nat.lt_of_lt_of_le (by have := World.block_lt_of_cell? _ _ hw167_0; first | rwa [add_block] at this | exact this) GW171.out))) _).trans (((cell_far (p := ⟨gb171, _, none⟩) (by first | exact Nat.ne_of_lt (Nat.lt_of_lt_of_le (by have := World.block_lt_of_cell? _ _ hw167_0; first | rwa [add_block] at this | exact this) GW171.out) | (rw [add_block]; exact Nat.ne_of_lt (Nat.lt_of_lt_of_le (by have := World.block_lt_of_cell? _ _ hw167_0; first | rwa [add_block] at this | exact this) GW171.out)) | (show (Addr.add _ _).block ≠ _; rw [add_block]; exact Nat.ne_of_lt (Nat.lt_of_lt_of_le (by have := World.block_lt_of_cell? _ _ hw167_0; first | rwa [add_block] at this | exact this) GW171.out)) | (dsimp only; exact Nat.ne_of_lt (Nat.lt_of_lt_of_le (by have := World.block_lt_of_cell? _ _ hw167_0; first | rwa [add_block] at this | exact this) GW171.out))) _).trans (((cell_far (p := ⟨gb171, _, none⟩) (by first | exact Nat.ne_of_lt (Nat.lt_of_lt_of_le (by have := World.block_lt_of_cell? _ _ hw167_0; first | rwa [add_block] at this | exact this) GW171.out) | (rw [add_block]; exact Nat.ne_of_lt (Nat.lt_of_lt_of_le (by have := World.block_lt_of_cell? _ _ hw167_0; first | rwa [add_block] at this | exact this) GW171.out)) | (show (Addr.add _ _).block ≠ _; rw [add_block]; exact Nat.ne_of_lt (Nat.lt_of_lt_of_le (by have := World.block_lt_of_cell? _ _ hw167_0; first | rwa [add_block] at this | exact this) GW171.out)) | (dsimp only; exact Nat.ne_of_lt (Nat.lt_of_lt_of_le (by have := World.block_lt_of_cell? _ _ hw167_0; first | rwa [add_block] at this | exact this) GW171.out))) _).trans (hHeld.2.1)))))))))))), ((cell_far (p := ⟨gb171, _, none⟩) (by first | exact Nat.ne_of_lt (Nat.lt_of_lt_of_le (by have := World.block_lt_of_cell? _ _ hw168_0; first | rwa [add_block] at this | exact this) GW171.out) | (rw [add_block]; exact Nat.ne_of_lt (Nat.lt_of_lt_of_le (by have := World.block_lt_of_cell? _ _ hw168_0; first | rwa [add_block] at this | exact this) GW171.out)) | (show (Addr.add _ _).block ≠ _; rw [add_block]; exact Nat.ne_of_lt (Nat.lt_of_lt_of_le (by have := World.block_lt_of_cell? _ _ hw168_0; first | rwa [add_block] at this | exact this) GW171.out)) | (dsimp only; exact Nat.ne_of_lt (Nat.lt_of_lt_of_le (by have := World.block_lt_of_cell? _ _ hw168_0; first | rwa [add_block] at this | exact this) GW171.out))) _).trans (((cell_far (p := ⟨gb171, _, none⟩) (by first | exact Nat.ne_of_lt (Nat.lt_of_lt_of_le (by have := World.block_lt_of_cell? _ _ hw168_0; first | rwa [add_block] at this | exact this) GW171.out) | (rw [add_block]; exact Nat.ne_of_lt (Nat.lt_of_lt_of_le (by have := World.block_lt_of_cell? _ _ hw168_0; first | rwa [add_block] at this | exact this) GW171.out)) | (show (Addr.add _ _).block ≠ _; rw [add_block]; exact Nat.ne_of_lt (Nat.lt_of_lt_of_le (by have := World.block_lt_of_cell? _ _ hw168_0; first | rwa [add_block] at this | exact this) GW171.out)) | (dsimp only; exact Nat.ne_of_lt (Nat.lt_of_lt_of_le (by have := World.block_lt_of_cell? _ _ hw168_0; first | rwa [add_block] at this | exact this) GW171.out))) _).trans (((cell_far (p := ⟨gb171, _, none⟩) (by first | exact Nat.ne_of_lt (Nat.lt_of_lt_of_le (by have := World.block_lt_of_cell? _ _ hw168_0; first | rwa [add_block] at this | exact this) GW171.out) | (rw [add_block]; exact Nat.ne_of_lt (Nat.lt_of_lt_of_le (by have := World.block_lt_of_cell? _ _ hw168_0; first | rwa [add_block] at this | exact this) GW171.out)) | (show (Addr.add _ _).block ≠ _; rw [add_block]; exact Nat.ne_of_lt (Nat.lt_of_lt_of_le (by have := World.block_lt_of_cell? _ _ hw168_0; first | rwa [add_block] at this | exact this) GW171.out)) | (dsimp only; exact Nat.ne_of_lt (Nat.lt_of_lt_of_le (by have := World.block_lt_of_cell? _ _ hw168_0; first | rwa [add_block] at this | exact this) GW171.out))) _).trans (((cell_far (p := ⟨gb171, _, none⟩) (by first | exact Nat.ne_of_lt (Nat.lt_of_lt_of_le (by have := World.block_lt_of_cell? _ _ hw168_0; first | rwa [add_block] at this | exact this) GW171.out) | (rw [add_block]; exact Nat.ne_of_lt (Nat.lt_of_lt_of_le (by have := World.block_lt_of_cell? _ _ hw168_0; first | rwa [add_block] at this | exact this) GW171.out)) | (show (Addr.add _ _).block ≠ _; rw [add_block]; exact Nat.ne_of_lt (Nat.lt_of_lt_of_le (by have := World.block_lt_of_cell? _ _ hw168_0; first | rwa [add_block] at this | exact this) GW171.out)) | (dsimp only; exact Nat.ne_of_lt (Nat.lt_of_lt_of_le (by have := World.block_lt_of_cell? _ _ hw168_0; first | rwa [add_block] at this | exact this) GW171.out))) _).trans (((cell_far (p := ⟨gb171, _, none⟩) (by first | exact Nat.ne_of_lt (Nat.lt_of_lt_of_le (by have := World.block_lt_of_cell? _ _ hw168_0; first | rwa [add_block] at this | exact this) GW171.out) | (rw [add_block]; exact Nat.ne_of_lt (Nat.lt_of_lt_of_le (by have := World.block_lt_of_cell? _ _ hw168_0; first | rwa [add_block] at this | exact this) GW171.out)) | (show (Addr.add _ _).block ≠ _; rw [add_block]; exact Nat.ne_of_lt (Nat.lt_of_lt_of_le (by have := World.block_lt_of_cell? _ _ hw168_0; first | rwa [add_block] at this | exact this) GW171.out)) | (dsimp only; exact Nat.ne_of_lt (Nat.lt_of_lt_of_le (by have := World.block_lt_of_cell? _ _ hw168_0; first | rwa [add_block] at this | exact this) GW171.out))) _).trans (((cell_far (p := ⟨gb171, _, none⟩) (by first | exact Nat.ne_of_lt (Nat.lt_of_lt_of_le (by have := World.block_lt_of_cell? _ _ hw168_0; first | rwa [add_block] at this | exact this) GW171.out) | (rw [add_block]; exact Nat.ne_of_lt (Nat.lt_of_lt_of_le (by have := World.block_lt_of_cell? _ _ hw168_0; first | rwa [add_block] at this | exact this) GW171.out)) | (show (Addr.add _ _).block ≠ _; rw [add_block]; exact Nat.ne_of_lt (Nat.lt_of_lt_of_le (by have := World.block_lt_of_cell? _ _ hw168_0; first | rwa [add_block] at this | exact this) GW171.out)) | (dsimp only; exact Nat.ne_of_lt (Nat.lt_of_lt_of_le (by have := World.block_lt_of_cell? _ _ hw168_0; first | rwa [add_block] at this | exact this) GW171.out))) _).trans (hHeld.2.2.1)))))))))))), ((cell_far (p := ⟨gb171, _, none⟩) (by first | exact Nat.ne_of_lt (Nat.lt_of_lt_of_le (by have := World.block_lt_of_cell? _ _ hw169_0; first | rwa [add_block] at this | exact this) GW171.out) | (rw [add_block]; exact Nat.ne_of_lt (Nat.lt_of_lt_of_le (by have := World.block_lt_of_cell? _ _ hw169_0; first | rwa [add_block] at this | exact this) GW171.out)) | (show (Addr.add _ _).block ≠ _; rw [add_block]; exact Nat.ne_of_lt (Nat.lt_of_lt_of_le (by have := World.block_lt_of_cell? _ _ hw169_0; first | rwa [add_block] at this | exact this) GW171.out)) | (dsimp only; exact Nat.ne_of_lt (Nat.lt_of_lt_of_le (by have := World.block_lt_of_cell? _ _ hw169_0; first | rwa [add_block] at this | exact this) GW171.out))) _).trans (((cell_far (p := ⟨gb171, _, none⟩) (by first | exact Nat.ne_of_lt (Nat.lt_of_lt_of_le (by have := World.block_lt_of_cell? _ _ hw169_0; first | rwa [add_block] at this | exact this) GW171.out) | (rw [add_block]; exact Nat.ne_of_lt (Nat.lt_of_lt_of_le (by have := World.block_lt_of_cell? _ _ hw169_0; first | rwa [add_block] at this | exact this) GW171.out)) | (show (Addr.add _ _).block ≠ _; rw [add_block]; exact Nat.ne_of_lt (Nat.lt_of_lt_of_le (by have := World.block_lt_of_cell? _ _ hw169_0; first | rwa [add_block] at this | exact this) GW171.out)) | (dsimp only; exact Nat.ne_of_lt (Nat.lt_of_lt_of_le (by have := World.block_lt_of_cell? _ _ hw169_0; first | rwa [add_block] at this | exact this) GW171.out))) _).trans (((cell_far (p := ⟨gb171, _, none⟩) (by first | exact Nat.ne_of_lt (Nat.lt_of_lt_of_le (by have := World.block_lt_of_cell? _ _ hw169_0; first | rwa [add_block] at this | exact this) GW171.out) | (rw [add_block]; exact Nat.ne_of_lt (Nat.lt_of_lt_of_le (by have := World.block_lt_of_cell? _ _ hw169_0; first | rwa [add_block] at this | exact this) GW171.out)) | (show (Addr.add _ _).block ≠ _; rw [add_block]; exact Nat.ne_of_lt (Nat.lt_of_lt_of_le (by have := World.block_lt_of_cell? _ _ hw169_0; first | rwa [add_block] at this | exact this) GW171.out)) | (dsimp only; exact Nat.ne_of_lt (Nat.lt_of_lt_of_le (by have := World.block_lt_of_cell? _ _ hw169_0; first | rwa [add_block] at this | exact this) GW171.out))) _).trans (((cell_far (p := ⟨gb171, _, none⟩) (by first | exact Nat.ne_of_lt (Nat.lt_of_lt_of_le (by have := World.block_lt_of_cell? _ _ hw169_0; first | rwa [add_block] at this | exact this) GW171.out) | (rw [add_block]; exact Nat.ne_of_lt (Nat.lt_of_lt_of_le (by have := World.block_lt_of_cell? _ _ hw169_0; first | rwa [add_block] at this | exact this) GW171.out)) | (show (Addr.add _ _).block ≠ _; rw [add_block]; exact Nat.ne_of_lt (Nat.lt_of_lt_of_le (by have := World.block_lt_of_cell? _ _ hw169_0; first | rwa [add_block] at this | exact this) GW171.out)) | (dsimp only; exact Nat.ne_of_lt (Nat.lt_of_lt_of_le (by have := World.block_lt_of_cell? _ _ hw169_0; first | rwa [add_block] at this | exact this) GW171.out))) _).trans (((cell_far (p := ⟨gb171, _, none⟩) (by first | exact Nat.ne_of_lt (Nat.lt_of_lt_of_le (by have := World.block_lt_of_cell? _ _ hw169_0; first | rwa [add_block] at this | exact this) GW171.out) | (rw [add_block]; exact Nat.ne_of_lt (Nat.lt_of_lt_of_le (by have := World.block_lt_of_cell? _ _ hw169_0; first | rwa [add_block] at this | exact this) GW171.out)) | (show (Addr.add _ _).block ≠ _; rw [add_block]; exact Nat.ne_of_lt (Nat.lt_of_lt_of_le (by have := World.block_lt_of_cell? _ _ hw169_0; first | rwa [add_block] at this | exact this) GW171.out)) | (dsimp only; exact Nat.ne_of_lt (Nat.lt_of_lt_of_le (by have := World.block_lt_of_cell? _ _ hw169_0; first | rwa [add_block] at this | exact this) GW171.out))) _).trans (((cell_far (p := ⟨gb171, _, none⟩) (by first | exact Nat.ne_of_lt (Nat.lt_of_lt_of_le (by have := World.block_lt_of_cell? _ _ hw169_0; first | rwa [add_block] at this | exact this) GW171.out) | (rw [add_block]; exact Nat.ne_of_lt (Nat.lt_of_lt_of_le (by have := World.block_lt_of_cell? _ _ hw169_0; first | rwa [add_block] at this | exact this) GW171.out)) | (show (Addr.add _ _).block ≠ _; rw [add_block]; exact Nat.ne_of_lt (Nat.lt_of_lt_of_le (by have := World.block_lt_of_cell? _ _ hw169_0; first | rwa [add_block] at this | exact this) GW171.out)) | (dsimp only; exact Nat.ne_of_lt (Nat.lt_of_lt_of_le (by have := World.block_lt_of_cell? _ _ hw169_0; first | rwa [add_block] at this | exact this) GW171.out))) _).trans (hHeld.2.2.2.1)))))))))))), ((cell_far (p := ⟨gb171, _, none⟩) (by first | exact Nat.ne_of_lt (Nat.lt_of_lt_of_le (by have := World.block_lt_of_cell? _ _ hw170_0; first | rwa [add_block] at this | exact this) GW171.out) | (rw [add_block]; exact Nat.ne_of_lt (Nat.lt_of_lt_of_le (by have := World.block_lt_of_cell? _ _ hw170_0; first | rwa [add_block] at this | exact this) GW171.out)) | (show (Addr.add _ _).block ≠ _; rw [add_block]; exact Nat.ne_of_lt (Nat.lt_of_lt_of_le (by have := World.block_lt_of_cell? _ _ hw170_0; first | rwa [add_block] at this | exact this) GW171.out)) | (dsimp only; exact Nat.ne_of_lt (Nat.lt_of_lt_of_le (by have := World.block_lt_of_cell? _ _ hw170_0; first | rwa [add_block] at this | exact this) GW171.out))) _).trans (((cell_far (p := ⟨gb171, _, none⟩) (by first | exact Nat.ne_of_lt (Nat.lt_of_lt_of_le (by have := World.block_lt_of_cell? _ _ hw170_0; first | rwa [add_block] at this | exact this) GW171.out) | (rw [add_block]; exact Nat.ne_of_lt (Nat.lt_of_lt_of_le (by have := World.block_lt_of_cell? _ _ hw170_0; first | rwa [add_block] at this | exact this) GW171.out)) | (show (Addr.add _ _).block ≠ _; rw [add_block]; exact Nat.ne_of_lt (Nat.lt_of_lt_of_le (by have := World.block_lt_of_cell? _ _ hw170_0; first | rwa [add_block] at this | exact this) GW171.out)) | (dsimp only; exact Nat.ne_of_lt (Nat.lt_of_lt_of_le (by have := World.block_lt_of_cell? _ _ hw170_0; first | rwa [add_block] at this | exact this) GW171.out))) _).trans (((cell_far (p := ⟨gb171, _, none⟩) (by first | exact Nat.ne_of_lt (Nat.lt_of_lt_of_le (by have := World.block_lt_of_cell? _ _ hw170_0; first | rwa [add_block] at this | exact this) GW171.out) | (rw [add_block]; exact Nat.ne_of_lt (Nat.lt_of_lt_of_le (by have := World.block_lt_of_cell? _ _ hw170_0; first | rwa [add_block] at this | exact this) GW171.out)) | (show (Addr.add _ _).block ≠ _; rw [add_block]; exact Nat.ne_of_lt (Nat.lt_of_lt_of_le (by have := World.block_lt_of_cell? _ _ hw170_0; first | rwa [add_block] at this | exact this) GW171.out)) | (dsimp only; exact Nat.ne_of_lt (Nat.lt_of_lt_of_le (by have := World.block_lt_of_cell? _ _ hw170_0; first | rwa [add_block] at this | exact this) GW171.out))) _).trans (((cell_far (p := ⟨gb171, _, none⟩) (by first | exact Nat.ne_of_lt (Nat.lt_of_lt_of_le (by have := World.block_lt_of_cell? _ _ hw170_0; first | rwa [add_block] at this | exact this) GW171.out) | (rw [add_block]; exact Nat.ne_of_lt (Nat.lt_of_lt_of_le (by have := World.block_lt_of_cell? _ _ hw170_0; first | rwa [add_block] at this | exact this) GW171.out)) | (show (Addr.add _ _).block ≠ _; rw [add_block]; exact Nat.ne_of_lt (Nat.lt_of_lt_of_le (by have := World.block_lt_of_cell? _ _ hw170_0; first | rwa [add_block] at this | exact this) GW171.out)) | (dsimp only; exact Nat.ne_of_lt (Nat.lt_of_lt_of_le (by have := World.block_lt_of_cell? _ _ hw170_0; first | rwa [add_block] at this | exact this) GW171.out))) _).trans (((cell_far (p := ⟨gb171, _, none⟩) (by first | exact Nat.ne_of_lt (Nat.lt_of_lt_of_le (by have := World.block_lt_of_cell? _ _ hw170_0; first | rwa [add_block] at this | exact this) GW171.out) | (rw [add_block]; exact Nat.ne_of_lt (Nat.lt_of_lt_of_le (by have := World.block_lt_of_cell? _ _ hw170_0; first | rwa [add_block] at this | exact this) GW171.out)) | (show (Addr.add _ _).block ≠ _; rw [add_block]; exact Nat.ne_of_lt (Nat.lt_of_lt_of_le (by have := World.block_lt_of_cell? _ _ hw170_0; first | rwa [add_block] at this | exact this) GW171.out)) | (dsimp only; exact Nat.ne_of_lt (Nat.lt_of_lt_of_le (by have := World.block_lt_of_cell? _ _ hw170_0; first | rwa [add_block] at this | exact this) GW171.out))) _).trans (((cell_far (p := ⟨gb171, _, none⟩) (by first | exact Nat.ne_of_lt (Nat.lt_of_lt_of_le (by have := World.block_lt_of_cell? _ _ hw170_0; first | rwa [add_block] at this | exact this) GW171.out) | (rw [add_block]; exact Nat.ne_of_lt (Nat.lt_of_lt_of_le (by have := World.block_lt_of_cell? _ _ hw170_0; first | rwa [add_block] at this | exact this) GW171.out)) | (show (Addr.add _ _).block ≠ _; rw [add_block]; exact Nat.ne_of_lt (Nat.lt_of_lt_of_le (by have := World.block_lt_of_cell? _ _ hw170_0; first | rwa [add_block] at this | exact this) GW171.out)) | (dsimp only; exact Nat.ne_of_lt (Nat.lt_of_lt_of_le (by have := World.block_lt_of_cell? _ _ hw170_0; first | rwa [add_block] at this | exact this) GW171.out))) _).trans (hHeld.2.2.2.2))))))))))))⟩ (fun hHeld => ?_)
                                                clear hK K
                                                refine done_ (done_of HT_.out (by kernel_rfl)) ?_
                                                try go_wp2
                                                have n0_ : Aside0 (Kd.R k31 31 ((((((w33.setCell ⟨gb171, 0, none⟩ (.int .i64 (wrap64 (rd l0 x5_1)))).setCell ⟨gb171, 1, none⟩ (.int .i64 (wrap64 (rd l0 (ji5))))).setCell ⟨gb171, 2, none⟩ (.int .i64 (wrap64 (rd l0 (ji8))))).setCell ⟨gb171, 3, none⟩ (.int .i64 (wrap64 (rd l0 (ji11))))).setCell ⟨gb171, 4, none⟩ (.int .i64 (wrap64 (rd l0 (ji14))))).setCell ⟨gb171, 5, none⟩ (.int .u32 0)) w.heap.size (fun k_ => k_ ≠ gb171) u4 x4_1) := ⟨by (with_reducible repeat (first | apply Kd.R_alloc | apply Kd.R_drewN | apply Kd.R_drew)); exact Kd.R_mono (Kd.R_far (p := ⟨gb171, 5, none⟩) (Kd.R_far (p := ⟨gb171, 4, none⟩) (Kd.R_far (p := ⟨gb171, 3, none⟩) (Kd.R_far (p := ⟨gb171, 2, none⟩) (Kd.R_far (p := ⟨gb171, 1, none⟩) (Kd.R_far (p := ⟨gb171, 0, none⟩) (Kd.R_mono HO_4.out (fun k_ hk => (⟨hk, hk.2⟩ : _ ∧ k_ ≠ gb171))) (fun _ hk => hk.2) (.int .i64 (wrap64 (rd l0 x5_1)))) (fun _ hk => hk.2) (.int .i64 (wrap64 (rd l0 (ji5))))) (fun _ hk => hk.2) (.int .i64 (wrap64 (rd l0 (ji8))))) (fun _ hk => hk.2) (.int .i64 (wrap64 (rd l0 (ji11))))) (fun _ hk => hk.2) (.int .i64 (wrap64 (rd l0 (ji14))))) (fun _ hk => hk.2) (.int .u32 0)) (fun _ hk => hk.1.2)⟩
                                                have n1_ : Aside0 (((((((w33.setCell ⟨gb171, 0, none⟩ (.int .i64 (wrap64 (rd l0 x5_1)))).setCell ⟨gb171, 1, none⟩ (.int .i64 (wrap64 (rd l0 (ji5))))).setCell ⟨gb171, 2, none⟩ (.int .i64 (wrap64 (rd l0 (ji8))))).setCell ⟨gb171, 3, none⟩ (.int .i64 (wrap64 (rd l0 (ji11))))).setCell ⟨gb171, 4, none⟩ (.int .i64 (wrap64 (rd l0 (ji14))))).setCell ⟨gb171, 5, none⟩ (.int .u32 0)).heap[gb171]? = some (.cells #[.int .i64 (wrap64 (rd l0 x5_1)), .int .i64 (wrap64 (rd l0 (ji5))), .int .i64 (wrap64 (rd l0 (ji8))), .int .i64 (wrap64 (rd l0 (ji11))), .int .i64 (wrap64 (rd l0 (ji14))), .int .u32 0] 31 (0, 0))) := ⟨by (with_reducible repeat (first | refine blk_drewN ?_ _ | refine blk_drew ?_ | refine blk_alloc ?_ _)); refine blk_put (cs := #[.int .i64 (wrap64 (rd l0 x5_1)), .int .i64 (wrap64 (rd l0 (ji5))), .int .i64 (wrap64 (rd l0 (ji8))), .int .i64 (wrap64 (rd l0 (ji11))), .int .i64 (wrap64 (rd l0 (ji14))), .int .u32 0]) ?_ 5 _ rfl; (with_reducible repeat (first | refine blk_drewN ?_ _ | refine blk_drew ?_ | refine blk_alloc ?_ _)); refine blk_put (cs := #[.int .i64 (wrap64 (rd l0 x5_1)), .int .i64 (wrap64 (rd l0 (ji5))), .int .i64 (wrap64 (rd l0 (ji8))), .int .i64 (wrap64 (rd l0 (ji11))), .int .i64 0, .int .u32 0]) ?_ 4 _ rfl; (with_reducible repeat (first | refine blk_drewN ?_ _ | refine blk_drew ?_ | refine blk_alloc ?_ _)); refine blk_put (cs := #[.int .i64 (wrap64 (rd l0 x5_1)), .int .i64 (wrap64 (rd l0 (ji5))), .int .i64 (wrap64 (rd l0 (ji8))), .int .i64 0, .int .i64 0, .int .u32 0]) ?_ 3 _ rfl; (with_reducible repeat (first | refine blk_drewN ?_ _ | refine blk_drew ?_ | refine blk_alloc ?_ _)); refine blk_put (cs := #[.int .i64 (wrap64 (rd l0 x5_1)), .int .i64 (wrap64 (rd l0 (ji5))), .int .i64 0, .int .i64 0, .int .i64 0, .int .u32 0]) ?_ 2 _ rfl; (with_reducible repeat (first | refine blk_drewN ?_ _ | refine blk_drew ?_ | refine blk_alloc ?_ _)); refine blk_put (cs := #[.int .i64 (wrap64 (rd l0 x5_1)), .int .i64 0, .int .i64 0, .int .i64 0, .int .i64 0, .int .u32 0]) ?_ 1 _ rfl; (with_reducible repeat (first | refine blk_drewN ?_ _ | refine blk_drew ?_ | refine blk_alloc ?_ _)); refine blk_put (cs := #[.int .i64 0, .int .i64 0, .int .i64 0, .int .i64 0, .int .i64 0, .int .u32 0]) ?_ 0 _ rfl; (with_reducible repeat (first | refine blk_drewN ?_ _ | refine blk_drew ?_ | refine blk_alloc ?_ _)); exact BK171.out⟩
                                                have n2_ : Aside0 (Below w.heap.size w ((((((w33.setCell ⟨gb171, 0, none⟩ (.int .i64 (wrap64 (rd l0 x5_1)))).setCell ⟨gb171, 1, none⟩ (.int .i64 (wrap64 (rd l0 (ji5))))).setCell ⟨gb171, 2, none⟩ (.int .i64 (wrap64 (rd l0 (ji8))))).setCell ⟨gb171, 3, none⟩ (.int .i64 (wrap64 (rd l0 (ji11))))).setCell ⟨gb171, 4, none⟩ (.int .i64 (wrap64 (rd l0 (ji14))))).setCell ⟨gb171, 5, none⟩ (.int .u32 0))) := ⟨by repeat (first | (with_reducible first | exact HB.out | apply below_alloc | apply pw_below_drewN | apply below_drew1 | refine below_set ?_ GE171.out) | exact HB.out)⟩
                                                (try clear HO_4)
                                                (try clear BK171)
                                                (try clear HB)
                                                generalize ((((((w33.setCell ⟨gb171, 0, none⟩ (.int .i64 (wrap64 (rd l0 x5_1)))).setCell ⟨gb171, 1, none⟩ (.int .i64 (wrap64 (rd l0 (ji5))))).setCell ⟨gb171, 2, none⟩ (.int .i64 (wrap64 (rd l0 (ji8))))).setCell ⟨gb171, 3, none⟩ (.int .i64 (wrap64 (rd l0 (ji11))))).setCell ⟨gb171, 4, none⟩ (.int .i64 (wrap64 (rd l0 (ji14))))).setCell ⟨gb171, 5, none⟩ (.int .u32 0)) = w40 at n0_ n1_ n2_ ⊢
                                                have HO_4 := n0_
                                                have BK171 := n1_
                                                have HB := n2_
                                                clear n0_ n1_ n2_
                                                have n0_ := Aside0.mk (Kd.R_drew HO_4.out)
                                                have n1_ := Aside0.mk (blk_drew BK171.out)
                                                have n2_ := Aside0.mk (below_drew1 HB.out)
                                                clear HO_4
                                                clear BK171
                                                clear HB
                                                have HO_4 := n0_
                                                have BK171 := n1_
                                                have HB := n2_
                                                clear n0_ n1_ n2_
                                                have p172 : 0 ≤ ((ji17) : Int) := of_decide_eq_true (by first | (with_reducible assumption) | assumption)
                                                have q172 : (ji17) < (l0.length : Int) := of_decide_eq_true (by first | (with_reducible assumption) | assumption)
                                                obtain ⟨ad172, e172, hx172_0⟩ := Kd.at_int HR0.out (ji17) p172 q172
                                                have hw172_0 := hx172_0
                                                obtain rfl : ad166 = ad172 := (by injection e172)
                                                replace hx172_0 := (HB.out.cell (World.block_lt_of_cell? w _ hx172_0)).trans hx172_0
                                                replace p172 := eq_true p172
                                                replace q172 := eq_true q172
                                                have p173 : 0 ≤ ((ji20) : Int) := of_decide_eq_true (by first | (with_reducible assumption) | assumption)
                                                have q173 : (ji20) < (l0.length : Int) := of_decide_eq_true (by first | (with_reducible assumption) | assumption)
                                                obtain ⟨ad173, e173, hx173_0⟩ := Kd.at_int HR0.out (ji20) p173 q173
                                                have hw173_0 := hx173_0
                                                obtain rfl : ad166 = ad173 := (by injection e173)
                                                replace hx173_0 := (HB.out.cell (World.block_lt_of_cell? w _ hx173_0)).trans hx173_0
                                                replace p173 := eq_true p173
                                                replace q173 := eq_true q173
                                                have p174 : 0 ≤ ((ji23) : Int) := of_decide_eq_true (by first | (with_reducible assumption) | assumption)
                                                have q174 : (ji23) < (l0.length : Int) := of_decide_eq_true (by first | (with_reducible assumption) | assumption)
                                                obtain ⟨ad174, e174, hx174_0⟩ := Kd.at_int HR0.out (ji23) p174 q174
                                                have hw174_0 := hx174_0
                                                obtain rfl : ad166 = ad174 := (by injection e174)
                                                replace hx174_0 := (HB.out.cell (World.block_lt_of_cell? w _ hx174_0)).trans hx174_0
                                                replace p174 := eq_true p174
                                                replace q174 := eq_true q174
                                                have p175 : 0 ≤ ((ji26) : Int) := of_decide_eq_true (by first | (with_reducible assumption) | assumption)
                                                have q175 : (ji26) < (l0.length : Int) := of_decide_eq_true (by first | (with_reducible assumption) | assumption)
                                                obtain ⟨ad175, e175, hx175_0⟩ := Kd.at_int HR0.out (ji26) p175 q175
                                                have hw175_0 := hx175_0
                                                obtain rfl : ad166 = ad175 := (by injection e175)
                                                replace hx175_0 := (HB.out.cell (World.block_lt_of_cell? w _ hx175_0)).trans hx175_0
                                                replace p175 := eq_true p175
                                                replace q175 := eq_true q175
                                                refine start_ (n := 32) (S := fun w' => w'.cell? (ad166.add ((ji17)).toNat) = some (.int .u8 (rd l0 (ji17))) ∧ w'.cell? (ad166.add ((ji20)).toNat) = some (.int .u8 (rd l0 (ji20))) ∧ w'.cell? (ad166.add ((ji23)).toNat) = some (.int .u8 (rd l0 (ji23))) ∧ w'.cell? (ad166.add ((ji26)).toNat) = some (.int .u8 (rd l0 (ji26)))) (ds := []) #[false, false, false, false, false, false, false, false, false, false, false, false, false, false, false, false, false, false, false, false, false, false, false, false, false, false, false, false, false, false, false, false] (by kernel_rfl) rfl rfl ⟨((HB.out.cell (World.block_lt_of_cell? w _ hw172_0)).trans hw172_0), ((HB.out.cell (World.block_lt_of_cell? w _ hw173_0)).trans hw173_0), ((HB.out.cell (World.block_lt_of_cell? w _ hw174_0)).trans hw174_0), ((HB.out.cell (World.block_lt_of_cell? w _ hw175_0)).trans hw175_0)⟩ (fun hHeld => ?_); refine with_tabW carlingref13_Of.tab8 carlingref13_Of.bits8 (fun HT_ HW_ => ?_)
                                                generalize w40.drew = w41 at HO_4 BK171 HB hx172_0 hx173_0 hx174_0 hx175_0 hHeld ⊢
                                                refine pure_ (i := 0) (N := some 47) (v := ?_) (a' := ?_) #[true, false, false, false, false, false, false, false, false, false, false, false, false, false, false, false, false, false, false, false, false, false, false, false, false, false, false, false, false, false, false, false] rfl rfl (any_of HT_.out (by kernel_rfl)) (fun _ _ _ h => h) (Or.inl ⟨by rfl, ?_⟩) ?_ ?_
                                                rotate_left
                                                · intro w'
                                                  go_simp
                                                  with_reducible rfl
                                                rotate_left
                                                · simp only [Act.put, List.setIfInBounds_toArray, List.set_cons_zero, List.set_cons_succ, i64_w, i32_w]
                                                  rfl
                                                refine pure_ (i := 1) (N := some 48) (v := ?_) (a' := ?_) #[true, true, false, false, false, false, false, false, false, false, false, false, false, false, false, false, false, false, false, false, false, false, false, false, false, false, false, false, false, false, false, false] rfl rfl (any_of HT_.out (by kernel_rfl)) (fun _ _ _ h => h) (Or.inl ⟨by rfl, ?_⟩) ?_ ?_
                                                rotate_left
                                                · intro w'
                                                  go_simp
                                                  with_reducible rfl
                                                rotate_left
                                                · simp only [Act.put, List.setIfInBounds_toArray, List.set_cons_zero, List.set_cons_succ, i64_w, i32_w]
                                                  rfl
                                                refine pure_ (i := 2) (N := some 49) (v := ?_) (a' := ?_) #[true, true, true, false, false, false, false, false, false, false, false, false, false, false, false, false, false, false, false, false, false, false, false, false, false, false, false, false, false, false, false, false] rfl rfl (any_of HT_.out (by kernel_rfl)) (fun _ _ _ h => h) (Or.inl ⟨by rfl, ?_⟩) ?_ ?_
                                                rotate_left
                                                · intro w'
                                                  go_simp
                                                  with_reducible rfl
                                                rotate_left
                                                · simp only [Act.put, List.setIfInBounds_toArray, List.set_cons_zero, List.set_cons_succ, i64_w, i32_w]
                                                  rfl
                                                refine pure_ (i := 3) (N := some 50) (v := ?_) (a' := ?_) #[true, true, true, true, false, false, false, false, false, false, false, false, false, false, false, false, false, false, false, false, false, false, false, false, false, false, false, false, false, false, false, false] rfl rfl (any_of HT_.out (by kernel_rfl)) (fun _ _ _ h => h) (Or.inl ⟨by rfl, ?_⟩) ?_ ?_
                                                rotate_left
                                                · intro w'
                                                  go_simp
                                                  with_reducible rfl
                                                rotate_left
                                                · simp only [Act.put, List.setIfInBounds_toArray, List.set_cons_zero, List.set_cons_succ, i64_w, i32_w]
                                                  rfl
                                                refine pure_ (i := 7) (N := some 54) (v := ?_) (a' := ?_) #[true, true, true, true, false, false, false, true, false, false, false, false, false, false, false, false, false, false, false, false, false, false, false, false, false, false, false, false, false, false, false, false] rfl rfl (any_of HT_.out (by kernel_rfl)) (fun _ _ _ h => h) (Or.inl ⟨by rfl, ?_⟩) ?_ ?_
                                                rotate_left
                                                · intro w'
                                                  go_simp
                                                  with_reducible rfl
                                                rotate_left
                                                · simp only [Act.put, List.setIfInBounds_toArray, List.set_cons_zero, List.set_cons_succ, i64_w, i32_w]
                                                  rfl
                                                refine pure_ (i := 8) (N := some 55) (v := ?_) (a' := ?_) #[true, true, true, true, false, false, false, true, true, false, false, false, false, false, false, false, false, false, false, false, false, false, false, false, false, false, false, false, false, false, false, false] rfl rfl (any_of HT_.out (by kernel_rfl)) (fun _ _ _ h => h) (Or.inl ⟨by rfl, ?_⟩) ?_ ?_
                                                rotate_left
                                                · intro w'
                                                  go_simp
                                                  with_reducible rfl
                                                rotate_left
                                                · simp only [Act.put, List.setIfInBounds_toArray, List.set_cons_zero, List.set_cons_succ, i64_w, i32_w]
                                                  rfl
                                                refine pure_ (i := 9) (N := some 56) (v := ?_) (a' := ?_) #[true, true, true, true, false, false, false, true, true, true, false, false, false, false, false, false, false, false, false, false, false, false, false, false, false, false, false, false, false, false, false, false] rfl rfl (any_of HT_.out (by kernel_rfl)) (fun _ _ _ h => h) (Or.inl ⟨by rfl, ?_⟩) ?_ ?_
                                                rotate_left
                                                · intro w'
                                                  go_simp
                                                  with_reducible rfl
                                                rotate_left
                                                · simp only [Act.put, List.setIfInBounds_toArray, List.set_cons_zero, List.set_cons_succ, i64_w, i32_w]
                                                  rfl
                                                refine pure_ (i := 10) (N := some 57) (v := ?_) (a' := ?_) #[true, true, true, true, false, false, false, true, true, true, true, false, false, false, false, false, false, false, false, false, false, false, false, false, false, false, false, false, false, false, false, false] rfl rfl (any_of HT_.out (by kernel_rfl)) (fun _ _ _ h => h) (Or.inl ⟨by rfl, ?_⟩) ?_ ?_
                                                rotate_left
                                                · intro w'
                                                  go_simp
                                                  with_reducible rfl
                                                rotate_left
                                                · simp only [Act.put, List.setIfInBounds_toArray, List.set_cons_zero, List.set_cons_succ, i64_w, i32_w]
                                                  rfl
                                                refine pure_ (i := 15) (N := some 62) (v := ?_) (a' := ?_) #[true, true, true, true, false, false, false, true, true, true, true, false, false, false, false, true, false, false, false, false, false, false, false, false, false, false, false, false, false, false, false, false] rfl rfl (any_of HT_.out (by kernel_rfl)) (fun _ _ _ h => h) (Or.inl ⟨by rfl, ?_⟩) ?_ ?_
                                                rotate_left
                                                · intro w'
                                                  go_simp
                                                  with_reducible rfl
                                                rotate_left
                                                · simp only [Act.put, List.setIfInBounds_toArray, List.set_cons_zero, List.set_cons_succ, i64_w, i32_w]
                                                  rfl
                                                refine pure_ (i := 16) (N := some 63) (v := ?_) (a' := ?_) #[true, true, true, true, false, false, false, true, true, true, true, false, false, false, false, true, true, false, false, false, false, false, false, false, false, false, false, false, false, false, false, false] rfl rfl (any_of HT_.out (by kernel_rfl)) (fun _ _ _ h => h) (Or.inl ⟨by rfl, ?_⟩) ?_ ?_
                                                rotate_left
                                                · intro w'
                                                  go_simp
                                                  with_reducible rfl
                                                rotate_left
                                                · simp only [Act.put, List.setIfInBounds_toArray, List.set_cons_zero, List.set_cons_succ, i64_w, i32_w]
                                                  rfl
                                                refine pure_ (i := 17) (N := some 64) (v := ?_) (a' := ?_) #[true, true, true, true, false, false, false, true, true, true, true, false, false, false, false, true, true, true, false, false, false, false, false, false, false, false, false, false, false, false, false, false] rfl rfl (any_of HT_.out (by kernel_rfl)) (fun _ _ _ h => h) (Or.inl ⟨by rfl, ?_⟩) ?_ ?_
                                                rotate_left
                                                · intro w'
                                                  go_simp
                                                  with_reducible rfl
                                                rotate_left
                                                · simp only [Act.put, List.setIfInBounds_toArray, List.set_cons_zero, List.set_cons_succ, i64_w, i32_w]
                                                  rfl
                                                refine pure_ (i := 18) (N := some 65) (v := ?_) (a' := ?_) #[true, true, true, true, false, false, false, true, true, true, true, false, false, false, false, true, true, true, true, false, false, false, false, false, false, false, false, false, false, false, false, false] rfl rfl (any_of HT_.out (by kernel_rfl)) (fun _ _ _ h => h) (Or.inl ⟨by rfl, ?_⟩) ?_ ?_
                                                rotate_left
                                                · intro w'
                                                  go_simp
                                                  with_reducible rfl
                                                rotate_left
                                                · simp only [Act.put, List.setIfInBounds_toArray, List.set_cons_zero, List.set_cons_succ, i64_w, i32_w]
                                                  rfl
                                                refine pure_ (i := 23) (N := some 70) (v := ?_) (a' := ?_) #[true, true, true, true, false, false, false, true, true, true, true, false, false, false, false, true, true, true, true, false, false, false, false, true, false, false, false, false, false, false, false, false] rfl rfl (any_of HT_.out (by kernel_rfl)) (fun _ _ _ h => h) (Or.inl ⟨by rfl, ?_⟩) ?_ ?_
                                                rotate_left
                                                · intro w'
                                                  go_simp
                                                  with_reducible rfl
                                                rotate_left
                                                · simp only [Act.put, List.setIfInBounds_toArray, List.set_cons_zero, List.set_cons_succ, i64_w, i32_w]
                                                  rfl
                                                refine pure_ (i := 24) (N := some 71) (v := ?_) (a' := ?_) #[true, true, true, true, false, false, false, true, true, true, true, false, false, false, false, true, true, true, true, false, false, false, false, true, true, false, false, false, false, false, false, false] rfl rfl (any_of HT_.out (by kernel_rfl)) (fun _ _ _ h => h) (Or.inl ⟨by rfl, ?_⟩) ?_ ?_
                                                rotate_left
                                                · intro w'
                                                  go_simp
                                                  with_reducible rfl
                                                rotate_left
                                                · simp only [Act.put, List.setIfInBounds_toArray, List.set_cons_zero, List.set_cons_succ, i64_w, i32_w]
                                                  rfl
                                                refine pure_ (i := 25) (N := some 72) (v := ?_) (a' := ?_) #[true, true, true, true, false, false, false, true, true, true, true, false, false, false, false, true, true, true, true, false, false, false, false, true, true, true, false, false, false, false, false, false] rfl rfl (any_of HT_.out (by kernel_rfl)) (fun _ _ _ h => h) (Or.inl ⟨by rfl, ?_⟩) ?_ ?_
                                                rotate_left
                                                · intro w'
                                                  go_simp
                                                  with_reducible rfl
                                                rotate_left
                                                · simp only [Act.put, List.setIfInBounds_toArray, List.set_cons_zero, List.set_cons_succ, i64_w, i32_w]
                                                  rfl
                                                refine pure_ (i := 26) (N := some 73) (v := ?_) (a' := ?_) #[true, true, true, true, false, false, false, true, true, true, true, false, false, false, false, true, true, true, true, false, false, false, false, true, true, true, true, false, false, false, false, false] rfl rfl (any_of HT_.out (by kernel_rfl)) (fun _ _ _ h => h) (Or.inl ⟨by rfl, ?_⟩) ?_ ?_
                                                rotate_left
                                                · intro w'
                                                  go_simp
                                                  with_reducible rfl
                                                rotate_left
                                                · simp only [Act.put, List.setIfInBounds_toArray, List.set_cons_zero, List.set_cons_succ, i64_w, i32_w]
                                                  rfl
                                                refine take_ (i := 4) (N := some 51) (v := ?_) (a' := ?_) #[true, true, true, true, true, false, false, true, true, true, true, false, false, false, false, true, true, true, true, false, false, false, false, true, true, true, true, false, false, false, false, false] rfl rfl (take_ofW HT_.out HW_.out (by kernel_rfl)) (fun _ _ _ h => h) (Or.inl ⟨by rfl, ?_⟩) hHeld ?_ ?_
                                                rotate_left
                                                · rintro w' ⟨s0, s1, s2, s3⟩
                                                  go_simp
                                                  with_reducible rfl
                                                rotate_left
                                                · simp only [Act.put, List.setIfInBounds_toArray, List.set_cons_zero, List.set_cons_succ, i64_w, i32_w]
                                                  rfl
                                                refine pure_ (i := 5) (N := some 52) (v := ?_) (a' := ?_) #[true, true, true, true, true, true, false, true, true, true, true, false, false, false, false, true, true, true, true, false, false, false, false, true, true, true, true, false, false, false, false, false] rfl rfl (any_of HT_.out (by kernel_rfl)) (fun _ _ _ h => h) (Or.inl ⟨by rfl, ?_⟩) ?_ ?_
                                                rotate_left
                                                · intro w'
                                                  go_simp
                                                  with_reducible rfl
                                                rotate_left
                                                · simp only [Act.put, List.setIfInBounds_toArray, List.set_cons_zero, List.set_cons_succ, i64_w, i32_w]
                                                  rfl
                                                refine pure_ (i := 6) (N := some 53) (v := ?_) (a' := ?_) #[true, true, true, true, true, true, true, true, true, true, true, false, false, false, false, true, true, true, true, false, false, false, false, true, true, true, true, false, false, false, false, false] rfl rfl (any_of HT_.out (by kernel_rfl)) (fun _ _ _ h => h) (Or.inl ⟨by rfl, ?_⟩) ?_ ?_
                                                rotate_left
                                                · intro w'
                                                  go_simp
                                                  with_reducible rfl
                                                rotate_left
                                                · simp only [Act.put, List.setIfInBounds_toArray, List.set_cons_zero, List.set_cons_succ, i64_w, i32_w]
                                                  rfl
                                                refine take_ (i := 11) (N := some 58) (v := ?_) (a' := ?_) #[true, true, true, true, true, true, true, true, true, true, true, true, false, false, false, true, true, true, true, false, false, false, false, true, true, true, true, false, false, false, false, false] rfl rfl (take_ofW HT_.out HW_.out (by kernel_rfl)) (fun _ _ _ h => h) (Or.inl ⟨by rfl, ?_⟩) hHeld ?_ ?_
                                                rotate_left
                                                · rintro w' ⟨s0, s1, s2, s3⟩
                                                  go_simp
                                                  with_reducible rfl
                                                rotate_left
                                                · simp only [Act.put, List.setIfInBounds_toArray, List.set_cons_zero, List.set_cons_succ, i64_w, i32_w]
                                                  rfl
                                                refine pure_ (i := 12) (N := some 59) (v := ?_) (a' := ?_) #[true, true, true, true, true, true, true, true, true, true, true, true, true, false, false, true, true, true, true, false, false, false, false, true, true, true, true, false, false, false, false, false] rfl rfl (any_of HT_.out (by kernel_rfl)) (fun _ _ _ h => h) (Or.inl ⟨by rfl, ?_⟩) ?_ ?_
                                                rotate_left
                                                · intro w'
                                                  go_simp
                                                  with_reducible rfl
                                                rotate_left
                                                · simp only [Act.put, List.setIfInBounds_toArray, List.set_cons_zero, List.set_cons_succ, i64_w, i32_w]
                                                  rfl
                                                refine pure_ (i := 13) (N := some 60) (v := ?_) (a' := ?_) #[true, true, true, true, true, true, true, true, true, true, true, true, true, true, false, true, true, true, true, false, false, false, false, true, true, true, true, false, false, false, false, false] rfl rfl (any_of HT_.out (by kernel_rfl)) (fun _ _ _ h => h) (Or.inl ⟨by rfl, ?_⟩) ?_ ?_
                                                rotate_left
                                                · intro w'
                                                  go_simp
                                                  with_reducible rfl
                                                rotate_left
                                                · simp only [Act.put, List.setIfInBounds_toArray, List.set_cons_zero, List.set_cons_succ, i64_w, i32_w]
                                                  rfl
                                                refine pure_ (i := 14) (N := some 61) (v := ?_) (a' := ?_) #[true, true, true, true, true, true, true, true, true, true, true, true, true, true, true, true, true, true, true, false, false, false, false, true, true, true, true, false, false, false, false, false] rfl rfl (any_of HT_.out (by kernel_rfl)) (fun _ _ _ h => h) (Or.inl ⟨by rfl, ?_⟩) ?_ ?_
                                                rotate_left
                                                · intro w'
                                                  go_simp
                                                  with_reducible rfl
                                                rotate_left
                                                · simp only [Act.put, List.setIfInBounds_toArray, List.set_cons_zero, List.set_cons_succ, i64_w, i32_w]
                                                  rfl
                                                refine take_ (i := 19) (N := some 66) (v := ?_) (a' := ?_) #[true, true, true, true, true, true, true, true, true, true, true, true, true, true, true, true, true, true, true, true, false, false, false, true, true, true, true, false, false, false, false, false] rfl rfl (take_ofW HT_.out HW_.out (by kernel_rfl)) (fun _ _ _ h => h) (Or.inl ⟨by rfl, ?_⟩) hHeld ?_ ?_
                                                rotate_left
                                                · rintro w' ⟨s0, s1, s2, s3⟩
                                                  go_simp
                                                  with_reducible rfl
                                                rotate_left
                                                · simp only [Act.put, List.setIfInBounds_toArray, List.set_cons_zero, List.set_cons_succ, i64_w, i32_w]
                                                  rfl
                                                refine pure_ (i := 20) (N := some 67) (v := ?_) (a' := ?_) #[true, true, true, true, true, true, true, true, true, true, true, true, true, true, true, true, true, true, true, true, true, false, false, true, true, true, true, false, false, false, false, false] rfl rfl (any_of HT_.out (by kernel_rfl)) (fun _ _ _ h => h) (Or.inl ⟨by rfl, ?_⟩) ?_ ?_
                                                rotate_left
                                                · intro w'
                                                  go_simp
                                                  with_reducible rfl
                                                rotate_left
                                                · simp only [Act.put, List.setIfInBounds_toArray, List.set_cons_zero, List.set_cons_succ, i64_w, i32_w]
                                                  rfl
                                                refine pure_ (i := 21) (N := some 68) (v := ?_) (a' := ?_) #[true, true, true, true, true, true, true, true, true, true, true, true, true, true, true, true, true, true, true, true, true, true, false, true, true, true, true, false, false, false, false, false] rfl rfl (any_of HT_.out (by kernel_rfl)) (fun _ _ _ h => h) (Or.inl ⟨by rfl, ?_⟩) ?_ ?_
                                                rotate_left
                                                · intro w'
                                                  go_simp
                                                  with_reducible rfl
                                                rotate_left
                                                · simp only [Act.put, List.setIfInBounds_toArray, List.set_cons_zero, List.set_cons_succ, i64_w, i32_w]
                                                  rfl
                                                refine pure_ (i := 22) (N := some 69) (v := ?_) (a' := ?_) #[true, true, true, true, true, true, true, true, true, true, true, true, true, true, true, true, true, true, true, true, true, true, true, true, true, true, true, false, false, false, false, false] rfl rfl (any_of HT_.out (by kernel_rfl)) (fun _ _ _ h => h) (Or.inl ⟨by rfl, ?_⟩) ?_ ?_
                                                rotate_left
                                                · intro w'
                                                  go_simp
                                                  with_reducible rfl
                                                rotate_left
                                                · simp only [Act.put, List.setIfInBounds_toArray, List.set_cons_zero, List.set_cons_succ, i64_w, i32_w]
                                                  rfl
                                                refine take_ (i := 27) (N := some 74) (v := ?_) (a' := ?_) #[true, true, true, true, true, true, true, true, true, true, true, true, true, true, true, true, true, true, true, true, true, true, true, true, true, true, true, true, false, false, false, false] rfl rfl (take_ofW HT_.out HW_.out (by kernel_rfl)) (fun _ _ _ h => h) (Or.inl ⟨by rfl, ?_⟩) hHeld ?_ ?_
                                                rotate_left
                                                · rintro w' ⟨s0, s1, s2, s3⟩
                                                  go_simp
                                                  with_reducible rfl
                                                rotate_left
                                                · simp only [Act.put, List.setIfInBounds_toArray, List.set_cons_zero, List.set_cons_succ, i64_w, i32_w]
                                                  rfl
                                                refine pure_ (i := 28) (N := some 75) (v := ?_) (a' := ?_) #[true, true, true, true, true, true, true, true, true, true, true, true, true, true, true, true, true, true, true, true, true, true, true, true, true, true, true, true, true, false, false, false] rfl rfl (any_of HT_.out (by kernel_rfl)) (fun _ _ _ h => h) (Or.inl ⟨by rfl, ?_⟩) ?_ ?_
                                                rotate_left
                                                · intro w'
                                                  go_simp
                                                  with_reducible rfl
                                                rotate_left
                                                · simp only [Act.put, List.setIfInBounds_toArray, List.set_cons_zero, List.set_cons_succ, i64_w, i32_w]
                                                  rfl
                                                refine pure_ (i := 29) (N := some 76) (v := ?_) (a' := ?_) #[true, true, true, true, true, true, true, true, true, true, true, true, true, true, true, true, true, true, true, true, true, true, true, true, true, true, true, true, true, true, false, false] rfl rfl (any_of HT_.out (by kernel_rfl)) (fun _ _ _ h => h) (Or.inl ⟨by rfl, ?_⟩) ?_ ?_
                                                rotate_left
                                                · intro w'
                                                  go_simp
                                                  with_reducible rfl
                                                rotate_left
                                                · simp only [Act.put, List.setIfInBounds_toArray, List.set_cons_zero, List.set_cons_succ, i64_w, i32_w]
                                                  rfl
                                                refine pure_ (i := 30) (N := some 77) (v := ?_) (a' := ?_) #[true, true, true, true, true, true, true, true, true, true, true, true, true, true, true, true, true, true, true, true, true, true, true, true, true, true, true, true, true, true, true, false] rfl rfl (any_of HT_.out (by kernel_rfl)) (fun _ _ _ h => h) (Or.inl ⟨by rfl, ?_⟩) ?_ ?_
                                                rotate_left
                                                · intro w'
                                                  go_simp
                                                  with_reducible rfl
                                                rotate_left
                                                · simp only [Act.put, List.setIfInBounds_toArray, List.set_cons_zero, List.set_cons_succ, i64_w, i32_w]
                                                  rfl
                                                refine one_ (i := 31) (N := none) #[true, true, true, true, true, true, true, true, true, true, true, true, true, true, true, true, true, true, true, true, true, true, true, true, true, true, true, true, true, true, true, true] rfl rfl (one_of HT_.out (by kernel_rfl)) (by decide) (fun K hK => ?_)
                                                have hs42 : w41.cell? ⟨gb171, 5, none⟩ = some (.int .u32 0) := (blk_cell BK171.out 5).trans rfl
                                                have hfs42 := blk_frozen BK171.out 5
                                                refine skip_ (w1 := ?_) (by rfl) rfl ?_ ?_
                                                rotate_left
                                                · go_simp
                                                  rfl
                                                refine hK.out _ _ ⟨((cell_far (p := ⟨gb171, _, none⟩) (by first | exact Nat.ne_of_lt (Nat.lt_of_lt_of_le (by have := World.block_lt_of_cell? _ _ hw172_0; first | rwa [add_block] at this | exact this) GW171.out) | (rw [add_block]; exact Nat.ne_of_lt (Nat.lt_of_lt_of_le (by have := World.block_lt_of_cell? _ _ hw172_0; first | rwa [add_block] at this | exact this) GW171.out)) | (show (Addr.add _ _).block ≠ _; rw [add_block]; exact Nat.ne_of_lt (Nat.lt_of_lt_of_le (by have := World.block_lt_of_cell? _ _ hw172_0; first | rwa [add_block] at this | exact this) GW171.out)) | (dsimp only; exact Nat.ne_of_lt (Nat.lt_of_lt_of_le (by have := World.block_lt_of_cell? _ _ hw172_0; first | rwa [add_block] at this | exact this) GW171.out))) _).trans (hHeld.1)), ((cell_far (p := ⟨gb171, _, none⟩) (by first | exact Nat.ne_of_lt (Nat.lt_of_lt_of_le (by have := World.block_lt_of_cell? _ _ hw173_0; first | rwa [add_block] at this | exact this) GW171.out) | (rw [add_block]; exact Nat.ne_of_lt (Nat.lt_of_lt_of_le (by have := World.block_lt_of_cell? _ _ hw173_0; first | rwa [add_block] at this | exact this) GW171.out)) | (show (Addr.add _ _).block ≠ _; rw [add_block]; exact Nat.ne_of_lt (Nat.lt_of_lt_of_le (by have := World.block_lt_of_cell? _ _ hw173_0; first | rwa [add_block] at this | exact this) GW171.out)) | (dsimp only; exact Nat.ne_of_lt (Nat.lt_of_lt_of_le (by have := World.block_lt_of_cell? _ _ hw173_0; first | rwa [add_block] at this | exact this) GW171.out))) _).trans (hHeld.2.1)), ((cell_far (p := ⟨gb171, _, none⟩) (by first | exact Nat.ne_of_lt (Nat.lt_of_lt_of_le (by have := World.block_lt_of_cell? _ _ hw174_0; first | rwa [add_block] at this | exact this) GW171.out) | (rw [add_block]; exact Nat.ne_of_lt (Nat.lt_of_lt_of_le (by have := World.block_lt_of_cell? _ _ hw174_0; first | rwa [add_block] at this | exact this) GW171.out)) | (show (Addr.add _ _).block ≠ _; rw [add_block]; exact Nat.ne_of_lt (Nat.lt_of_lt_of_le (by have := World.block_lt_of_cell? _ _ hw174_0; first | rwa [add_block] at this | exact this) GW171.out)) | (dsimp only; exact Nat.ne_of_lt (Nat.lt_of_lt_of_le (by have := World.block_lt_of_cell? _ _ hw174_0; first | rwa [add_block] at this | exact this) GW171.out))) _).trans (hHeld.2.2.1)), ((cell_far (p := ⟨gb171, _, none⟩) (by first | exact Nat.ne_of_lt (Nat.lt_of_lt_of_le (by have := World.block_lt_of_cell? _ _ hw175_0; first | rwa [add_block] at this | exact this) GW171.out) | (rw [add_block]; exact Nat.ne_of_lt (Nat.lt_of_lt_of_le (by have := World.block_lt_of_cell? _ _ hw175_0; first | rwa [add_block] at this | exact this) GW171.out)) | (show (Addr.add _ _).block ≠ _; rw [add_block]; exact Nat.ne_of_lt (Nat.lt_of_lt_of_le (by have := World.block_lt_of_cell? _ _ hw175_0; first | rwa [add_block] at this | exact this) GW171.out)) | (dsimp only; exact Nat.ne_of_lt (Nat.lt_of_lt_of_le (by have := World.block_lt_of_cell? _ _ hw175_0; first | rwa [add_block] at this | exact this) GW171.out))) _).trans (hHeld.2.2.2))⟩ (fun hHeld => ?_)
                                                clear hK K
                                                refine done_ (done_of HT_.out (by kernel_rfl)) ?_
                                                have hcz43_0 : w41.cell? ⟨gb171, 0, none⟩ = some (.int .i64 (wrap64 (rd l0 x5_1))) := (blk_cell BK171.out 0).trans rfl
                                                have hcz43_1 : w41.cell? ⟨gb171, 1, none⟩ = some (.int .i64 (wrap64 (rd l0 (ji5)))) := (blk_cell BK171.out 1).trans rfl
                                                have hcz43_2 : w41.cell? ⟨gb171, 2, none⟩ = some (.int .i64 (wrap64 (rd l0 (ji8)))) := (blk_cell BK171.out 2).trans rfl
                                                have hcz43_3 : w41.cell? ⟨gb171, 3, none⟩ = some (.int .i64 (wrap64 (rd l0 (ji11)))) := (blk_cell BK171.out 3).trans rfl
                                                have hcz43_4 : w41.cell? ⟨gb171, 4, none⟩ = some (.int .i64 (wrap64 (rd l0 (ji14)))) := (blk_cell BK171.out 4).trans rfl
                                                have hcz43_5 : w41.cell? ⟨gb171, 5, none⟩ = some (.int .u32 0) := (blk_cell BK171.out 5).trans rfl
                                                have hfz43_0 := blk_frozen BK171.out 0
                                                have hfz43_1 := blk_frozen BK171.out 1
                                                have hfz43_2 := blk_frozen BK171.out 2
                                                have hfz43_3 := blk_frozen BK171.out 3
                                                have hfz43_4 := blk_frozen BK171.out 4
                                                have hfz43_5 := blk_frozen BK171.out 5
                                                try go_wp2_with (first | ((with_reducible refine gate_callee (f := 13) rfl ?_); refine goesL_ (some 79) rfl rfl Try.func13 (by kernel_rfl) rfl #[.agg #[.int .i64 (wrap64 (rd l0 x5_1)), .int .i64 (wrap64 (rd l0 (ji5))), .int .i64 (wrap64 (rd l0 (ji8))), .int .i64 (wrap64 (rd l0 (ji11))), .int .i64 (wrap64 (rd l0 (ji14))), .int .u32 ((((((((((rd l0 (ji17)) % 4294967296) * 16777216) % 4294967296) + ((((rd l0 (ji20)) % 4294967296) * 65536) % 4294967296)) % 4294967296) + ((((rd l0 (ji23)) % 4294967296) * 256) % 4294967296)) % 4294967296) + ((rd l0 (ji26)) % 4294967296)) % 4294967296)]] rfl (by (try simp only [List.map_toArray, List.map_cons, List.map_nil]); first | done | (simp only [hji11, hji14, hji17, hji20, hji23, hji26, hji5, hji8]; rfl) | rfl | (simp only [List.length_drop, List.length_take]; rfl)) ?_; (with_reducible refine (carlingref13_Right.calls k1 (wrap64 (rd l0 x5_1)) (wrap64 (rd l0 (ji5))) (wrap64 (rd l0 (ji8))) (wrap64 (rd l0 (ji11))) (wrap64 (rd l0 (ji14))) ((((((((((rd l0 (ji17)) % 4294967296) * 16777216) % 4294967296) + ((((rd l0 (ji20)) % 4294967296) * 65536) % 4294967296)) % 4294967296) + ((((rd l0 (ji23)) % 4294967296) * 256) % 4294967296)) % 4294967296) + ((rd l0 (ji26)) % 4294967296)) % 4294967296) true _ A29.out).mono ?_); rintro e w44 ⟨rfl, hb⟩; refine ⟨_, rfl, ?_⟩; have n0_ := Aside0.mk (Kd.R_below (by (with_reducible repeat (first | apply Kd.R_alloc | apply Kd.R_drewN | apply Kd.R_drew)); exact (Kd.R_mono (Kd.R_far (p := ⟨gb171, 5, none⟩) (Kd.R_mono HO_4.out (fun k_ hk => (⟨hk, hk⟩ : _ ∧ k_ ≠ gb171))) (fun _ hk => hk.2) (.int .u32 ((((((((((rd l0 (ji17)) % 4294967296) * 16777216) % 4294967296) + ((((rd l0 (ji20)) % 4294967296) * 65536) % 4294967296)) % 4294967296) + ((((rd l0 (ji23)) % 4294967296) * 256) % 4294967296)) % 4294967296) + ((rd l0 (ji26)) % 4294967296)) % 4294967296))) (fun _ h_ => h_.1))) hb); have n1_ := Aside0.mk (blk_below (g := gb171) (o := .cells #[.int .i64 (wrap64 (rd l0 x5_1)), .int .i64 (wrap64 (rd l0 (ji5))), .int .i64 (wrap64 (rd l0 (ji8))), .int .i64 (wrap64 (rd l0 (ji11))), .int .i64 (wrap64 (rd l0 (ji14))), .int .u32 ((((((((((rd l0 (ji17)) % 4294967296) * 16777216) % 4294967296) + ((((rd l0 (ji20)) % 4294967296) * 65536) % 4294967296)) % 4294967296) + ((((rd l0 (ji23)) % 4294967296) * 256) % 4294967296)) % 4294967296) + ((rd l0 (ji26)) % 4294967296)) % 4294967296)] 31 (0, 0)) (by (with_reducible repeat (first | refine blk_drewN ?_ _ | refine blk_drew ?_ | refine blk_alloc ?_ _)); refine blk_put (cs := #[.int .i64 (wrap64 (rd l0 x5_1)), .int .i64 (wrap64 (rd l0 (ji5))), .int .i64 (wrap64 (rd l0 (ji8))), .int .i64 (wrap64 (rd l0 (ji11))), .int .i64 (wrap64 (rd l0 (ji14))), .int .u32 0]) ?_ 5 _ rfl; (with_reducible repeat (first | refine blk_drewN ?_ _ | refine blk_drew ?_ | refine blk_alloc ?_ _)); exact BK171.out) hb); have n2_ := Aside0.mk (below_step (by repeat (first | (with_reducible first | exact HB.out | apply below_alloc | apply pw_below_drewN | apply below_drew1 | refine below_set ?_ GE171.out) | exact HB.out)) hb); clear HO_4; clear BK171; clear HB; have HO_4 := n0_; have BK171 := n1_; have HB := n2_; clear n0_ n1_ n2_; (try clear hb); (try clear hb2); (try clear hk); (try clear hi); have hcz45_0 : w44.cell? ⟨gb171, 0, none⟩ = some (.int .i64 (wrap64 (rd l0 x5_1))) := (blk_cell BK171.out 0).trans rfl; have hcz45_1 : w44.cell? ⟨gb171, 1, none⟩ = some (.int .i64 (wrap64 (rd l0 (ji5)))) := (blk_cell BK171.out 1).trans rfl; have hcz45_2 : w44.cell? ⟨gb171, 2, none⟩ = some (.int .i64 (wrap64 (rd l0 (ji8)))) := (blk_cell BK171.out 2).trans rfl; have hcz45_3 : w44.cell? ⟨gb171, 3, none⟩ = some (.int .i64 (wrap64 (rd l0 (ji11)))) := (blk_cell BK171.out 3).trans rfl; have hcz45_4 : w44.cell? ⟨gb171, 4, none⟩ = some (.int .i64 (wrap64 (rd l0 (ji14)))) := (blk_cell BK171.out 4).trans rfl; have hcz45_5 : w44.cell? ⟨gb171, 5, none⟩ = some (.int .u32 ((((((((((rd l0 (ji17)) % 4294967296) * 16777216) % 4294967296) + ((((rd l0 (ji20)) % 4294967296) * 65536) % 4294967296)) % 4294967296) + ((((rd l0 (ji23)) % 4294967296) * 256) % 4294967296)) % 4294967296) + ((rd l0 (ji26)) % 4294967296)) % 4294967296)) := (blk_cell BK171.out 5).trans rfl; have hfz45_0 := blk_frozen BK171.out 0; have hfz45_1 := blk_frozen BK171.out 1; have hfz45_2 := blk_frozen BK171.out 2; have hfz45_3 := blk_frozen BK171.out 3; have hfz45_4 := blk_frozen BK171.out 4; have hfz45_5 := blk_frozen BK171.out 5) | ((with_reducible refine gate_builtin (b := .append) (xs := #[.tmp 81, .tmp 83]) rfl ?_); at_builtin; (try simp only [HE_.out]); refine Kd.R_append k31 (w0 := w) w.heap.size rfl (.tmp 81) (.tmp 83) 22 31 (.agg #[(.int .i64 0), (.int .i64 0), (.int .i64 0), (.int .i64 0), (.int .i64 0), (.int .u32 0)]) 48 rfl Try.underlying22 info31 rfl (by decide) (by omega) u4 x4_1 (⟨wrap64 (rd l0 x5_1), wrap64 (rd l0 (ji5)), wrap64 (rd l0 (ji8)), wrap64 (rd l0 (ji11)), wrap64 (rd l0 (ji14)), (((((((((rd l0 (ji17)) % 4294967296) * 16777216) % 4294967296) + ((((rd l0 (ji20)) % 4294967296) * 65536) % 4294967296)) % 4294967296) + ((((rd l0 (ji23)) % 4294967296) * 256) % 4294967296)) % 4294967296) + ((rd l0 (ji26)) % 4294967296)) % 4294967296⟩ : S31) [.int .i64 (wrap64 (rd l0 x5_1)), .int .i64 (wrap64 (rd l0 (ji5))), .int .i64 (wrap64 (rd l0 (ji8))), .int .i64 (wrap64 (rd l0 (ji11))), .int .i64 (wrap64 (rd l0 (ji14))), .int .u32 ((((((((((rd l0 (ji17)) % 4294967296) * 16777216) % 4294967296) + ((((rd l0 (ji20)) % 4294967296) * 65536) % 4294967296)) % 4294967296) + ((((rd l0 (ji23)) % 4294967296) * 256) % 4294967296)) % 4294967296) + ((rd l0 (ji26)) % 4294967296)) % 4294967296)] (fun k_ => k_ ≠ gb171) (fun _ => False) rfl rfl ?aP (fun _ hk => hk.elim) ?aF ?aO ?aB ?aS ?aL ?_; (case aP => exact k31_mkM _ _ _ (⟨wrap64 (rd l0 x5_1), wrap64 (rd l0 (ji5)), wrap64 (rd l0 (ji8)), wrap64 (rd l0 (ji11)), wrap64 (rd l0 (ji14)), (((((((((rd l0 (ji17)) % 4294967296) * 16777216) % 4294967296) + ((((rd l0 (ji20)) % 4294967296) * 65536) % 4294967296)) % 4294967296) + ((((rd l0 (ji23)) % 4294967296) * 256) % 4294967296)) % 4294967296) + ((rd l0 (ji26)) % 4294967296)) % 4294967296⟩ : S31)); (case aB => exact (by repeat (first | (with_reducible first | exact HB.out | apply below_alloc | apply pw_below_drewN | apply below_drew1 | refine below_set ?_ GE171.out) | exact HB.out))); (case aF => exact (fun k_ hk => Kd.freshB (g := gb171) (o := .cells #[.int .i64 (wrap64 (rd l0 x5_1)), .int .i64 (wrap64 (rd l0 (ji5))), .int .i64 (wrap64 (rd l0 (ji8))), .int .i64 (wrap64 (rd l0 (ji11))), .int .i64 (wrap64 (rd l0 (ji14))), .int .u32 ((((((((((rd l0 (ji17)) % 4294967296) * 16777216) % 4294967296) + ((((rd l0 (ji20)) % 4294967296) * 65536) % 4294967296)) % 4294967296) + ((((rd l0 (ji23)) % 4294967296) * 256) % 4294967296)) % 4294967296) + ((rd l0 (ji26)) % 4294967296)) % 4294967296)] 31 (0, 0)) (by (with_reducible repeat (first | refine blk_drewN ?_ _ | refine blk_drew ?_ | refine blk_alloc ?_ _)); exact BK171.out) k_ hk)); (case aO => exact (by (with_reducible repeat (first | apply Kd.R_alloc | apply Kd.R_drewN | apply Kd.R_drew)); exact HO_4.out)); (case aS => exact (below_size (by repeat (first | (with_reducible first | exact HB.out | apply below_alloc | apply pw_below_drewN | apply below_drew1 | refine below_set ?_ GE171.out) | exact HB.out)))); (case aL => have := LMc31.out; omega); intro v178 w46 ho hb hg hat; rw [← Ny177.out] at ho; have n0_ := Aside0.mk (blk_grown (g := gb171) (o := .cells #[.int .i64 (wrap64 (rd l0 x5_1)), .int .i64 (wrap64 (rd l0 (ji5))), .int .i64 (wrap64 (rd l0 (ji8))), .int .i64 (wrap64 (rd l0 (ji11))), .int .i64 (wrap64 (rd l0 (ji14))), .int .u32 ((((((((((rd l0 (ji17)) % 4294967296) * 16777216) % 4294967296) + ((((rd l0 (ji20)) % 4294967296) * 65536) % 4294967296)) % 4294967296) + ((((rd l0 (ji23)) % 4294967296) * 256) % 4294967296)) % 4294967296) + ((rd l0 (ji26)) % 4294967296)) % 4294967296)] 31 (0, 0)) (by (with_reducible repeat (first | refine blk_drewN ?_ _ | refine blk_drew ?_ | refine blk_alloc ?_ _)); exact BK171.out) hg (Kd.R_away HO_4.out (fun _ hk => hk))); have n1_ := Aside0.mk (hb); have n2_ := Aside0.mk (ho); clear BK171; clear HB; clear HO_4; have BK171 := n0_; have HB := n1_; have HO179 := n2_; clear n0_ n1_ n2_; clear ho hb hg hat))
                                                go_roundg k1
                                                case measure => have := HK1.out; omega
                                                case rel => exact ⟨(y177), (wrap64 (x5_1 + 9)), (by first | rfl | (simp; done) | (simp [*]; done)), H', ⟨by have := HK1.out; omega⟩, ⟨by (with_reducible repeat (first | apply Kd.R_alloc | apply Kd.R_drewN | apply Kd.R_drew)); exact Kd.R_mono HO179.out (fun _ hk => trivial)⟩, ⟨by repeat (first | (with_reducible first | exact HB.out | apply below_alloc | apply pw_below_drewN | apply below_drew1 | refine below_set ?_ GE171.out) | exact HB.out)⟩⟩
                                              · rw [if_neg c31] at H
                                                exact absurd H (by simp)
                                            · replace c30 := Bool.eq_false_iff.mpr c30
                                              subst c30
                                              have H1 : (some (([] : List (S31)), 6)) = some (r1, r2) := by rw [if_neg (show ¬ (false = true) by decide)] at H; exact H
                                              clear H
                                              have H := H1
                                              clear H1
                                              simp only [Option.some.injEq, Prod.mk.injEq] at H
                                              obtain ⟨rfl, rfl⟩ := H
                                              try go_wp2
                                              have n0_ := Aside0.mk (Kd.R_drew HO_4.out)
                                              have n1_ := Aside0.mk (below_drew1 HB.out)
                                              clear HO_4
                                              clear HB
                                              have HO_4 := n0_
                                              have HB := n1_
                                              clear n0_ n1_
                                              have p166 : 0 ≤ (x5_1 : Int) := of_decide_eq_true (by first | (with_reducible assumption) | assumption)
                                              have q166 : x5_1 < (l0.length : Int) := of_decide_eq_true (by first | (with_reducible assumption) | assumption)
                                              obtain ⟨ad166, e166, hx166_0⟩ := Kd.at_int HR0.out x5_1 p166 q166
                                              have hw166_0 := hx166_0
                                              cases e166
                                              replace hx166_0 := (HB.out.cell (World.block_lt_of_cell? w _ hx166_0)).trans hx166_0
                                              replace p166 := eq_true p166
                                              replace q166 := eq_true q166
                                              have p167 : 0 ≤ ((ji5) : Int) := of_decide_eq_true (by first | (with_reducible assumption) | assumption)
                                              have q167 : (ji5) < (l0.length : Int) := of_decide_eq_true (by first | (with_reducible assumption) | assumption)
                                              obtain ⟨ad167, e167, hx167_0⟩ := Kd.at_int HR0.out (ji5) p167 q167
                                              have hw167_0 := hx167_0
                                              obtain rfl : ad166 = ad167 := (by injection e167)
                                              replace hx167_0 := (HB.out.cell (World.block_lt_of_cell? w _ hx167_0)).trans hx167_0
                                              replace p167 := eq_true p167
                                              replace q167 := eq_true q167
                                              have p168 : 0 ≤ ((ji8) : Int) := of_decide_eq_true (by first | (with_reducible assumption) | assumption)
                                              have q168 : (ji8) < (l0.length : Int) := of_decide_eq_true (by first | (with_reducible assumption) | assumption)
                                              obtain ⟨ad168, e168, hx168_0⟩ := Kd.at_int HR0.out (ji8) p168 q168
                                              have hw168_0 := hx168_0
                                              obtain rfl : ad166 = ad168 := (by injection e168)
                                              replace hx168_0 := (HB.out.cell (World.block_lt_of_cell? w _ hx168_0)).trans hx168_0
                                              replace p168 := eq_true p168
                                              replace q168 := eq_true q168
                                              have p169 : 0 ≤ ((ji11) : Int) := of_decide_eq_true (by first | (with_reducible assumption) | assumption)
                                              have q169 : (ji11) < (l0.length : Int) := of_decide_eq_true (by first | (with_reducible assumption) | assumption)
                                              obtain ⟨ad169, e169, hx169_0⟩ := Kd.at_int HR0.out (ji11) p169 q169
                                              have hw169_0 := hx169_0
                                              obtain rfl : ad166 = ad169 := (by injection e169)
                                              replace hx169_0 := (HB.out.cell (World.block_lt_of_cell? w _ hx169_0)).trans hx169_0
                                              replace p169 := eq_true p169
                                              replace q169 := eq_true q169
                                              have p170 : 0 ≤ ((ji14) : Int) := of_decide_eq_true (by first | (with_reducible assumption) | assumption)
                                              have q170 : (ji14) < (l0.length : Int) := of_decide_eq_true (by first | (with_reducible assumption) | assumption)
                                              obtain ⟨ad170, e170, hx170_0⟩ := Kd.at_int HR0.out (ji14) p170 q170
                                              have hw170_0 := hx170_0
                                              obtain rfl : ad166 = ad170 := (by injection e170)
                                              replace hx170_0 := (HB.out.cell (World.block_lt_of_cell? w _ hx170_0)).trans hx170_0
                                              replace p170 := eq_true p170
                                              replace q170 := eq_true q170
                                              refine start_ (n := 32) (S := fun w' => w'.cell? (ad166.add (x5_1).toNat) = some (.int .u8 (rd l0 x5_1)) ∧ w'.cell? (ad166.add ((ji5)).toNat) = some (.int .u8 (rd l0 (ji5))) ∧ w'.cell? (ad166.add ((ji8)).toNat) = some (.int .u8 (rd l0 (ji8))) ∧ w'.cell? (ad166.add ((ji11)).toNat) = some (.int .u8 (rd l0 (ji11))) ∧ w'.cell? (ad166.add ((ji14)).toNat) = some (.int .u8 (rd l0 (ji14)))) (ds := []) #[false, false, false, false, false, false, false, false, false, false, false, false, false, false, false, false, false, false, false, false, false, false, false, false, false, false, false, false, false, false, false, false] (by kernel_rfl) rfl rfl ⟨((HB.out.cell (World.block_lt_of_cell? w _ hw166_0)).trans hw166_0), ((HB.out.cell (World.block_lt_of_cell? w _ hw167_0)).trans hw167_0), ((HB.out.cell (World.block_lt_of_cell? w _ hw168_0)).trans hw168_0), ((HB.out.cell (World.block_lt_of_cell? w _ hw169_0)).trans hw169_0), ((HB.out.cell (World.block_lt_of_cell? w _ hw170_0)).trans hw170_0)⟩ (fun hHeld => ?_); refine with_tabW carlingref13_Of.tab7 carlingref13_Of.bits7 (fun HT_ HW_ => ?_)
                                              generalize wr.drew = w47 at HO_4 HB hx166_0 hx167_0 hx168_0 hx169_0 hx170_0 hHeld ⊢
                                              refine pure_ (i := 0) (N := some 17) (v := ?_) (a' := ?_) #[true, false, false, false, false, false, false, false, false, false, false, false, false, false, false, false, false, false, false, false, false, false, false, false, false, false, false, false, false, false, false, false] rfl rfl (any_of HT_.out (by kernel_rfl)) (fun _ _ _ h => h) (Or.inl ⟨by rfl, ?_⟩) ?_ ?_
                                              rotate_left
                                              · intro w'
                                                go_simp
                                                with_reducible rfl
                                              rotate_left
                                              · simp only [Act.put, List.setIfInBounds_toArray, List.set_cons_zero, List.set_cons_succ, i64_w, i32_w]
                                                rfl
                                              refine pure_ (i := 1) (N := some 18) (v := ?_) (a' := ?_) #[true, true, false, false, false, false, false, false, false, false, false, false, false, false, false, false, false, false, false, false, false, false, false, false, false, false, false, false, false, false, false, false] rfl rfl (any_of HT_.out (by kernel_rfl)) (fun _ _ _ h => h) (Or.inl ⟨by rfl, ?_⟩) ?_ ?_
                                              rotate_left
                                              · intro w'
                                                go_simp
                                                with_reducible rfl
                                              rotate_left
                                              · simp only [Act.put, List.setIfInBounds_toArray, List.set_cons_zero, List.set_cons_succ, i64_w, i32_w]
                                                rfl
                                              refine pure_ (i := 2) (N := some 19) (v := ?_) (a' := ?_) #[true, true, true, false, false, false, false, false, false, false, false, false, false, false, false, false, false, false, false, false, false, false, false, false, false, false, false, false, false, false, false, false] rfl rfl (any_of HT_.out (by kernel_rfl)) (fun _ _ _ h => h) (Or.inl ⟨by rfl, ?_⟩) ?_ ?_
                                              rotate_left
                                              · intro w'
                                                go_simp
                                                with_reducible rfl
                                              rotate_left
                                              · simp only [Act.put, List.setIfInBounds_toArray, List.set_cons_zero, List.set_cons_succ, i64_w, i32_w]
                                                rfl
                                              refine pure_ (i := 5) (N := some 22) (v := ?_) (a' := ?_) #[true, true, true, false, false, true, false, false, false, false, false, false, false, false, false, false, false, false, false, false, false, false, false, false, false, false, false, false, false, false, false, false] rfl rfl (any_of HT_.out (by kernel_rfl)) (fun _ _ _ h => h) (Or.inl ⟨by rfl, ?_⟩) ?_ ?_
                                              rotate_left
                                              · intro w'
                                                go_simp
                                                with_reducible rfl
                                              rotate_left
                                              · simp only [Act.put, List.setIfInBounds_toArray, List.set_cons_zero, List.set_cons_succ, i64_w, i32_w]
                                                rfl
                                              refine pure_ (i := 6) (N := some 23) (v := ?_) (a' := ?_) #[true, true, true, false, false, true, true, false, false, false, false, false, false, false, false, false, false, false, false, false, false, false, false, false, false, false, false, false, false, false, false, false] rfl rfl (any_of HT_.out (by kernel_rfl)) (fun _ _ _ h => h) (Or.inl ⟨by rfl, ?_⟩) ?_ ?_
                                              rotate_left
                                              · intro w'
                                                go_simp
                                                with_reducible rfl
                                              rotate_left
                                              · simp only [Act.put, List.setIfInBounds_toArray, List.set_cons_zero, List.set_cons_succ, i64_w, i32_w]
                                                rfl
                                              refine pure_ (i := 7) (N := some 24) (v := ?_) (a' := ?_) #[true, true, true, false, false, true, true, true, false, false, false, false, false, false, false, false, false, false, false, false, false, false, false, false, false, false, false, false, false, false, false, false] rfl rfl (any_of HT_.out (by kernel_rfl)) (fun _ _ _ h => h) (Or.inl ⟨by rfl, ?_⟩) ?_ ?_
                                              rotate_left
                                              · intro w'
                                                go_simp
                                                with_reducible rfl
                                              rotate_left
                                              · simp only [Act.put, List.setIfInBounds_toArray, List.set_cons_zero, List.set_cons_succ, i64_w, i32_w]
                                                rfl
                                              refine pure_ (i := 8) (N := some 25) (v := ?_) (a' := ?_) #[true, true, true, false, false, true, true, true, true, false, false, false, false, false, false, false, false, false, false, false, false, false, false, false, false, false, false, false, false, false, false, false] rfl rfl (any_of HT_.out (by kernel_rfl)) (fun _ _ _ h => h) (Or.inl ⟨by rfl, ?_⟩) ?_ ?_
                                              rotate_left
                                              · intro w'
                                                go_simp
                                                with_reducible rfl
                                              rotate_left
                                              · simp only [Act.put, List.setIfInBounds_toArray, List.set_cons_zero, List.set_cons_succ, i64_w, i32_w]
                                                rfl
                                              refine pure_ (i := 11) (N := some 28) (v := ?_) (a' := ?_) #[true, true, true, false, false, true, true, true, true, false, false, true, false, false, false, false, false, false, false, false, false, false, false, false, false, false, false, false, false, false, false, false] rfl rfl (any_of HT_.out (by kernel_rfl)) (fun _ _ _ h => h) (Or.inl ⟨by rfl, ?_⟩) ?_ ?_
                                              rotate_left
                                              · intro w'
                                                go_simp
                                                with_reducible rfl
                                              rotate_left
                                              · simp only [Act.put, List.setIfInBounds_toArray, List.set_cons_zero, List.set_cons_succ, i64_w, i32_w]
                                                rfl
                                              refine pure_ (i := 12) (N := some 29) (v := ?_) (a' := ?_) #[true, true, true, false, false, true, true, true, true, false, false, true, true, false, false, false, false, false, false, false, false, false, false, false, false, false, false, false, false, false, false, false] rfl rfl (any_of HT_.out (by kernel_rfl)) (fun _ _ _ h => h) (Or.inl ⟨by rfl, ?_⟩) ?_ ?_
                                              rotate_left
                                              · intro w'
                                                go_simp
                                                with_reducible rfl
                                              rotate_left
                                              · simp only [Act.put, List.setIfInBounds_toArray, List.set_cons_zero, List.set_cons_succ, i64_w, i32_w]
                                                rfl
                                              refine pure_ (i := 13) (N := some 30) (v := ?_) (a' := ?_) #[true, true, true, false, false, true, true, true, true, false, false, true, true, true, false, false, false, false, false, false, false, false, false, false, false, false, false, false, false, false, false, false] rfl rfl (any_of HT_.out (by kernel_rfl)) (fun _ _ _ h => h) (Or.inl ⟨by rfl, ?_⟩) ?_ ?_
                                              rotate_left
                                              · intro w'
                                                go_simp
                                                with_reducible rfl
                                              rotate_left
                                              · simp only [Act.put, List.setIfInBounds_toArray, List.set_cons_zero, List.set_cons_succ, i64_w, i32_w]
                                                rfl
                                              refine pure_ (i := 14) (N := some 31) (v := ?_) (a' := ?_) #[true, true, true, false, false, true, true, true, true, false, false, true, true, true, true, false, false, false, false, false, false, false, false, false, false, false, false, false, false, false, false, false] rfl rfl (any_of HT_.out (by kernel_rfl)) (fun _ _ _ h => h) (Or.inl ⟨by rfl, ?_⟩) ?_ ?_
                                              rotate_left
                                              · intro w'
                                                go_simp
                                                with_reducible rfl
                                              rotate_left
                                              · simp only [Act.put, List.setIfInBounds_toArray, List.set_cons_zero, List.set_cons_succ, i64_w, i32_w]
                                                rfl
                                              refine pure_ (i := 17) (N := some 34) (v := ?_) (a' := ?_) #[true, true, true, false, false, true, true, true, true, false, false, true, true, true, true, false, false, true, false, false, false, false, false, false, false, false, false, false, false, false, false, false] rfl rfl (any_of HT_.out (by kernel_rfl)) (fun _ _ _ h => h) (Or.inl ⟨by rfl, ?_⟩) ?_ ?_
                                              rotate_left
                                              · intro w'
                                                go_simp
                                                with_reducible rfl
                                              rotate_left
                                              · simp only [Act.put, List.setIfInBounds_toArray, List.set_cons_zero, List.set_cons_succ, i64_w, i32_w]
                                                rfl
                                              refine pure_ (i := 18) (N := some 35) (v := ?_) (a' := ?_) #[true, true, true, false, false, true, true, true, true, false, false, true, true, true, true, false, false, true, true, false, false, false, false, false, false, false, false, false, false, false, false, false] rfl rfl (any_of HT_.out (by kernel_rfl)) (fun _ _ _ h => h) (Or.inl ⟨by rfl, ?_⟩) ?_ ?_
                                              rotate_left
                                              · intro w'
                                                go_simp
                                                with_reducible rfl
                                              rotate_left
                                              · simp only [Act.put, List.setIfInBounds_toArray, List.set_cons_zero, List.set_cons_succ, i64_w, i32_w]
                                                rfl
                                              refine pure_ (i := 19) (N := some 36) (v := ?_) (a' := ?_) #[true, true, true, false, false, true, true, true, true, false, false, true, true, true, true, false, false, true, true, true, false, false, false, false, false, false, false, false, false, false, false, false] rfl rfl (any_of HT_.out (by kernel_rfl)) (fun _ _ _ h => h) (Or.inl ⟨by rfl, ?_⟩) ?_ ?_
                                              rotate_left
                                              · intro w'
                                                go_simp
                                                with_reducible rfl
                                              rotate_left
                                              · simp only [Act.put, List.setIfInBounds_toArray, List.set_cons_zero, List.set_cons_succ, i64_w, i32_w]
                                                rfl
                                              refine pure_ (i := 20) (N := some 37) (v := ?_) (a' := ?_) #[true, true, true, false, false, true, true, true, true, false, false, true, true, true, true, false, false, true, true, true, true, false, false, false, false, false, false, false, false, false, false, false] rfl rfl (any_of HT_.out (by kernel_rfl)) (fun _ _ _ h => h) (Or.inl ⟨by rfl, ?_⟩) ?_ ?_
                                              rotate_left
                                              · intro w'
                                                go_simp
                                                with_reducible rfl
                                              rotate_left
                                              · simp only [Act.put, List.setIfInBounds_toArray, List.set_cons_zero, List.set_cons_succ, i64_w, i32_w]
                                                rfl
                                              refine pure_ (i := 23) (N := some 40) (v := ?_) (a' := ?_) #[true, true, true, false, false, true, true, true, true, false, false, true, true, true, true, false, false, true, true, true, true, false, false, true, false, false, false, false, false, false, false, false] rfl rfl (any_of HT_.out (by kernel_rfl)) (fun _ _ _ h => h) (Or.inl ⟨by rfl, ?_⟩) ?_ ?_
                                              rotate_left
                                              · intro w'
                                                go_simp
                                                with_reducible rfl
                                              rotate_left
                                              · simp only [Act.put, List.setIfInBounds_toArray, List.set_cons_zero, List.set_cons_succ, i64_w, i32_w]
                                                rfl
                                              refine pure_ (i := 24) (N := some 41) (v := ?_) (a' := ?_) #[true, true, true, false, false, true, true, true, true, false, false, true, true, true, true, false, false, true, true, true, true, false, false, true, true, false, false, false, false, false, false, false] rfl rfl (any_of HT_.out (by kernel_rfl)) (fun _ _ _ h => h) (Or.inl ⟨by rfl, ?_⟩) ?_ ?_
                                              rotate_left
                                              · intro w'
                                                go_simp
                                                with_reducible rfl
                                              rotate_left
                                              · simp only [Act.put, List.setIfInBounds_toArray, List.set_cons_zero, List.set_cons_succ, i64_w, i32_w]
                                                rfl
                                              refine pure_ (i := 25) (N := some 42) (v := ?_) (a' := ?_) #[true, true, true, false, false, true, true, true, true, false, false, true, true, true, true, false, false, true, true, true, true, false, false, true, true, true, false, false, false, false, false, false] rfl rfl (any_of HT_.out (by kernel_rfl)) (fun _ _ _ h => h) (Or.inl ⟨by rfl, ?_⟩) ?_ ?_
                                              rotate_left
                                              · intro w'
                                                go_simp
                                                with_reducible rfl
                                              rotate_left
                                              · simp only [Act.put, List.setIfInBounds_toArray, List.set_cons_zero, List.set_cons_succ, i64_w, i32_w]
                                                rfl
                                              refine pure_ (i := 26) (N := some 43) (v := ?_) (a' := ?_) #[true, true, true, false, false, true, true, true, true, false, false, true, true, true, true, false, false, true, true, true, true, false, false, true, true, true, true, false, false, false, false, false] rfl rfl (any_of HT_.out (by kernel_rfl)) (fun _ _ _ h => h) (Or.inl ⟨by rfl, ?_⟩) ?_ ?_
                                              rotate_left
                                              · intro w'
                                                go_simp
                                                with_reducible rfl
                                              rotate_left
                                              · simp only [Act.put, List.setIfInBounds_toArray, List.set_cons_zero, List.set_cons_succ, i64_w, i32_w]
                                                rfl
                                              refine take_ (i := 3) (N := some 20) (v := ?_) (a' := ?_) #[true, true, true, true, false, true, true, true, true, false, false, true, true, true, true, false, false, true, true, true, true, false, false, true, true, true, true, false, false, false, false, false] rfl rfl (take_ofW HT_.out HW_.out (by kernel_rfl)) (fun _ _ _ h => h) (Or.inl ⟨by rfl, ?_⟩) hHeld ?_ ?_
                                              rotate_left
                                              · rintro w' ⟨s0, s1, s2, s3, s4⟩
                                                go_simp
                                                with_reducible rfl
                                              rotate_left
                                              · simp only [Act.put, List.setIfInBounds_toArray, List.set_cons_zero, List.set_cons_succ, i64_w, i32_w]
                                                rfl
                                              refine pure_ (i := 4) (N := some 21) (v := ?_) (a' := ?_) #[true, true, true, true, true, true, true, true, true, false, false, true, true, true, true, false, false, true, true, true, true, false, false, true, true, true, true, false, false, false, false, false] rfl rfl (any_of HT_.out (by kernel_rfl)) (fun _ _ _ h => h) (Or.inl ⟨by rfl, ?_⟩) ?_ ?_
                                              rotate_left
                                              · intro w'
                                                go_simp
                                                with_reducible rfl
                                              rotate_left
                                              · simp only [Act.put, List.setIfInBounds_toArray, List.set_cons_zero, List.set_cons_succ, i64_w, i32_w]
                                                rfl
                                              refine take_ (i := 9) (N := some 26) (v := ?_) (a' := ?_) #[true, true, true, true, true, true, true, true, true, true, false, true, true, true, true, false, false, true, true, true, true, false, false, true, true, true, true, false, false, false, false, false] rfl rfl (take_ofW HT_.out HW_.out (by kernel_rfl)) (fun _ _ _ h => h) (Or.inl ⟨by rfl, ?_⟩) hHeld ?_ ?_
                                              rotate_left
                                              · rintro w' ⟨s0, s1, s2, s3, s4⟩
                                                go_simp
                                                with_reducible rfl
                                              rotate_left
                                              · simp only [Act.put, List.setIfInBounds_toArray, List.set_cons_zero, List.set_cons_succ, i64_w, i32_w]
                                                rfl
                                              refine pure_ (i := 10) (N := some 27) (v := ?_) (a' := ?_) #[true, true, true, true, true, true, true, true, true, true, true, true, true, true, true, false, false, true, true, true, true, false, false, true, true, true, true, false, false, false, false, false] rfl rfl (any_of HT_.out (by kernel_rfl)) (fun _ _ _ h => h) (Or.inl ⟨by rfl, ?_⟩) ?_ ?_
                                              rotate_left
                                              · intro w'
                                                go_simp
                                                with_reducible rfl
                                              rotate_left
                                              · simp only [Act.put, List.setIfInBounds_toArray, List.set_cons_zero, List.set_cons_succ, i64_w, i32_w]
                                                rfl
                                              refine take_ (i := 15) (N := some 32) (v := ?_) (a' := ?_) #[true, true, true, true, true, true, true, true, true, true, true, true, true, true, true, true, false, true, true, true, true, false, false, true, true, true, true, false, false, false, false, false] rfl rfl (take_ofW HT_.out HW_.out (by kernel_rfl)) (fun _ _ _ h => h) (Or.inl ⟨by rfl, ?_⟩) hHeld ?_ ?_
                                              rotate_left
                                              · rintro w' ⟨s0, s1, s2, s3, s4⟩
                                                go_simp
                                                with_reducible rfl
                                              rotate_left
                                              · simp only [Act.put, List.setIfInBounds_toArray, List.set_cons_zero, List.set_cons_succ, i64_w, i32_w]
                                                rfl
                                              refine pure_ (i := 16) (N := some 33) (v := ?_) (a' := ?_) #[true, true, true, true, true, true, true, true, true, true, true, true, true, true, true, true, true, true, true, true, true, false, false, true, true, true, true, false, false, false, false, false] rfl rfl (any_of HT_.out (by kernel_rfl)) (fun _ _ _ h => h) (Or.inl ⟨by rfl, ?_⟩) ?_ ?_
                                              rotate_left
                                              · intro w'
                                                go_simp
                                                with_reducible rfl
                                              rotate_left
                                              · simp only [Act.put, List.setIfInBounds_toArray, List.set_cons_zero, List.set_cons_succ, i64_w, i32_w]
                                                rfl
                                              refine take_ (i := 21) (N := some 38) (v := ?_) (a' := ?_) #[true, true, true, true, true, true, true, true, true, true, true, true, true, true, true, true, true, true, true, true, true, true, false, true, true, true, true, false, false, false, false, false] rfl rfl (take_ofW HT_.out HW_.out (by kernel_rfl)) (fun _ _ _ h => h) (Or.inl ⟨by rfl, ?_⟩) hHeld ?_ ?_
                                              rotate_left
                                              · rintro w' ⟨s0, s1, s2, s3, s4⟩
                                                go_simp
                                                with_reducible rfl
                                              rotate_left
                                              · simp only [Act.put, List.setIfInBounds_toArray, List.set_cons_zero, List.set_cons_succ, i64_w, i32_w]
                                                rfl
                                              refine pure_ (i := 22) (N := some 39) (v := ?_) (a' := ?_) #[true, true, true, true, true, true, true, true, true, true, true, true, true, true, true, true, true, true, true, true, true, true, true, true, true, true, true, false, false, false, false, false] rfl rfl (any_of HT_.out (by kernel_rfl)) (fun _ _ _ h => h) (Or.inl ⟨by rfl, ?_⟩) ?_ ?_
                                              rotate_left
                                              · intro w'
                                                go_simp
                                                with_reducible rfl
                                              rotate_left
                                              · simp only [Act.put, List.setIfInBounds_toArray, List.set_cons_zero, List.set_cons_succ, i64_w, i32_w]
                                                rfl
                                              refine take_ (i := 27) (N := some 44) (v := ?_) (a' := ?_) #[true, true, true, true, true, true, true, true, true, true, true, true, true, true, true, true, true, true, true, true, true, true, true, true, true, true, true, true, false, false, false, false] rfl rfl (take_ofW HT_.out HW_.out (by kernel_rfl)) (fun _ _ _ h => h) (Or.inl ⟨by rfl, ?_⟩) hHeld ?_ ?_
                                              rotate_left
                                              · rintro w' ⟨s0, s1, s2, s3, s4⟩
                                                go_simp
                                                with_reducible rfl
                                              rotate_left
                                              · simp only [Act.put, List.setIfInBounds_toArray, List.set_cons_zero, List.set_cons_succ, i64_w, i32_w]
                                                rfl
                                              refine pure_ (i := 28) (N := some 45) (v := ?_) (a' := ?_) #[true, true, true, true, true, true, true, true, true, true, true, true, true, true, true, true, true, true, true, true, true, true, true, true, true, true, true, true, true, false, false, false] rfl rfl (any_of HT_.out (by kernel_rfl)) (fun _ _ _ h => h) (Or.inl ⟨by rfl, ?_⟩) ?_ ?_
                                              rotate_left
                                              · intro w'
                                                go_simp
                                                with_reducible rfl
                                              rotate_left
                                              · simp only [Act.put, List.setIfInBounds_toArray, List.set_cons_zero, List.set_cons_succ, i64_w, i32_w]
                                                rfl
                                              refine pure_ (i := 29) (N := some 46) (v := ?_) (a' := ?_) #[true, true, true, true, true, true, true, true, true, true, true, true, true, true, true, true, true, true, true, true, true, true, true, true, true, true, true, true, true, true, false, false] rfl rfl (any_of HT_.out (by kernel_rfl)) (fun _ _ _ h => h) (Or.inl ⟨by rfl, ?_⟩) ?_ ?_
                                              rotate_left
                                              · intro w'
                                                go_simp
                                                with_reducible rfl
                                              rotate_left
                                              · simp only [Act.put, List.setIfInBounds_toArray, List.set_cons_zero, List.set_cons_succ, i64_w, i32_w]
                                                rfl
                                              refine one_ (i := 30) (N := some 6) #[true, true, true, true, true, true, true, true, true, true, true, true, true, true, true, true, true, true, true, true, true, true, true, true, true, true, true, true, true, true, true, false] rfl rfl (one_of HT_.out (by kernel_rfl)) (by decide) (fun K hK => ?_)
                                              refine box_step ?hg (N := 6) ?hd (cs := #[.int .i64 0, .int .i64 0, .int .i64 0, .int .i64 0, .int .i64 0, .int .u32 0]) (t := 31) ?hr ?_; (case hd => rfl); (case hg => rfl); (case hr => first | (go_simp; done) | (go_simp; rfl))
                                              intro gb171 hg w48 hbox hb
                                              have n0_ := Aside0.mk (Kd.R_below (Kd.R_elderB (by (with_reducible repeat (first | apply Kd.R_alloc | apply Kd.R_drewN | apply Kd.R_drew)); exact HO_4.out) gb171 (Nat.le_of_eq hg.symm)) hb)
                                              have n1_ := Aside0.mk (below_step (by repeat (first | (with_reducible first | exact HB.out | apply below_alloc | apply pw_below_drewN | apply below_drew1) | exact HB.out)) hb)
                                              have n2_ := Aside0.mk (hbox)
                                              have n3_ := Aside0.mk ((by rw [hg]; exact (below_size (by repeat (first | (with_reducible first | exact HB.out | apply below_alloc | apply pw_below_drewN | apply below_drew1) | exact HB.out))) : w.heap.size ≤ gb171))
                                              have n4_ := Aside0.mk ((by rw [hg]; exact (below_size (by repeat (first | (with_reducible first | exact HB.out | apply below_alloc | apply pw_below_drewN | apply below_drew1) | exact HB.out))) : w.heap.size ≤ gb171))
                                              clear HO_4
                                              clear HB
                                              have HO_4 := n0_
                                              have HB := n1_
                                              have BK171 := n2_
                                              have GW171 := n3_
                                              have GE171 := n4_
                                              clear n0_ n1_ n2_ n3_ n4_
                                              clear hb hbox hg
                                              refine hK.out _ _ ⟨((HB.out.cell (World.block_lt_of_cell? w _ hw166_0)).trans hw166_0), ((HB.out.cell (World.block_lt_of_cell? w _ hw167_0)).trans hw167_0), ((HB.out.cell (World.block_lt_of_cell? w _ hw168_0)).trans hw168_0), ((HB.out.cell (World.block_lt_of_cell? w _ hw169_0)).trans hw169_0), ((HB.out.cell (World.block_lt_of_cell? w _ hw170_0)).trans hw170_0)⟩ (fun hHeld => ?_)
                                              clear hK K
                                              refine norm_ (a' := ?_) ?_ ?_
                                              rotate_left
                                              · show Act.put _ (some 6) _ = _
                                                simp only [Act.put, List.setIfInBounds_toArray, List.set_cons_zero, List.set_cons_succ, i64_w, i32_w]
                                                rfl
                                              refine one_ (i := 31) (N := none) #[true, true, true, true, true, true, true, true, true, true, true, true, true, true, true, true, true, true, true, true, true, true, true, true, true, true, true, true, true, true, true, true] rfl rfl (one_of HT_.out (by kernel_rfl)) (by decide) (fun K hK => ?_)
                                              have hs49 : w48.cell? ⟨gb171, 0, none⟩ = some (.int .i64 0) := (blk_cell BK171.out 0).trans rfl
                                              have hfs49 := blk_frozen BK171.out 0
                                              have hs50 : w48.cell? ⟨gb171, 1, none⟩ = some (.int .i64 0) := (blk_cell BK171.out 1).trans rfl
                                              have hfs50 := blk_frozen BK171.out 1
                                              have hs51 : w48.cell? ⟨gb171, 2, none⟩ = some (.int .i64 0) := (blk_cell BK171.out 2).trans rfl
                                              have hfs51 := blk_frozen BK171.out 2
                                              have hs52 : w48.cell? ⟨gb171, 3, none⟩ = some (.int .i64 0) := (blk_cell BK171.out 3).trans rfl
                                              have hfs52 := blk_frozen BK171.out 3
                                              have hs53 : w48.cell? ⟨gb171, 4, none⟩ = some (.int .i64 0) := (blk_cell BK171.out 4).trans rfl
                                              have hfs53 := blk_frozen BK171.out 4
                                              have hs54 : w48.cell? ⟨gb171, 5, none⟩ = some (.int .u32 0) := (blk_cell BK171.out 5).trans rfl
                                              have hfs54 := blk_frozen BK171.out 5
                                              refine skip_ (w1 := ?_) (by rfl) rfl ?_ ?_
                                              rotate_left
                                              · go_simp
                                                rfl
                                              refine hK.out _ _ ⟨((cell_far (p := ⟨gb171, _, none⟩) (by first | exact Nat.ne_of_lt (Nat.lt_of_lt_of_le (by have := World.block_lt_of_cell? _ _ hw166_0; first | rwa [add_block] at this | exact this) GW171.out) | (rw [add_block]; exact Nat.ne_of_lt (Nat.lt_of_lt_of_le (by have := World.block_lt_of_cell? _ _ hw166_0; first | rwa [add_block] at this | exact this) GW171.out)) | (show (Addr.add _ _).block ≠ _; rw [add_block]; exact Nat.ne_of_lt (Nat.lt_of_lt_of_le (by have := World.block_lt_of_cell? _ _ hw166_0; first | rwa [add_block] at this | exact this) GW171.out)) | (dsimp only; exact Nat.ne_of_lt (Nat.lt_of_lt_of_le (by have := World.block_lt_of_cell? _ _ hw166_0; first | rwa [add_block] at this | exact this) GW171.out))) _).trans (((cell_far (p := ⟨gb171, _, none⟩) (by first | exact Nat.ne_of_lt (Nat.lt_of_lt_of_le (by have := World.block_lt_of_cell? _ _ hw166_0; first | rwa [add_block] at this | exact this) GW171.out) | (rw [add_block]; exact Nat.ne_of_lt (Nat.lt_of_lt_of_le (by have := World.block_lt_of_cell? _ _ hw166_0; first | rwa [add_block] at this | exact this) GW171.out)) | (show (Addr.add _ _).block ≠ _; rw [add_block]; exact Nat.ne_of_lt (Nat.lt_of_lt_of_le (by have := World.block_lt_of_cell? _ _ hw166_0; first | rwa [add_block] at this | exact this) GW171.out)) | (dsimp only; exact Nat.ne_of_lt (Nat.lt_of_lt_of_le (by have := World.block_lt_of_cell? _ _ hw166_0; first | rwa [add_block] at this | exact this) GW171.out))) _).trans (((cell_far (p := ⟨gb171, _, none⟩) (by first | exact Nat.ne_of_lt (Nat.lt_of_lt_of_le (by have := World.block_lt_of_cell? _ _ hw166_0; first | rwa [add_block] at this | exact this) GW171.out) | (rw [add_block]; exact Nat.ne_of_lt (Nat.lt_of_lt_of_le (by have := World.block_lt_of_cell? _ _ hw166_0; first | rwa [add_block] at this | exact this) GW171.out)) | (show (Addr.add _ _).block ≠ _; rw [add_block]; exact Nat.ne_of_lt (Nat.lt_of_lt_of_le (by have := World.block_lt_of_cell? _ _ hw166_0; first | rwa [add_block] at this | exact this) GW171.out)) | (dsimp only; exact Nat.ne_of_lt (Nat.lt_of_lt_of_le (by have := World.block_lt_of_cell? _ _ hw166_0; first | rwa [add_block] at this | exact this) GW171.out))) _).trans (((cell_far (p := ⟨gb171, _, none⟩) (by first | exact Nat.ne_of_lt (Nat.lt_of_lt_of_le (by have := World.block_lt_of_cell? _ _ hw166_0; first | rwa [add_block] at this | exact this) GW171.out) | (rw [add_block]; exact Nat.ne_of_lt (Nat.lt_of_lt_of_le (by have := World.block_lt_of_cell? _ _ hw166_0; first | rwa [add_block] at this | exact this) GW171.out)) | (show (Addr.add _ _).block ≠ _; rw [add_block]; exact Nat.ne_of_lt (Nat.lt_of_lt_of_le (by have := World.block_lt_of_cell? _ _ hw166_0; first | rwa [add_block] at this | exact this) GW171.out)) | (dsimp only; exact Nat.ne_of_lt (Nat.lt_of_lt_of_le (by have := World.block_lt_of_cell? _ _ hw166_0; first | rwa [add_block] at this | exact this) GW171.out))) _).trans (((cell_far (p := ⟨gb171, _, none⟩) (by first | exact Nat.ne_of_lt (Nat.lt_of_lt_of_le (by have := World.block_lt_of_cell? _ _ hw166_0; first | rwa [add_block] at this | exact this) GW171.out) | (rw [add_block]; exact Nat.ne_of_lt (Nat.lt_of_lt_of_le (by have := World.block_lt_of_cell? _ _ hw166_0; first | rwa [add_block] at this | exact this) GW171.out)) | (show (Addr.add _ _).block ≠ _; rw [add_block]; exact Nat.ne_of_lt (Nat.lt_of_lt_of_le (by have := World.block_lt_of_cell? _ _ hw166_0; first | rwa [add_block] at this | exact this) GW171.out)) | (dsimp only; exact Nat.ne_of_lt (Nat.lt_of_lt_of_le (by have := World.block_lt_of_cell? _ _ hw166_0; first | rwa [add_block] at this | exact this) GW171.out))) _).trans (((cell_far (p := ⟨gb171, _, none⟩) (by first | exact Nat.ne_of_lt (Nat.lt_of_lt_of_le (by have := World.block_lt_of_cell? _ _ hw166_0; first | rwa [add_block] at this | exact this) GW171.out) | (rw [add_block]; exact Nat.ne_of_lt (Nat.lt_of_lt_of_le (by have := World.block_lt_of_cell? _ _ hw166_0; first | rwa [add_block] at this | exact this) GW171.out)) | (show (Addr.add _ _).block ≠ _; rw [add_block]; exact Nat.ne_of_lt (Nat.lt_of_lt_of_le (by have := World.block_lt_of_cell? _ _ hw166_0; first | rwa [add_block] at this | exact this) GW171.out)) | (dsimp only; exact Nat.ne_of_lt (Nat.lt_of_lt_of_le (by have := World.block_lt_of_cell? _ _ hw166_0; first | rwa [add_block] at this | exact this) GW171.out))) _).trans (hHeld.1)))))))))))), ((cell_far (p := ⟨gb171, _, none⟩) (by first | exact Nat.ne_of_lt (Nat.lt_of_lt_of_le (by have := World.block_lt_of_cell? _ _ hw167_0; first | rwa [add_block] at this | exact this) GW171.out) | (rw [add_block]; exact Nat.ne_of_lt (Nat.lt_of_lt_of_le (by have := World.block_lt_of_cell? _ _ hw167_0; first | rwa [add_block] at this | exact this) GW171.out)) | (show (Addr.add _ _).block ≠ _; rw [add_block]; exact Nat.ne_of_lt (Nat.lt_of_lt_of_le (by have := World.block_lt_of_cell? _ _ hw167_0; first | rwa [add_block] at this | exact this) GW171.out)) | (dsimp only; exact Nat.ne_of_lt (Nat.lt_of_lt_of_le (by have := World.block_lt_of_cell? _ _ hw167_0; first | rwa [add_block] at this | exact this) GW171.out))) _).trans (((cell_far (p := ⟨gb171, _, none⟩) (by first | exact Nat.ne_of_lt (Nat.lt_of_lt_of_le (by have := World.block_lt_of_cell? _ _ hw167_0; first | rwa [add_block] at this | exact this) GW171.out) | (rw [add_block]; exact Nat.ne_of_lt (Nat.lt_of_lt_of_le (by have := World.block_lt_of_cell? _ _ hw167_0; first | rwa [add_block] at this | exact this) GW171.out)) | (show (Addr.add _ _).block ≠ _; rw [add_block]; exact Nat.ne_of_lt (Nat.lt_of_lt_of_le (by have := World.block_lt_of_cell? _ _ hw167_0; first | rwa [add_block] at this | exact this) GW171.out)) | (dsimp only; exact Nat.ne_of_lt (Nat.lt_of_lt_of_le (by have := World.block_lt_of_cell? _ _ hw167_0; first | rwa [add_block] at this | exact this) GW171.out))) _).trans (((cell_far (p := ⟨gb171, _, none⟩) (by first | exact Nat.ne_of_lt (Nat.lt_of_lt_of_le (by have := World.block_lt_of_cell? _ _ hw167_0; first | rwa [add_block] at this | exact this) GW171.out) | (rw [add_block]; exact Nat.ne_of_lt (Nat.lt_of_lt_of_le (by have := World.block_lt_of_cell? _ _ hw167_0; first | rwa [add_block] at this | exact this) GW171.out)) | (show (Addr.add _ _).block ≠ _; rw [add_block]; exact Nat.ne_of_lt (Nat.lt_of_lt_of_le (by have := World.block_lt_of_cell? _ _ hw167_0; first | rwa [add_block] at this | exact this) GW171.out)) | (dsimp only; exact Nat.ne_of_lt (Nat.lt_of_lt_of_le (by have := World.block_lt_of_cell? _ _ hw167_0; first | rwa [add_block] at this | exact this) GW171.out))) _).trans (((cell_far (p := ⟨gb171, _, none⟩) (by first | exact Nat.ne_of_lt (Nat.lt_of_lt_of_le (by have := World.block_lt_of_cell? _ _ hw167_0; first | rwa [add_block] at this | exact this) GW171.out) | (rw [add_block]; exact Nat.ne_of_lt (Nat.lt_of_lt_of_le (by have := World.block_lt_of_cell? _ _ hw167_0; first | rwa [add_block] at this | exact this) GW171.out)) | (show (Addr.add _ _).block ≠ _; rw [add_block]; exact Nat.ne_of_lt (Nat.lt_of_lt_of_le (by have := World.block_lt_of_cell? _ _ hw167_0; first | rwa [add_block] at this | exact this) GW171.out)) | (dsimp only; exact Nat.ne_of_lt (Nat.lt_of_lt_of_le (by have := World.block_lt_of_cell? _ _ hw167_0; first | rwa [add_block] at this | exact this) GW171.out))) _).trans (((cell_far (p := ⟨gb171, _, none⟩) (by first | exact Nat.ne_of_lt (Nat.lt_of_lt_of_le (by have := World.block_lt_of_cell? _ _ hw167_0; first | rwa [add_block] at this | exact this) GW171.out) | (rw [add_block]; exact Nat.ne_of_lt (Nat.lt_of_lt_of_le (by have := World.block_lt_of_cell? _ _ hw167_0; first | rwa [add_block] at this | exact this) GW171.out)) | (show (Addr.add _ _).block ≠ _; rw [add_block]; exact Nat.ne_of_lt (Nat.lt_of_lt_of_le (by have := World.block_lt_of_cell? _ _ hw167_0; first | rwa [add_block] at this | exact this) GW171.out)) | (dsimp only; exact Nat.ne_of_lt (Nat.lt_of_lt_of_le (by have := World.block_lt_of_cell? _ _ hw167_0; first | rwa [add_block] at this | exact this) GW171.out))) _).trans (((cell_far (p := ⟨gb171, _, none⟩) (by first | exact Nat.ne_of_lt (Nat.lt_of_lt_of_le (by have := World.block_lt_of_cell? _ _ hw167_0; first | rwa [add_block] at this | exact this) GW171.out) | (rw [add_block]; exact Nat.ne_of_lt (Nat.lt_of_lt_of_le (by have := World.block_lt_of_cell? _ _ hw167_0; first | rwa [add_block] at this | exact this) GW171.out)) | (show (Addr.add _ _).block ≠ _; rw [add_block]; exact Nat.ne_of_lt (Nat.lt_of_lt_of_le (by have := World.block_lt_of_cell? _ _ hw167_0; first | rwa [add_block] at this | exact this) GW171.out)) | (dsimp only; exact Nat.ne_of_lt (Nat.lt_of_lt_of_le (by have := World.block_lt_of_cell? _ _ hw167_0; first | rwa [add_block] at this | exact this) GW171.out))) _).trans (hHeld.2.1)))))))))))), ((cell_far (p := ⟨gb171, _, none⟩) (by first | exact Nat.ne_of_lt (Nat.lt_of_lt_of_le (by have := World.block_lt_of_cell? _ _ hw168_0; first | rwa [add_block] at this | exact this) GW171.out) | (rw [add_block]; exact Nat.ne_of_lt (Nat.lt_of_lt_of_le (by have := World.block_lt_of_cell? _ _ hw168_0; first | rwa [add_block] at this | exact this) GW171.out)) | (show (Addr.add _ _).block ≠ _; rw [add_block]; exact Nat.ne_of_lt (Nat.lt_of_lt_of_le (by have := World.block_lt_of_cell? _ _ hw168_0; first | rwa [add_block] at this | exact this) GW171.out)) | (dsimp only; exact Nat.ne_of_lt (Nat.lt_of_lt_of_le (by have := World.block_lt_of_cell? _ _ hw168_0; first | rwa [add_block] at this | exact this) GW171.out))) _).trans (((cell_far (p := ⟨gb171, _, none⟩) (by first | exact Nat.ne_of_lt (Nat.lt_of_lt_of_le (by have := World.block_lt_of_cell? _ _ hw168_0; first | rwa [add_block] at this | exact this) GW171.out) | (rw [add_block]; exact Nat.ne_of_lt (Nat.lt_of_lt_of_le (by have := World.block_lt_of_cell? _ _ hw168_0; first | rwa [add_block] at this | exact this) GW171.out)) | (show (Addr.add _ _).block ≠ _; rw [add_block]; exact Nat.ne_of_lt (Nat.lt_of_lt_of_le (by have := World.block_lt_of_cell? _ _ hw168_0; first | rwa [add_block] at this | exact this) GW171.out)) | (dsimp only; exact Nat.ne_of_lt (Nat.lt_of_lt_of_le (by have := World.block_lt_of_cell? _ _ hw168_0; first | rwa [add_block] at this | exact this) GW171.out))) _).trans (((cell_far (p := ⟨gb171, _, none⟩) (by first | exact Nat.ne_of_lt (Nat.lt_of_lt_of_le (by have := World.block_lt_of_cell? _ _ hw168_0; first | rwa [add_block] at this | exact this) GW171.out) | (rw [add_block]; exact Nat.ne_of_lt (Nat.lt_of_lt_of_le (by have := World.block_lt_of_cell? _ _ hw168_0; first | rwa [add_block] at this | exact this) GW171.out)) | (show (Addr.add _ _).block ≠ _; rw [add_block]; exact Nat.ne_of_lt (Nat.lt_of_lt_of_le (by have := World.block_lt_of_cell? _ _ hw168_0; first | rwa [add_block] at this | exact this) GW171.out)) | (dsimp only; exact Nat.ne_of_lt (Nat.lt_of_lt_of_le (by have := World.block_lt_of_cell? _ _ hw168_0; first | rwa [add_block] at this | exact this) GW171.out))) _).trans (((cell_far (p := ⟨gb171, _, none⟩) (by first | exact Nat.ne_of_lt (Nat.lt_of_lt_of_le (by have := World.block_lt_of_cell? _ _ hw168_0; first | rwa [add_block] at this | exact this) GW171.out) | (rw [add_block]; exact Nat.ne_of_lt (Nat.lt_of_lt_of_le (by have := World.block_lt_of_cell? _ _ hw168_0; first | rwa [add_block] at this | exact this) GW171.out)) | (show (Addr.add _ _).block ≠ _; rw [add_block]; exact Nat.ne_of_lt (Nat.lt_of_lt_of_le (by have := World.block_lt_of_cell? _ _ hw168_0; first | rwa [add_block] at this | exact this) GW171.out)) | (dsimp only; exact Nat.ne_of_lt (Nat.lt_of_lt_of_le (by have := World.block_lt_of_cell? _ _ hw168_0; first | rwa [add_block] at this | exact this) GW171.out))) _).trans (((cell_far (p := ⟨gb171, _, none⟩) (by first | exact Nat.ne_of_lt (Nat.lt_of_lt_of_le (by have := World.block_lt_of_cell? _ _ hw168_0; first | rwa [add_block] at this | exact this) GW171.out) | (rw [add_block]; exact Nat.ne_of_lt (Nat.lt_of_lt_of_le (by have := World.block_lt_of_cell? _ _ hw168_0; first | rwa [add_block] at this | exact this) GW171.out)) | (show (Addr.add _ _).block ≠ _; rw [add_block]; exact Nat.ne_of_lt (Nat.lt_of_lt_of_le (by have := World.block_lt_of_cell? _ _ hw168_0; first | rwa [add_block] at this | exact this) GW171.out)) | (dsimp only; exact Nat.ne_of_lt (Nat.lt_of_lt_of_le (by have := World.block_lt_of_cell? _ _ hw168_0; first | rwa [add_block] at this | exact this) GW171.out))) _).trans (((cell_far (p := ⟨gb171, _, none⟩) (by first | exact Nat.ne_of_lt (Nat.lt_of_lt_of_le (by have := World.block_lt_of_cell? _ _ hw168_0; first | rwa [add_block] at this | exact this) GW171.out) | (rw [add_block]; exact Nat.ne_of_lt (Nat.lt_of_lt_of_le (by have := World.block_lt_of_cell? _ _ hw168_0; first | rwa [add_block] at this | exact this) GW171.out)) | (show (Addr.add _ _).block ≠ _; rw [add_block]; exact Nat.ne_of_lt (Nat.lt_of_lt_of_le (by have := World.block_lt_of_cell? _ _ hw168_0; first | rwa [add_block] at this | exact this) GW171.out)) | (dsimp only; exact Nat.ne_of_lt (Nat.lt_of_lt_of_le (by have := World.block_lt_of_cell? _ _ hw168_0; first | rwa [add_block] at this | exact this) GW171.out))) _).trans (hHeld.2.2.1)))))))))))), ((cell_far (p := ⟨gb171, _, none⟩) (by first | exact Nat.ne_of_lt (Nat.lt_of_lt_of_le (by have := World.block_lt_of_cell? _ _ hw169_0; first | rwa [add_block] at this | exact this) GW171.out) | (rw [add_block]; exact Nat.ne_of_lt (Nat.lt_of_lt_of_le (by have := World.block_lt_of_cell? _ _ hw169_0; first | rwa [add_block] at this | exact this) GW171.out)) | (show (Addr.add _ _).block ≠ _; rw [add_block]; exact Nat.ne_of_lt (Nat.lt_of_lt_of_le (by have := World.block_lt_of_cell? _ _ hw169_0; first | rwa [add_block] at this | exact this) GW171.out)) | (dsimp only; exact Nat.ne_of_lt (Nat.lt_of_lt_of_le (by have := World.block_lt_of_cell? _ _ hw169_0; first | rwa [add_block] at this | exact this) GW171.out))) _).trans (((cell_far (p := ⟨gb171, _, none⟩) (by first | exact Nat.ne_of_lt (Nat.lt_of_lt_of_le (by have := World.block_lt_of_cell? _ _ hw169_0; first | rwa [add_block] at this | exact this) GW171.out) | (rw [add_block]; exact Nat.ne_of_lt (Nat.lt_of_lt_of_le (by have := World.block_lt_of_cell? _ _ hw169_0; first | rwa [add_block] at this | exact this) GW171.out)) | (show (Addr.add _ _).block ≠ _; rw [add_block]; exact Nat.ne_of_lt (Nat.lt_of_lt_of_le (by have := World.block_lt_of_cell? _ _ hw169_0; first | rwa [add_block] at this | exact this) GW171.out)) | (dsimp only; exact Nat.ne_of_lt (Nat.lt_of_lt_of_le (by have := World.block_lt_of_cell? _ _ hw169_0; first | rwa [add_block] at this | exact this) GW171.out))) _).trans (((cell_far (p := ⟨gb171, _, none⟩) (by first | exact Nat.ne_of_lt (Nat.lt_of_lt_of_le (by have := World.block_lt_of_cell? _ _ hw169_0; first | rwa [add_block] at this | exact this) GW171.out) | (rw [add_block]; exact Nat.ne_of_lt (Nat.lt_of_lt_of_le (by have := World.block_lt_of_cell? _ _ hw169_0; first | rwa [add_block] at this | exact this) GW171.out)) | (show (Addr.add _ _).block ≠ _; rw [add_block]; exact Nat.ne_of_lt (Nat.lt_of_lt_of_le (by have := World.block_lt_of_cell? _ _ hw169_0; first | rwa [add_block] at this | exact this) GW171.out)) | (dsimp only; exact Nat.ne_of_lt (Nat.lt_of_lt_of_le (by have := World.block_lt_of_cell? _ _ hw169_0; first | rwa [add_block] at this | exact this) GW171.out))) _).trans (((cell_far (p := ⟨gb171, _, none⟩) (by first | exact Nat.ne_of_lt (Nat.lt_of_lt_of_le (by have := World.block_lt_of_cell? _ _ hw169_0; first | rwa [add_block] at this | exact this) GW171.out) | (rw [add_block]; exact Nat.ne_of_lt (Nat.lt_of_lt_of_le (by have := World.block_lt_of_cell? _ _ hw169_0; first | rwa [add_block] at this | exact this) GW171.out)) | (show (Addr.add _ _).block ≠ _; rw [add_block]; exact Nat.ne_of_lt (Nat.lt_of_lt_of_le (by have := World.block_lt_of_cell? _ _ hw169_0; first | rwa [add_block] at this | exact this) GW171.out)) | (dsimp only; exact Nat.ne_of_lt (Nat.lt_of_lt_of_le (by have := World.block_lt_of_cell? _ _ hw169_0; first | rwa [add_block] at this | exact this) GW171.out))) _).trans (((cell_far (p := ⟨gb171, _, none⟩) (by first | exact Nat.ne_of_lt (Nat.lt_of_lt_of_le (by have := World.block_lt_of_cell? _ _ hw169_0; first | rwa [add_block] at this | exact this) GW171.out) | (rw [add_block]; exact Nat.ne_of_lt (Nat.lt_of_lt_of_le (by have := World.block_lt_of_cell? _ _ hw169_0; first | rwa [add_block] at this | exact this) GW171.out)) | (show (Addr.add _ _).block ≠ _; rw [add_block]; exact Nat.ne_of_lt (Nat.lt_of_lt_of_le (by have := World.block_lt_of_cell? _ _ hw169_0; first | rwa [add_block] at this | exact this) GW171.out)) | (dsimp only; exact Nat.ne_of_lt (Nat.lt_of_lt_of_le (by have := World.block_lt_of_cell? _ _ hw169_0; first | rwa [add_block] at this | exact this) GW171.out))) _).trans (((cell_far (p := ⟨gb171, _, none⟩) (by first | exact Nat.ne_of_lt (Nat.lt_of_lt_of_le (by have := World.block_lt_of_cell? _ _ hw169_0; first | rwa [add_block] at this | exact this) GW171.out) | (rw [add_block]; exact Nat.ne_of_lt (Nat.lt_of_lt_of_le (by have := World.block_lt_of_cell? _ _ hw169_0; first | rwa [add_block] at this | exact this) GW171.out)) | (show (Addr.add _ _).block ≠ _; rw [add_block]; exact Nat.ne_of_lt (Nat.lt_of_lt_of_le (by have := World.block_lt_of_cell? _ _ hw169_0; first | rwa [add_block] at this | exact this) GW171.out)) | (dsimp only; exact Nat.ne_of_lt (Nat.lt_of_lt_of_le (by have := World.block_lt_of_cell? _ _ hw169_0; first | rwa [add_block] at this | exact this) GW171.out))) _).trans (hHeld.2.2.2.1)))))))))))), ((cell_far (p := ⟨gb171, _, none⟩) (by first | exact Nat.ne_of_lt (Nat.lt_of_lt_of_le (by have := World.block_lt_of_cell? _ _ hw170_0; first | rwa [add_block] at this | exact this) GW171.out) | (rw [add_block]; exact Nat.ne_of_lt (Nat.lt_of_lt_of_le (by have := World.block_lt_of_cell? _ _ hw170_0; first | rwa [add_block] at this | exact this) GW171.out)) | (show (Addr.add _ _).block ≠ _; rw [add_block]; exact Nat.ne_of_lt (Nat.lt_of_lt_of_le (by have := World.block_lt_of_cell? _ _ hw170_0; first | rwa [add_block] at this | exact this) GW171.out)) | (dsimp only; exact Nat.ne_of_lt (Nat.lt_of_lt_of_le (by have := World.block_lt_of_cell? _ _ hw170_0; first | rwa [add_block] at this | exact this) GW171.out))) _).trans (((cell_far (p := ⟨gb171, _, none⟩) (by first | exact Nat.ne_of_lt (Nat.lt_of_lt_of_le (by have := World.block_lt_of_cell? _ _ hw170_0; first | rwa [add_block] at this | exact this) GW171.out) | (rw [add_block]; exact Nat.ne_of_lt (Nat.lt_of_lt_of_le (by have := World.block_lt_of_cell? _ _ hw170_0; first | rwa [add_block] at this | exact this) GW171.out)) | (show (Addr.add _ _).block ≠ _; rw [add_block]; exact Nat.ne_of_lt (Nat.lt_of_lt_of_le (by have := World.block_lt_of_cell? _ _ hw170_0; first | rwa [add_block] at this | exact this) GW171.out)) | (dsimp only; exact Nat.ne_of_lt (Nat.lt_of_lt_of_le (by have := World.block_lt_of_cell? _ _ hw170_0; first | rwa [add_block] at this | exact this) GW171.out))) _).trans (((cell_far (p := ⟨gb171, _, none⟩) (by first | exact Nat.ne_of_lt (Nat.lt_of_lt_of_le (by have := World.block_lt_of_cell? _ _ hw170_0; first | rwa [add_block] at this | exact this) GW171.out) | (rw [add_block]; exact Nat.ne_of_lt (Nat.lt_of_lt_of_le (by have := World.block_lt_of_cell? _ _ hw170_0; first | rwa [add_block] at this | exact this) GW171.out)) | (show (Addr.add _ _).block ≠ _; rw [add_block]; exact Nat.ne_of_lt (Nat.lt_of_lt_of_le (by have := World.block_lt_of_cell? _ _ hw170_0; first | rwa [add_block] at this | exact this) GW171.out)) | (dsimp only; exact Nat.ne_of_lt (Nat.lt_of_lt_of_le (by have := World.block_lt_of_cell? _ _ hw170_0; first | rwa [add_block] at this | exact this) GW171.out))) _).trans (((cell_far (p := ⟨gb171, _, none⟩) (by first | exact Nat.ne_of_lt (Nat.lt_of_lt_of_le (by have := World.block_lt_of_cell? _ _ hw170_0; first | rwa [add_block] at this | exact this) GW171.out) | (rw [add_block]; exact Nat.ne_of_lt (Nat.lt_of_lt_of_le (by have := World.block_lt_of_cell? _ _ hw170_0; first | rwa [add_block] at this | exact this) GW171.out)) | (show (Addr.add _ _).block ≠ _; rw [add_block]; exact Nat.ne_of_lt (Nat.lt_of_lt_of_le (by have := World.block_lt_of_cell? _ _ hw170_0; first | rwa [add_block] at this | exact this) GW171.out)) | (dsimp only; exact Nat.ne_of_lt (Nat.lt_of_lt_of_le (by have := World.block_lt_of_cell? _ _ hw170_0; first | rwa [add_block] at this | exact this) GW171.out))) _).trans (((cell_far (p := ⟨gb171, _, none⟩) (by first | exact Nat.ne_of_lt (Nat.lt_of_lt_of_le (by have := World.block_lt_of_cell? _ _ hw170_0; first | rwa [add_block] at this | exact this) GW171.out) | (rw [add_block]; exact Nat.ne_of_lt (Nat.lt_of_lt_of_le (by have := World.block_lt_of_cell? _ _ hw170_0; first | rwa [add_block] at this | exact this) GW171.out)) | (show (Addr.add _ _).block ≠ _; rw [add_block]; exact Nat.ne_of_lt (Nat.lt_of_lt_of_le (by have := World.block_lt_of_cell? _ _ hw170_0; first | rwa [add_block] at this | exact this) GW171.out)) | (dsimp only; exact Nat.ne_of_lt (Nat.lt_of_lt_of_le (by have := World.block_lt_of_cell? _ _ hw170_0; first | rwa [add_block] at this | exact this) GW171.out))) _).trans (((cell_far (p := ⟨gb171, _, none⟩) (by first | exact Nat.ne_of_lt (Nat.lt_of_lt_of_le (by have := World.block_lt_of_cell? _ _ hw170_0; first | rwa [add_block] at this | exact this) GW171.out) | (rw [add_block]; exact Nat.ne_of_lt (Nat.lt_of_lt_of_le (by have := World.block_lt_of_cell? _ _ hw170_0; first | rwa [add_block] at this | exact this) GW171.out)) | (show (Addr.add _ _).block ≠ _; rw [add_block]; exact Nat.ne_of_lt (Nat.lt_of_lt_of_le (by have := World.block_lt_of_cell? _ _ hw170_0; first | rwa [add_block] at this | exact this) GW171.out)) | (dsimp only; exact Nat.ne_of_lt (Nat.lt_of_lt_of_le (by have := World.block_lt_of_cell? _ _ hw170_0; first | rwa [add_block] at this | exact this) GW171.out))) _).trans (hHeld.2.2.2.2))))))))))))⟩ (fun hHeld => ?_)
                                              clear hK K
                                              refine done_ (done_of HT_.out (by kernel_rfl)) ?_
                                              try go_wp2
                                              have n0_ : Aside0 (Kd.R k31 31 ((((((w48.setCell ⟨gb171, 0, none⟩ (.int .i64 (wrap64 (rd l0 x5_1)))).setCell ⟨gb171, 1, none⟩ (.int .i64 (wrap64 (rd l0 (ji5))))).setCell ⟨gb171, 2, none⟩ (.int .i64 (wrap64 (rd l0 (ji8))))).setCell ⟨gb171, 3, none⟩ (.int .i64 (wrap64 (rd l0 (ji11))))).setCell ⟨gb171, 4, none⟩ (.int .i64 (wrap64 (rd l0 (ji14))))).setCell ⟨gb171, 5, none⟩ (.int .u32 0)) w.heap.size (fun k_ => k_ ≠ gb171) u4 x4_1) := ⟨by (with_reducible repeat (first | apply Kd.R_alloc | apply Kd.R_drewN | apply Kd.R_drew)); exact Kd.R_mono (Kd.R_far (p := ⟨gb171, 5, none⟩) (Kd.R_far (p := ⟨gb171, 4, none⟩) (Kd.R_far (p := ⟨gb171, 3, none⟩) (Kd.R_far (p := ⟨gb171, 2, none⟩) (Kd.R_far (p := ⟨gb171, 1, none⟩) (Kd.R_far (p := ⟨gb171, 0, none⟩) (Kd.R_mono HO_4.out (fun k_ hk => (⟨hk, hk.2⟩ : _ ∧ k_ ≠ gb171))) (fun _ hk => hk.2) (.int .i64 (wrap64 (rd l0 x5_1)))) (fun _ hk => hk.2) (.int .i64 (wrap64 (rd l0 (ji5))))) (fun _ hk => hk.2) (.int .i64 (wrap64 (rd l0 (ji8))))) (fun _ hk => hk.2) (.int .i64 (wrap64 (rd l0 (ji11))))) (fun _ hk => hk.2) (.int .i64 (wrap64 (rd l0 (ji14))))) (fun _ hk => hk.2) (.int .u32 0)) (fun _ hk => hk.1.2)⟩
                                              have n1_ : Aside0 (((((((w48.setCell ⟨gb171, 0, none⟩ (.int .i64 (wrap64 (rd l0 x5_1)))).setCell ⟨gb171, 1, none⟩ (.int .i64 (wrap64 (rd l0 (ji5))))).setCell ⟨gb171, 2, none⟩ (.int .i64 (wrap64 (rd l0 (ji8))))).setCell ⟨gb171, 3, none⟩ (.int .i64 (wrap64 (rd l0 (ji11))))).setCell ⟨gb171, 4, none⟩ (.int .i64 (wrap64 (rd l0 (ji14))))).setCell ⟨gb171, 5, none⟩ (.int .u32 0)).heap[gb171]? = some (.cells #[.int .i64 (wrap64 (rd l0 x5_1)), .int .i64 (wrap64 (rd l0 (ji5))), .int .i64 (wrap64 (rd l0 (ji8))), .int .i64 (wrap64 (rd l0 (ji11))), .int .i64 (wrap64 (rd l0 (ji14))), .int .u32 0] 31 (0, 0))) := ⟨by (with_reducible repeat (first | refine blk_drewN ?_ _ | refine blk_drew ?_ | refine blk_alloc ?_ _)); refine blk_put (cs := #[.int .i64 (wrap64 (rd l0 x5_1)), .int .i64 (wrap64 (rd l0 (ji5))), .int .i64 (wrap64 (rd l0 (ji8))), .int .i64 (wrap64 (rd l0 (ji11))), .int .i64 (wrap64 (rd l0 (ji14))), .int .u32 0]) ?_ 5 _ rfl; (with_reducible repeat (first | refine blk_drewN ?_ _ | refine blk_drew ?_ | refine blk_alloc ?_ _)); refine blk_put (cs := #[.int .i64 (wrap64 (rd l0 x5_1)), .int .i64 (wrap64 (rd l0 (ji5))), .int .i64 (wrap64 (rd l0 (ji8))), .int .i64 (wrap64 (rd l0 (ji11))), .int .i64 0, .int .u32 0]) ?_ 4 _ rfl; (with_reducible repeat (first | refine blk_drewN ?_ _ | refine blk_drew ?_ | refine blk_alloc ?_ _)); refine blk_put (cs := #[.int .i64 (wrap64 (rd l0 x5_1)), .int .i64 (wrap64 (rd l0 (ji5))), .int .i64 (wrap64 (rd l0 (ji8))), .int .i64 0, .int .i64 0, .int .u32 0]) ?_ 3 _ rfl; (with_reducible repeat (first | refine blk_drewN ?_ _ | refine blk_drew ?_ | refine blk_alloc ?_ _)); refine blk_put (cs := #[.int .i64 (wrap64 (rd l0 x5_1)), .int .i64 (wrap64 (rd l0 (ji5))), .int .i64 0, .int .i64 0, .int .i64 0, .int .u32 0]) ?_ 2 _ rfl; (with_reducible repeat (first | refine blk_drewN ?_ _ | refine blk_drew ?_ | refine blk_alloc ?_ _)); refine blk_put (cs := #[.int .i64 (wrap64 (rd l0 x5_1)), .int .i64 0, .int .i64 0, .int .i64 0, .int .i64 0, .int .u32 0]) ?_ 1 _ rfl; (with_reducible repeat (first | refine blk_drewN ?_ _ | refine blk_drew ?_ | refine blk_alloc ?_ _)); refine blk_put (cs := #[.int .i64 0, .int .i64 0, .int .i64 0, .int .i64 0, .int .i64 0, .int .u32 0]) ?_ 0 _ rfl; (with_reducible repeat (first | refine blk_drewN ?_ _ | refine blk_drew ?_ | refine blk_alloc ?_ _)); exact BK171.out⟩
                                              have n2_ : Aside0 (Below w.heap.size w ((((((w48.setCell ⟨gb171, 0, none⟩ (.int .i64 (wrap64 (rd l0 x5_1)))).setCell ⟨gb171, 1, none⟩ (.int .i64 (wrap64 (rd l0 (ji5))))).setCell ⟨gb171, 2, none⟩ (.int .i64 (wrap64 (rd l0 (ji8))))).setCell ⟨gb171, 3, none⟩ (.int .i64 (wrap64 (rd l0 (ji11))))).setCell ⟨gb171, 4, none⟩ (.int .i64 (wrap64 (rd l0 (ji14))))).setCell ⟨gb171, 5, none⟩ (.int .u32 0))) := ⟨by repeat (first | (with_reducible first | exact HB.out | apply below_alloc | apply pw_below_drewN | apply below_drew1 | refine below_set ?_ GE171.out) | exact HB.out)⟩
                                              (try clear HO_4)
                                              (try clear BK171)
                                              (try clear HB)
                                              generalize ((((((w48.setCell ⟨gb171, 0, none⟩ (.int .i64 (wrap64 (rd l0 x5_1)))).setCell ⟨gb171, 1, none⟩ (.int .i64 (wrap64 (rd l0 (ji5))))).setCell ⟨gb171, 2, none⟩ (.int .i64 (wrap64 (rd l0 (ji8))))).setCell ⟨gb171, 3, none⟩ (.int .i64 (wrap64 (rd l0 (ji11))))).setCell ⟨gb171, 4, none⟩ (.int .i64 (wrap64 (rd l0 (ji14))))).setCell ⟨gb171, 5, none⟩ (.int .u32 0)) = w55 at n0_ n1_ n2_ ⊢
                                              have HO_4 := n0_
                                              have BK171 := n1_
                                              have HB := n2_
                                              clear n0_ n1_ n2_
                                              have n0_ := Aside0.mk (Kd.R_drew HO_4.out)
                                              have n1_ := Aside0.mk (blk_drew BK171.out)
                                              have n2_ := Aside0.mk (below_drew1 HB.out)
                                              clear HO_4
                                              clear BK171
                                              clear HB
                                              have HO_4 := n0_
                                              have BK171 := n1_
                                              have HB := n2_
                                              clear n0_ n1_ n2_
                                              have p172 : 0 ≤ ((ji17) : Int) := of_decide_eq_true (by first | (with_reducible assumption) | assumption)
                                              have q172 : (ji17) < (l0.length : Int) := of_decide_eq_true (by first | (with_reducible assumption) | assumption)
                                              obtain ⟨ad172, e172, hx172_0⟩ := Kd.at_int HR0.out (ji17) p172 q172
                                              have hw172_0 := hx172_0
                                              obtain rfl : ad166 = ad172 := (by injection e172)
                                              replace hx172_0 := (HB.out.cell (World.block_lt_of_cell? w _ hx172_0)).trans hx172_0
                                              replace p172 := eq_true p172
                                              replace q172 := eq_true q172
                                              have p173 : 0 ≤ ((ji20) : Int) := of_decide_eq_true (by first | (with_reducible assumption) | assumption)
                                              have q173 : (ji20) < (l0.length : Int) := of_decide_eq_true (by first | (with_reducible assumption) | assumption)
                                              obtain ⟨ad173, e173, hx173_0⟩ := Kd.at_int HR0.out (ji20) p173 q173
                                              have hw173_0 := hx173_0
                                              obtain rfl : ad166 = ad173 := (by injection e173)
                                              replace hx173_0 := (HB.out.cell (World.block_lt_of_cell? w _ hx173_0)).trans hx173_0
                                              replace p173 := eq_true p173
                                              replace q173 := eq_true q173
                                              have p174 : 0 ≤ ((ji23) : Int) := of_decide_eq_true (by first | (with_reducible assumption) | assumption)
                                              have q174 : (ji23) < (l0.length : Int) := of_decide_eq_true (by first | (with_reducible assumption) | assumption)
                                              obtain ⟨ad174, e174, hx174_0⟩ := Kd.at_int HR0.out (ji23) p174 q174
                                              have hw174_0 := hx174_0
                                              obtain rfl : ad166 = ad174 := (by injection e174)
                                              replace hx174_0 := (HB.out.cell (World.block_lt_of_cell? w _ hx174_0)).trans hx174_0
                                              replace p174 := eq_true p174
                                              replace q174 := eq_true q174
                                              have p175 : 0 ≤ ((ji26) : Int) := of_decide_eq_true (by first | (with_reducible assumption) | assumption)
                                              have q175 : (ji26) < (l0.length : Int) := of_decide_eq_true (by first | (with_reducible assumption) | assumption)
                                              obtain ⟨ad175, e175, hx175_0⟩ := Kd.at_int HR0.out (ji26) p175 q175
                                              have hw175_0 := hx175_0
                                              obtain rfl : ad166 = ad175 := (by injection e175)
                                              replace hx175_0 := (HB.out.cell (World.block_lt_of_cell? w _ hx175_0)).trans hx175_0
                                              replace p175 := eq_true p175
                                              replace q175 := eq_true q175
                                              refine start_ (n := 32) (S := fun w' => w'.cell? (ad166.add ((ji17)).toNat) = some (.int .u8 (rd l0 (ji17))) ∧ w'.cell? (ad166.add ((ji20)).toNat) = some (.int .u8 (rd l0 (ji20))) ∧ w'.cell? (ad166.add ((ji23)).toNat) = some (.int .u8 (rd l0 (ji23))) ∧ w'.cell? (ad166.add ((ji26)).toNat) = some (.int .u8 (rd l0 (ji26)))) (ds := []) #[false, false, false, false, false, false, false, false, false, false, false, false, false, false, false, false, false, false, false, false, false, false, false, false, false, false, false, false, false, false, false, false] (by kernel_rfl) rfl rfl ⟨((HB.out.cell (World.block_lt_of_cell? w _ hw172_0)).trans hw172_0), ((HB.out.cell (World.block_lt_of_cell? w _ hw173_0)).trans hw173_0), ((HB.out.cell (World.block_lt_of_cell? w _ hw174_0)).trans hw174_0), ((HB.out.cell (World.block_lt_of_cell? w _ hw175_0)).trans hw175_0)⟩ (fun hHeld => ?_); refine with_tabW carlingref13_Of.tab8 carlingref13_Of.bits8 (fun HT_ HW_ => ?_)
                                              generalize w55.drew = w56 at HO_4 BK171 HB hx172_0 hx173_0 hx174_0 hx175_0 hHeld ⊢
                                              refine pure_ (i := 0) (N := some 47) (v := ?_) (a' := ?_) #[true, false, false, false, false, false, false, false, false, false, false, false, false, false, false, false, false, false, false, false, false, false, false, false, false, false, false, false, false, false, false, false] rfl rfl (any_of HT_.out (by kernel_rfl)) (fun _ _ _ h => h) (Or.inl ⟨by rfl, ?_⟩) ?_ ?_
                                              rotate_left
                                              · intro w'
                                                go_simp
                                                with_reducible rfl
                                              rotate_left
                                              · simp only [Act.put, List.setIfInBounds_toArray, List.set_cons_zero, List.set_cons_succ, i64_w, i32_w]
                                                rfl
                                              refine pure_ (i := 1) (N := some 48) (v := ?_) (a' := ?_) #[true, true, false, false, false, false, false, false, false, false, false, false, false, false, false, false, false, false, false, false, false, false, false, false, false, false, false, false, false, false, false, false] rfl rfl (any_of HT_.out (by kernel_rfl)) (fun _ _ _ h => h) (Or.inl ⟨by rfl, ?_⟩) ?_ ?_
                                              rotate_left
                                              · intro w'
                                                go_simp
                                                with_reducible rfl
                                              rotate_left
                                              · simp only [Act.put, List.setIfInBounds_toArray, List.set_cons_zero, List.set_cons_succ, i64_w, i32_w]
                                                rfl
                                              refine pure_ (i := 2) (N := some 49) (v := ?_) (a' := ?_) #[true, true, true, false, false, false, false, false, false, false, false, false, false, false, false, false, false, false, false, false, false, false, false, false, false, false, false, false, false, false, false, false] rfl rfl (any_of HT_.out (by kernel_rfl)) (fun _ _ _ h => h) (Or.inl ⟨by rfl, ?_⟩) ?_ ?_
                                              rotate_left
                                              · intro w'
                                                go_simp
                                                with_reducible rfl
                                              rotate_left
                                              · simp only [Act.put, List.setIfInBounds_toArray, List.set_cons_zero, List.set_cons_succ, i64_w, i32_w]
                                                rfl
                                              refine pure_ (i := 3) (N := some 50) (v := ?_) (a' := ?_) #[true, true, true, true, false, false, false, false, false, false, false, false, false, false, false, false, false, false, false, false, false, false, false, false, false, false, false, false, false, false, false, false] rfl rfl (any_of HT_.out (by kernel_rfl)) (fun _ _ _ h => h) (Or.inl ⟨by rfl, ?_⟩) ?_ ?_
                                              rotate_left
                                              · intro w'
                                                go_simp
                                                with_reducible rfl
                                              rotate_left
                                              · simp only [Act.put, List.setIfInBounds_toArray, List.set_cons_zero, List.set_cons_succ, i64_w, i32_w]
                                                rfl
                                              refine pure_ (i := 7) (N := some 54) (v := ?_) (a' := ?_) #[true, true, true, true, false, false, false, true, false, false, false, false, false, false, false, false, false, false, false, false, false, false, false, false, false, false, false, false, false, false, false, false] rfl rfl (any_of HT_.out (by kernel_rfl)) (fun _ _ _ h => h) (Or.inl ⟨by rfl, ?_⟩) ?_ ?_
                                              rotate_left
                                              · intro w'
                                                go_simp
                                                with_reducible rfl
                                              rotate_left
                                              · simp only [Act.put, List.setIfInBounds_toArray, List.set_cons_zero, List.set_cons_succ, i64_w, i32_w]
                                                rfl
                                              refine pure_ (i := 8) (N := some 55) (v := ?_) (a' := ?_) #[true, true, true, true, false, false, false, true, true, false, false, false, false, false, false, false, false, false, false, false, false, false, false, false, false, false, false, false, false, false, false, false] rfl rfl (any_of HT_.out (by kernel_rfl)) (fun _ _ _ h => h) (Or.inl ⟨by rfl, ?_⟩) ?_ ?_
                                              rotate_left
                                              · intro w'
                                                go_simp
                                                with_reducible rfl
                                              rotate_left
                                              · simp only [Act.put, List.setIfInBounds_toArray, List.set_cons_zero, List.set_cons_succ, i64_w, i32_w]
                                                rfl
                                              refine pure_ (i := 9) (N := some 56) (v := ?_) (a' := ?_) #[true, true, true, true, false, false, false, true, true, true, false, false, false, false, false, false, false, false, false, false, false, false, false, false, false, false, false, false, false, false, false, false] rfl rfl (any_of HT_.out (by kernel_rfl)) (fun _ _ _ h => h) (Or.inl ⟨by rfl, ?_⟩) ?_ ?_
                                              rotate_left
                                              · intro w'
                                                go_simp
                                                with_reducible rfl
                                              rotate_left
                                              · simp only [Act.put, List.setIfInBounds_toArray, List.set_cons_zero, List.set_cons_succ, i64_w, i32_w]
                                                rfl
                                              refine pure_ (i := 10) (N := some 57) (v := ?_) (a' := ?_) #[true, true, true, true, false, false, false, true, true, true, true, false, false, false, false, false, false, false, false, false, false, false, false, false, false, false, false, false, false, false, false, false] rfl rfl (any_of HT_.out (by kernel_rfl)) (fun _ _ _ h => h) (Or.inl ⟨by rfl, ?_⟩) ?_ ?_
                                              rotate_left
                                              · intro w'
                                                go_simp
                                                with_reducible rfl
                                              rotate_left
                                              · simp only [Act.put, List.setIfInBounds_toArray, List.set_cons_zero, List.set_cons_succ, i64_w, i32_w]
                                                rfl
                                              refine pure_ (i := 15) (N := some 62) (v := ?_) (a' := ?_) #[true, true, true, true, false, false, false, true, true, true, true, false, false, false, false, true, false, false, false, false, false, false, false, false, false, false, false, false, false, false, false, false] rfl rfl (any_of HT_.out (by kernel_rfl)) (fun _ _ _ h => h) (Or.inl ⟨by rfl, ?_⟩) ?_ ?_
                                              rotate_left
                                              · intro w'
                                                go_simp
                                                with_reducible rfl
                                              rotate_left
                                              · simp only [Act.put, List.setIfInBounds_toArray, List.set_cons_zero, List.set_cons_succ, i64_w, i32_w]
                                                rfl
                                              refine pure_ (i := 16) (N := some 63) (v := ?_) (a' := ?_) #[true, true, true, true, false, false, false, true, true, true, true, false, false, false, false, true, true, false, false, false, false, false, false, false, false, false, false, false, false, false, false, false] rfl rfl (any_of HT_.out (by kernel_rfl)) (fun _ _ _ h => h) (Or.inl ⟨by rfl, ?_⟩) ?_ ?_
                                              rotate_left
                                              · intro w'
                                                go_simp
                                                with_reducible rfl
                                              rotate_left
                                              · simp only [Act.put, List.setIfInBounds_toArray, List.set_cons_zero, List.set_cons_succ, i64_w, i32_w]
                                                rfl
                                              refine pure_ (i := 17) (N := some 64) (v := ?_) (a' := ?_) #[true, true, true, true, false, false, false, true, true, true, true, false, false, false, false, true, true, true, false, false, false, false, false, false, false, false, false, false, false, false, false, false] rfl rfl (any_of HT_.out (by kernel_rfl)) (fun _ _ _ h => h) (Or.inl ⟨by rfl, ?_⟩) ?_ ?_
                                              rotate_left
                                              · intro w'
                                                go_simp
                                                with_reducible rfl
                                              rotate_left
                                              · simp only [Act.put, List.setIfInBounds_toArray, List.set_cons_zero, List.set_cons_succ, i64_w, i32_w]
                                                rfl
                                              refine pure_ (i := 18) (N := some 65) (v := ?_) (a' := ?_) #[true, true, true, true, false, false, false, true, true, true, true, false, false, false, false, true, true, true, true, false, false, false, false, false, false, false, false, false, false, false, false, false] rfl rfl (any_of HT_.out (by kernel_rfl)) (fun _ _ _ h => h) (Or.inl ⟨by rfl, ?_⟩) ?_ ?_
                                              rotate_left
                                              · intro w'
                                                go_simp
                                                with_reducible rfl
                                              rotate_left
                                              · simp only [Act.put, List.setIfInBounds_toArray, List.set_cons_zero, List.set_cons_succ, i64_w, i32_w]
                                                rfl
                                              refine pure_ (i := 23) (N := some 70) (v := ?_) (a' := ?_) #[true, true, true, true, false, false, false, true, true, true, true, false, false, false, false, true, true, true, true, false, false, false, false, true, false, false, false, false, false, false, false, false] rfl rfl (any_of HT_.out (by kernel_rfl)) (fun _ _ _ h => h) (Or.inl ⟨by rfl, ?_⟩) ?_ ?_
                                              rotate_left
                                              · intro w'
                                                go_simp
                                                with_reducible rfl
                                              rotate_left
                                              · simp only [Act.put, List.setIfInBounds_toArray, List.set_cons_zero, List.set_cons_succ, i64_w, i32_w]
                                                rfl
                                              refine pure_ (i := 24) (N := some 71) (v := ?_) (a' := ?_) #[true, true, true, true, false, false, false, true, true, true, true, false, false, false, false, true, true, true, true, false, false, false, false, true, true, false, false, false, false, false, false, false] rfl rfl (any_of HT_.out (by kernel_rfl)) (fun _ _ _ h => h) (Or.inl ⟨by rfl, ?_⟩) ?_ ?_
                                              rotate_left
                                              · intro w'
                                                go_simp
                                                with_reducible rfl
                                              rotate_left
                                              · simp only [Act.put, List.setIfInBounds_toArray, List.set_cons_zero, List.set_cons_succ, i64_w, i32_w]
                                                rfl
                                              refine pure_ (i := 25) (N := some 72) (v := ?_) (a' := ?_) #[true, true, true, true, false, false, false, true, true, true, true, false, false, false, false, true, true, true, true, false, false, false, false, true, true, true, false, false, false, false, false, false] rfl rfl (any_of HT_.out (by kernel_rfl)) (fun _ _ _ h => h) (Or.inl ⟨by rfl, ?_⟩) ?_ ?_
                                              rotate_left
                                              · intro w'
                                                go_simp
                                                with_reducible rfl
                                              rotate_left
                                              · simp only [Act.put, List.setIfInBounds_toArray, List.set_cons_zero, List.set_cons_succ, i64_w, i32_w]
                                                rfl
                                              refine pure_ (i := 26) (N := some 73) (v := ?_) (a' := ?_) #[true, true, true, true, false, false, false, true, true, true, true, false, false, false, false, true, true, true, true, false, false, false, false, true, true, true, true, false, false, false, false, false] rfl rfl (any_of HT_.out (by kernel_rfl)) (fun _ _ _ h => h) (Or.inl ⟨by rfl, ?_⟩) ?_ ?_
                                              rotate_left
                                              · intro w'
                                                go_simp
                                                with_reducible rfl
                                              rotate_left
                                              · simp only [Act.put, List.setIfInBounds_toArray, List.set_cons_zero, List.set_cons_succ, i64_w, i32_w]
                                                rfl
                                              refine take_ (i := 4) (N := some 51) (v := ?_) (a' := ?_) #[true, true, true, true, true, false, false, true, true, true, true, false, false, false, false, true, true, true, true, false, false, false, false, true, true, true, true, false, false, false, false, false] rfl rfl (take_ofW HT_.out HW_.out (by kernel_rfl)) (fun _ _ _ h => h) (Or.inl ⟨by rfl, ?_⟩) hHeld ?_ ?_
                                              rotate_left
                                              · rintro w' ⟨s0, s1, s2, s3⟩
                                                go_simp
                                                with_reducible rfl
                                              rotate_left
                                              · simp only [Act.put, List.setIfInBounds_toArray, List.set_cons_zero, List.set_cons_succ, i64_w, i32_w]
                                                rfl
                                              refine pure_ (i := 5) (N := some 52) (v := ?_) (a' := ?_) #[true, true, true, true, true, true, false, true, true, true, true, false, false, false, false, true, true, true, true, false, false, false, false, true, true, true, true, false, false, false, false, false] rfl rfl (any_of HT_.out (by kernel_rfl)) (fun _ _ _ h => h) (Or.inl ⟨by rfl, ?_⟩) ?_ ?_
                                              rotate_left
                                              · intro w'
                                                go_simp
                                                with_reducible rfl
                                              rotate_left
                                              · simp only [Act.put, List.setIfInBounds_toArray, List.set_cons_zero, List.set_cons_succ, i64_w, i32_w]
                                                rfl
                                              refine pure_ (i := 6) (N := some 53) (v := ?_) (a' := ?_) #[true, true, true, true, true, true, true, true, true, true, true, false, false, false, false, true, true, true, true, false, false, false, false, true, true, true, true, false, false, false, false, false] rfl rfl (any_of HT_.out (by kernel_rfl)) (fun _ _ _ h => h) (Or.inl ⟨by rfl, ?_⟩) ?_ ?_
                                              rotate_left
                                              · intro w'
                                                go_simp
                                                with_reducible rfl
                                              rotate_left
                                              · simp only [Act.put, List.setIfInBounds_toArray, List.set_cons_zero, List.set_cons_succ, i64_w, i32_w]
                                                rfl
                                              refine take_ (i := 11) (N := some 58) (v := ?_) (a' := ?_) #[true, true, true, true, true, true, true, true, true, true, true, true, false, false, false, true, true, true, true, false, false, false, false, true, true, true, true, false, false, false, false, false] rfl rfl (take_ofW HT_.out HW_.out (by kernel_rfl)) (fun _ _ _ h => h) (Or.inl ⟨by rfl, ?_⟩) hHeld ?_ ?_
                                              rotate_left
                                              · rintro w' ⟨s0, s1, s2, s3⟩
                                                go_simp
                                                with_reducible rfl
                                              rotate_left
                                              · simp only [Act.put, List.setIfInBounds_toArray, List.set_cons_zero, List.set_cons_succ, i64_w, i32_w]
                                                rfl
                                              refine pure_ (i := 12) (N := some 59) (v := ?_) (a' := ?_) #[true, true, true, true, true, true, true, true, true, true, true, true, true, false, false, true, true, true, true, false, false, false, false, true, true, true, true, false, false, false, false, false] rfl rfl (any_of HT_.out (by kernel_rfl)) (fun _ _ _ h => h) (Or.inl ⟨by rfl, ?_⟩) ?_ ?_
                                              rotate_left
                                              · intro w'
                                                go_simp
                                                with_reducible rfl
                                              rotate_left
                                              · simp only [Act.put, List.setIfInBounds_toArray, List.set_cons_zero, List.set_cons_succ, i64_w, i32_w]
                                                rfl
                                              refine pure_ (i := 13) (N := some 60) (v := ?_) (a' := ?_) #[true, true, true, true, true, true, true, true, true, true, true, true, true, true, false, true, true, true, true, false, false, false, false, true, true, true, true, false, false, false, false, false] rfl rfl (any_of HT_.out (by kernel_rfl)) (fun _ _ _ h => h) (Or.inl ⟨by rfl, ?_⟩) ?_ ?_
                                              rotate_left
                                              · intro w'
                                                go_simp
                                                with_reducible rfl
                                              rotate_left
                                              · simp only [Act.put, List.setIfInBounds_toArray, List.set_cons_zero, List.set_cons_succ, i64_w, i32_w]
                                                rfl
                                              refine pure_ (i := 14) (N := some 61) (v := ?_) (a' := ?_) #[true, true, true, true, true, true, true, true, true, true, true, true, true, true, true, true, true, true, true, false, false, false, false, true, true, true, true, false, false, false, false, false] rfl rfl (any_of HT_.out (by kernel_rfl)) (fun _ _ _ h => h) (Or.inl ⟨by rfl, ?_⟩) ?_ ?_
                                              rotate_left
                                              · intro w'
                                                go_simp
                                                with_reducible rfl
                                              rotate_left
                                              · simp only [Act.put, List.setIfInBounds_toArray, List.set_cons_zero, List.set_cons_succ, i64_w, i32_w]
                                                rfl
                                              refine take_ (i := 19) (N := some 66) (v := ?_) (a' := ?_) #[true, true, true, true, true, true, true, true, true, true, true, true, true, true, true, true, true, true, true, true, false, false, false, true, true, true, true, false, false, false, false, false] rfl rfl (take_ofW HT_.out HW_.out (by kernel_rfl)) (fun _ _ _ h => h) (Or.inl ⟨by rfl, ?_⟩) hHeld ?_ ?_
                                              rotate_left
                                              · rintro w' ⟨s0, s1, s2, s3⟩
                                                go_simp
                                                with_reducible rfl
                                              rotate_left
                                              · simp only [Act.put, List.setIfInBounds_toArray, List.set_cons_zero, List.set_cons_succ, i64_w, i32_w]
                                                rfl
                                              refine pure_ (i := 20) (N := some 67) (v := ?_) (a' := ?_) #[true, true, true, true, true, true, true, true, true, true, true, true, true, true, true, true, true, true, true, true, true, false, false, true, true, true, true, false, false, false, false, false] rfl rfl (any_of HT_.out (by kernel_rfl)) (fun _ _ _ h => h) (Or.inl ⟨by rfl, ?_⟩) ?_ ?_
                                              rotate_left
                                              · intro w'
                                                go_simp
                                                with_reducible rfl
                                              rotate_left
                                              · simp only [Act.put, List.setIfInBounds_toArray, List.set_cons_zero, List.set_cons_succ, i64_w, i32_w]
                                                rfl
                                              refine pure_ (i := 21) (N := some 68) (v := ?_) (a' := ?_) #[true, true, true, true, true, true, true, true, true, true, true, true, true, true, true, true, true, true, true, true, true, true, false, true, true, true, true, false, false, false, false, false] rfl rfl (any_of HT_.out (by kernel_rfl)) (fun _ _ _ h => h) (Or.inl ⟨by rfl, ?_⟩) ?_ ?_
                                              rotate_left
                                              · intro w'
                                                go_simp
                                                with_reducible rfl
                                              rotate_left
                                              · simp only [Act.put, List.setIfInBounds_toArray, List.set_cons_zero, List.set_cons_succ, i64_w, i32_w]
                                                rfl
                                              refine pure_ (i := 22) (N := some 69) (v := ?_) (a' := ?_) #[true, true, true, true, true, true, true, true, true, true, true, true, true, true, true, true, true, true, true, true, true, true, true, true, true, true, true, false, false, false, false, false] rfl rfl (any_of HT_.out (by kernel_rfl)) (fun _ _ _ h => h) (Or.inl ⟨by rfl, ?_⟩) ?_ ?_
                                              rotate_left
                                              · intro w'
                                                go_simp
                                                with_reducible rfl
                                              rotate_left
                                              · simp only [Act.put, List.setIfInBounds_toArray, List.set_cons_zero, List.set_cons_succ, i64_w, i32_w]
                                                rfl
                                              refine take_ (i := 27) (N := some 74) (v := ?_) (a' := ?_) #[true, true, true, true, true, true, true, true, true, true, true, true, true, true, true, true, true, true, true, true, true, true, true, true, true, true, true, true, false, false, false, false] rfl rfl (take_ofW HT_.out HW_.out (by kernel_rfl)) (fun _ _ _ h => h) (Or.inl ⟨by rfl, ?_⟩) hHeld ?_ ?_
                                              rotate_left
                                              · rintro w' ⟨s0, s1, s2, s3⟩
                                                go_simp
                                                with_reducible rfl
                                              rotate_left
                                              · simp only [Act.put, List.setIfInBounds_toArray, List.set_cons_zero, List.set_cons_succ, i64_w, i32_w]
                                                rfl
                                              refine pure_ (i := 28) (N := some 75) (v := ?_) (a' := ?_) #[true, true, true, true, true, true, true, true, true, true, true, true, true, true, true, true, true, true, true, true, true, true, true, true, true, true, true, true, true, false, false, false] rfl rfl (any_of HT_.out (by kernel_rfl)) (fun _ _ _ h => h) (Or.inl ⟨by rfl, ?_⟩) ?_ ?_
                                              rotate_left
                                              · intro w'
                                                go_simp
                                                with_reducible rfl
                                              rotate_left
                                              · simp only [Act.put, List.setIfInBounds_toArray, List.set_cons_zero, List.set_cons_succ, i64_w, i32_w]
                                                rfl
                                              refine pure_ (i := 29) (N := some 76) (v := ?_) (a' := ?_) #[true, true, true, true, true, true, true, true, true, true, true, true, true, true, true, true, true, true, true, true, true, true, true, true, true, true, true, true, true, true, false, false] rfl rfl (any_of HT_.out (by kernel_rfl)) (fun _ _ _ h => h) (Or.inl ⟨by rfl, ?_⟩) ?_ ?_
                                              rotate_left
                                              · intro w'
                                                go_simp
                                                with_reducible rfl
                                              rotate_left
                                              · simp only [Act.put, List.setIfInBounds_toArray, List.set_cons_zero, List.set_cons_succ, i64_w, i32_w]
                                                rfl
                                              refine pure_ (i := 30) (N := some 77) (v := ?_) (a' := ?_) #[true, true, true, true, true, true, true, true, true, true, true, true, true, true, true, true, true, true, true, true, true, true, true, true, true, true, true, true, true, true, true, false] rfl rfl (any_of HT_.out (by kernel_rfl)) (fun _ _ _ h => h) (Or.inl ⟨by rfl, ?_⟩) ?_ ?_
                                              rotate_left
                                              · intro w'
                                                go_simp
                                                with_reducible rfl
                                              rotate_left
                                              · simp only [Act.put, List.setIfInBounds_toArray, List.set_cons_zero, List.set_cons_succ, i64_w, i32_w]
                                                rfl
                                              refine one_ (i := 31) (N := none) #[true, true, true, true, true, true, true, true, true, true, true, true, true, true, true, true, true, true, true, true, true, true, true, true, true, true, true, true, true, true, true, true] rfl rfl (one_of HT_.out (by kernel_rfl)) (by decide) (fun K hK => ?_)
                                              have hs57 : w56.cell? ⟨gb171, 5, none⟩ = some (.int .u32 0) := (blk_cell BK171.out 5).trans rfl
                                              have hfs57 := blk_frozen BK171.out 5
                                              refine skip_ (w1 := ?_) (by rfl) rfl ?_ ?_
                                              rotate_left
                                              · go_simp
                                                rfl
                                              refine hK.out _ _ ⟨((cell_far (p := ⟨gb171, _, none⟩) (by first | exact Nat.ne_of_lt (Nat.lt_of_lt_of_le (by have := World.block_lt_of_cell? _ _ hw172_0; first | rwa [add_block] at this | exact this) GW171.out) | (rw [add_block]; exact Nat.ne_of_lt (Nat.lt_of_lt_of_le (by have := World.block_lt_of_cell? _ _ hw172_0; first | rwa [add_block] at this | exact this) GW171.out)) | (show (Addr.add _ _).block ≠ _; rw [add_block]; exact Nat.ne_of_lt (Nat.lt_of_lt_of_le (by have := World.block_lt_of_cell? _ _ hw172_0; first | rwa [add_block] at this | exact this) GW171.out)) | (dsimp only; exact Nat.ne_of_lt (Nat.lt_of_lt_of_le (by have := World.block_lt_of_cell? _ _ hw172_0; first | rwa [add_block] at this | exact this) GW171.out))) _).trans (hHeld.1)), ((cell_far (p := ⟨gb171, _, none⟩) (by first | exact Nat.ne_of_lt (Nat.lt_of_lt_of_le (by have := World.block_lt_of_cell? _ _ hw173_0; first | rwa [add_block] at this | exact this) GW171.out) | (rw [add_block]; exact Nat.ne_of_lt (Nat.lt_of_lt_of_le (by have := World.block_lt_of_cell? _ _ hw173_0; first | rwa [add_block] at this | exact this) GW171.out)) | (show (Addr.add _ _).block ≠ _; rw [add_block]; exact Nat.ne_of_lt (Nat.lt_of_lt_of_le (by have := World.block_lt_of_cell? _ _ hw173_0; first | rwa [add_block] at this | exact this) GW171.out)) | (dsimp only; exact Nat.ne_of_lt (Nat.lt_of_lt_of_le (by have := World.block_lt_of_cell? _ _ hw173_0; first | rwa [add_block] at this | exact this) GW171.out))) _).trans (hHeld.2.1)), ((cell_far (p := ⟨gb171, _, none⟩) (by first | exact Nat.ne_of_lt (Nat.lt_of_lt_of_le (by have := World.block_lt_of_cell? _ _ hw174_0; first | rwa [add_block] at this | exact this) GW171.out) | (rw [add_block]; exact Nat.ne_of_lt (Nat.lt_of_lt_of_le (by have := World.block_lt_of_cell? _ _ hw174_0; first | rwa [add_block] at this | exact this) GW171.out)) | (show (Addr.add _ _).block ≠ _; rw [add_block]; exact Nat.ne_of_lt (Nat.lt_of_lt_of_le (by have := World.block_lt_of_cell? _ _ hw174_0; first | rwa [add_block] at this | exact this) GW171.out)) | (dsimp only; exact Nat.ne_of_lt (Nat.lt_of_lt_of_le (by have := World.block_lt_of_cell? _ _ hw174_0; first | rwa [add_block] at this | exact this) GW171.out))) _).trans (hHeld.2.2.1)), ((cell_far (p := ⟨gb171, _, none⟩) (by first | exact Nat.ne_of_lt (Nat.lt_of_lt_of_le (by have := World.block_lt_of_cell? _ _ hw175_0; first | rwa [add_block] at this | exact this) GW171.out) | (rw [add_block]; exact Nat.ne_of_lt (Nat.lt_of_lt_of_le (by have := World.block_lt_of_cell? _ _ hw175_0; first | rwa [add_block] at this | exact this) GW171.out)) | (show (Addr.add _ _).block ≠ _; rw [add_block]; exact Nat.ne_of_lt (Nat.lt_of_lt_of_le (by have := World.block_lt_of_cell? _ _ hw175_0; first | rwa [add_block] at this | exact this) GW171.out)) | (dsimp only; exact Nat.ne_of_lt (Nat.lt_of_lt_of_le (by have := World.block_lt_of_cell? _ _ hw175_0; first | rwa [add_block] at this | exact this) GW171.out))) _).trans (hHeld.2.2.2))⟩ (fun hHeld => ?_)
                                              clear hK K
                                              refine done_ (done_of HT_.out (by kernel_rfl)) ?_
                                              have hcz58_0 : w56.cell? ⟨gb171, 0, none⟩ = some (.int .i64 (wrap64 (rd l0 x5_1))) := (blk_cell BK171.out 0).trans rfl
                                              have hcz58_1 : w56.cell? ⟨gb171, 1, none⟩ = some (.int .i64 (wrap64 (rd l0 (ji5)))) := (blk_cell BK171.out 1).trans rfl
                                              have hcz58_2 : w56.cell? ⟨gb171, 2, none⟩ = some (.int .i64 (wrap64 (rd l0 (ji8)))) := (blk_cell BK171.out 2).trans rfl
                                              have hcz58_3 : w56.cell? ⟨gb171, 3, none⟩ = some (.int .i64 (wrap64 (rd l0 (ji11)))) := (blk_cell BK171.out 3).trans rfl
                                              have hcz58_4 : w56.cell? ⟨gb171, 4, none⟩ = some (.int .i64 (wrap64 (rd l0 (ji14)))) := (blk_cell BK171.out 4).trans rfl
                                              have hcz58_5 : w56.cell? ⟨gb171, 5, none⟩ = some (.int .u32 0) := (blk_cell BK171.out 5).trans rfl
                                              have hfz58_0 := blk_frozen BK171.out 0
                                              have hfz58_1 := blk_frozen BK171.out 1
                                              have hfz58_2 := blk_frozen BK171.out 2
                                              have hfz58_3 := blk_frozen BK171.out 3
                                              have hfz58_4 := blk_frozen BK171.out 4
                                              have hfz58_5 := blk_frozen BK171.out 5
                                              try go_wp2_with (first | ((with_reducible refine gate_callee (f := 13) rfl ?_); refine goesL_ (some 79) rfl rfl Try.func13 (by kernel_rfl) rfl #[.agg #[.int .i64 (wrap64 (rd l0 x5_1)), .int .i64 (wrap64 (rd l0 (ji5))), .int .i64 (wrap64 (rd l0 (ji8))), .int .i64 (wrap64 (rd l0 (ji11))), .int .i64 (wrap64 (rd l0 (ji14))), .int .u32 ((((((((((rd l0 (ji17)) % 4294967296) * 16777216) % 4294967296) + ((((rd l0 (ji20)) % 4294967296) * 65536) % 4294967296)) % 4294967296) + ((((rd l0 (ji23)) % 4294967296) * 256) % 4294967296)) % 4294967296) + ((rd l0 (ji26)) % 4294967296)) % 4294967296)]] rfl (by (try simp only [List.map_toArray, List.map_cons, List.map_nil]); first | done | (simp only [hji11, hji14, hji17, hji20, hji23, hji26, hji5, hji8]; rfl) | rfl | (simp only [List.length_drop, List.length_take]; rfl)) ?_; (with_reducible refine (carlingref13_Right.calls k1 (wrap64 (rd l0 x5_1)) (wrap64 (rd l0 (ji5))) (wrap64 (rd l0 (ji8))) (wrap64 (rd l0 (ji11))) (wrap64 (rd l0 (ji14))) ((((((((((rd l0 (ji17)) % 4294967296) * 16777216) % 4294967296) + ((((rd l0 (ji20)) % 4294967296) * 65536) % 4294967296)) % 4294967296) + ((((rd l0 (ji23)) % 4294967296) * 256) % 4294967296)) % 4294967296) + ((rd l0 (ji26)) % 4294967296)) % 4294967296) false _ A29.out).mono ?_); rintro e w59 ⟨rfl, hb⟩; refine ⟨_, rfl, ?_⟩; have n0_ := Aside0.mk (Kd.R_below (by (with_reducible repeat (first | apply Kd.R_alloc | apply Kd.R_drewN | apply Kd.R_drew)); exact (Kd.R_mono (Kd.R_far (p := ⟨gb171, 5, none⟩) (Kd.R_mono HO_4.out (fun k_ hk => (⟨hk, hk⟩ : _ ∧ k_ ≠ gb171))) (fun _ hk => hk.2) (.int .u32 ((((((((((rd l0 (ji17)) % 4294967296) * 16777216) % 4294967296) + ((((rd l0 (ji20)) % 4294967296) * 65536) % 4294967296)) % 4294967296) + ((((rd l0 (ji23)) % 4294967296) * 256) % 4294967296)) % 4294967296) + ((rd l0 (ji26)) % 4294967296)) % 4294967296))) (fun _ h_ => h_.1))) hb); have n1_ := Aside0.mk (blk_below (g := gb171) (o := .cells #[.int .i64 (wrap64 (rd l0 x5_1)), .int .i64 (wrap64 (rd l0 (ji5))), .int .i64 (wrap64 (rd l0 (ji8))), .int .i64 (wrap64 (rd l0 (ji11))), .int .i64 (wrap64 (rd l0 (ji14))), .int .u32 ((((((((((rd l0 (ji17)) % 4294967296) * 16777216) % 4294967296) + ((((rd l0 (ji20)) % 4294967296) * 65536) % 4294967296)) % 4294967296) + ((((rd l0 (ji23)) % 4294967296) * 256) % 4294967296)) % 4294967296) + ((rd l0 (ji26)) % 4294967296)) % 4294967296)] 31 (0, 0)) (by (with_reducible repeat (first | refine blk_drewN ?_ _ | refine blk_drew ?_ | refine blk_alloc ?_ _)); refine blk_put (cs := #[.int .i64 (wrap64 (rd l0 x5_1)), .int .i64 (wrap64 (rd l0 (ji5))), .int .i64 (wrap64 (rd l0 (ji8))), .int .i64 (wrap64 (rd l0 (ji11))), .int .i64 (wrap64 (rd l0 (ji14))), .int .u32 0]) ?_ 5 _ rfl; (with_reducible repeat (first | refine blk_drewN ?_ _ | refine blk_drew ?_ | refine blk_alloc ?_ _)); exact BK171.out) hb); have n2_ := Aside0.mk (below_step (by repeat (first | (with_reducible first | exact HB.out | apply below_alloc | apply pw_below_drewN | apply below_drew1 | refine below_set ?_ GE171.out) | exact HB.out)) hb); clear HO_4; clear BK171; clear HB; have HO_4 := n0_; have BK171 := n1_; have HB := n2_; clear n0_ n1_ n2_; (try clear hb); (try clear hb2); (try clear hk); (try clear hi)))
                                              go_ret2
                                              exact ⟨_, by first | rfl | (simp [errW_none, errW_some] <;> rfl) | (simp only [← hji5, ← hji8, ← hji11, ← hji14, ← hji17, ← hji20, ← hji23, ← hji26]; first | rfl | (simp [errW_none, errW_some] <;> rfl)) | (simp [*, errW_none, errW_some] <;> rfl), by first | exact Kd.R_nil _ _ _ _ _ | exact Kd.N_nil _ _ _ _ _ | exact Kd.V_nil _ _ _ _ _ | exact Kd.Q_nil _ _ _ _ _ | exact Kd.S_nil _ _ _ _ _, by repeat (first | (with_reducible first | exact HB.out | apply below_alloc | apply pw_below_drewN | apply below_drew1 | refine below_set ?_ GE171.out) | exact HB.out)⟩
                                          · rw [if_neg c28] at H
                                            exact absurd H (by simp)
                                        · rw [if_neg c27] at H
                                          exact absurd H (by simp)
                                      · rw [if_neg c25] at H
                                        exact absurd H (by simp)
                                    · rw [if_neg c24] at H
                                      exact absurd H (by simp)
                                  · rw [if_neg c22] at H
                                    exact absurd H (by simp)
                                · rw [if_neg c21] at H
                                  exact absurd H (by simp)
                              · rw [if_neg c19] at H
                                exact absurd H (by simp)
                            · rw [if_neg c18] at H
                              exact absurd H (by simp)
                          · rw [if_neg c16] at H
                            exact absurd H (by simp)
                        · rw [if_neg c15] at H
                          exact absurd H (by simp)
                      · rw [if_neg c13] at H
                        exact absurd H (by simp)
                    · rw [if_neg c12] at H
                      exact absurd H (by simp)
                  · rw [if_neg c10] at H
                    exact absurd H (by simp)
                · rw [if_neg c9] at H
                  exact absurd H (by simp)
              · rw [if_neg c7] at H
                exact absurd H (by simp)
            · rw [if_neg c6] at H
              exact absurd H (by simp)
          · rw [if_neg c4] at H
            exact absurd H (by simp)
        · rw [if_neg c3] at H
          have c3b0 : decide (x5_1 < (l0.length : Int)) = false := decide_eq_false c3
          clear c3
          simp only [Option.some.injEq, Prod.mk.injEq] at H
          obtain ⟨rfl, rfl⟩ := H
          go_wp2
          go_ret2
          exact ⟨_, by first | rfl | (simp [errW_none, errW_some] <;> rfl) | (simp [*, errW_none, errW_some] <;> rfl), by (with_reducible repeat (first | apply Kd.R_alloc | apply Kd.R_drewN | apply Kd.R_drew)); exact HO_4.out, by repeat (first | (with_reducible first | exact HB.out | apply below_alloc | apply pw_below_drewN | apply below_drew1) | exact HB.out)⟩
  · rw [if_neg c2] at H
    have c2b0 : (((l0.length : Int) % 9) == 0) = false := beq_eq_false_iff_ne.mpr c2
    have c2b1 : (((l0.length : Int) % 9) != 0) = true := bne_iff_ne.mpr c2
    simp only [Option.some.injEq, Prod.mk.injEq] at H
    obtain ⟨rfl, rfl⟩ := H
    go_enter Try.func17, Try.ntmps17
    go_wp2
    go_ret2
    exact ⟨_, by first | rfl | (simp [errW_none, errW_some] <;> rfl) | (simp [*, errW_none, errW_some] <;> rfl), by first | exact Kd.R_nil _ _ _ _ _ | exact Kd.N_nil _ _ _ _ _ | exact Kd.V_nil _ _ _ _ _ | exact Kd.Q_nil _ _ _ _ _ | exact Kd.S_nil _ _ _ _ _, by repeat (first | (with_reducible first | exact HB.out | apply below_alloc | apply pw_below_drewN | apply below_drew1) | exact HB.out)⟩

end Go.Proofs.Ytnhianjjhkjeoaa.P
