/- Written by a program of this session (gp.py), which drives the printer of the kit: contracts of Go functions over the translation, and the rows of laws: each says what its theorems state. Conditions: as each theorem states them. -/
import Derived.Test.YtciojbdkoojlhaaPx0
namespace Go.Proofs.Ytciojbdkoojlhaa.P
open Go.RowKit Go.Proofs.YtciojbdkoojlhaaW.PrintWords Go.Proofs.YtciojbdkoojlhaaW.PrintLast Go.Proofs.YtciojbdkoojlhaaW.PrintMore
attribute [local go_sem] max2_int min2_int max_two min_two max_three min_three max_four min_four   -- for this text's walks alone
set_option linter.unusedVariables false
set_option linter.unusedSimpArgs false

/-! ### carlingref02_part: function 28 -/
mutual
def carlingref02_part.j0 : Nat → Int → Bool → Option (Bool)
  | 0, _, _ => none
  | k + 1, x0, x18 => if x18 = true then (some true) else (carlingref02_part.l0 k x0 (⟨#[95, 46, 43, 45, 42, 38, 124, 94, 60, 62, 61]⟩ : ByteArray) 0)
def carlingref02_part.l0 : Nat → Int → ByteArray → Int → Option (Bool)
  | 0, _, _, _ => none
  | k + 1, x0, x3, x4 => if x4 < (x3.size : Int) then (if 0 ≤ x4 then (if (bt x3 x4) = x0 then (some true) else (carlingref02_part.l0 k x0 x3 (wrap64 (x4 + 1)))) else (none)) else (some false)
end
def carlingref02_part.f (k : Nat) (a0 : Int) : Option (Bool) := if a0 ≥ 97 then (if a0 ≤ 122 then (carlingref02_part.j0 k a0 true) else (if a0 ≥ 48 then (carlingref02_part.j0 k a0 (decide (a0 ≤ 57))) else (carlingref02_part.j0 k a0 false))) else (if a0 ≥ 48 then (carlingref02_part.j0 k a0 (decide (a0 ≤ 57))) else (carlingref02_part.j0 k a0 false))
theorem carlingref02_part.mono_l : ∀ k, (∀ y0 y1, LeO (carlingref02_part.j0 k y0 y1) (carlingref02_part.j0 (k + 1) y0 y1)) ∧ (∀ y0 y1 y2, LeO (carlingref02_part.l0 k y0 y1 y2) (carlingref02_part.l0 (k + 1) y0 y1 y2))
  | 0 => ⟨fun _ _ r h => by simp [carlingref02_part.j0] at h, fun _ _ _ r h => by simp [carlingref02_part.l0] at h⟩
  | k + 1 => by
    obtain ⟨ih0, ih1⟩ := carlingref02_part.mono_l k
    refine ⟨?_, ?_⟩
    · intro y0 y1
      unfold carlingref02_part.j0
      repeat' first
      | (with_reducible exact ih0 _ _)
      | (with_reducible exact ih1 _ _ _)
      | (with_reducible exact LeO.refl _)
      | (with_reducible exact LeO.none _)
      | (with_reducible refine LeO.ite ?_ ?_)
      | (with_reducible refine LeO.bind ?_ (fun _ => ?_))
      | exact ih0 _ _
      | exact ih1 _ _ _
      | exact LeO.none _
      | refine LeO.ite ?_ ?_
      | refine LeO.bind ?_ (fun _ => ?_)
    · intro y0 y1 y2
      unfold carlingref02_part.l0
      repeat' first
      | (with_reducible exact ih0 _ _)
      | (with_reducible exact ih1 _ _ _)
      | (with_reducible exact LeO.refl _)
      | (with_reducible exact LeO.none _)
      | (with_reducible refine LeO.ite ?_ ?_)
      | (with_reducible refine LeO.bind ?_ (fun _ => ?_))
      | exact ih0 _ _
      | exact ih1 _ _ _
      | exact LeO.none _
      | refine LeO.ite ?_ ?_
      | refine LeO.bind ?_ (fun _ => ?_)
theorem carlingref02_part.mono : ∀ a0 k, LeO (carlingref02_part.f k a0) (carlingref02_part.f (k + 1) a0) := by
  intro a0 k
  obtain ⟨ih0, ih1⟩ := carlingref02_part.mono_l k
  unfold carlingref02_part.f
  repeat' first
      | (with_reducible exact ih0 _ _)
      | (with_reducible exact ih1 _ _ _)
      | (with_reducible exact LeO.refl _)
      | (with_reducible exact LeO.none _)
      | (with_reducible refine LeO.ite ?_ ?_)
      | (with_reducible refine LeO.bind ?_ (fun _ => ?_))
      | exact ih0 _ _
      | exact ih1 _ _ _
      | exact LeO.none _
      | refine LeO.ite ?_ ?_
      | refine LeO.bind ?_ (fun _ => ?_)
set_option maxHeartbeats 8000000 in
set_option maxRecDepth 100000 in
theorem carlingref02_part.calls (k : Nat) (a0 : Int) (r : Bool) (w : World) (h : carlingref02_part.f k a0 = some r) :
    Calls Try.prog 28 #[.int .u8 a0] w fun e w' => e = .returned (.bool r) ∧ Drawn0 w w' := by
  have H : (if a0 ≥ 97 then (if a0 ≤ 122 then (carlingref02_part.j0 k a0 true) else (if a0 ≥ 48 then (carlingref02_part.j0 k a0 (decide (a0 ≤ 57))) else (carlingref02_part.j0 k a0 false))) else (if a0 ≥ 48 then (carlingref02_part.j0 k a0 (decide (a0 ≤ 57))) else (carlingref02_part.j0 k a0 false))) = some r := h
  clear h
  have HC2 := Aside0.mk H
  clear H
  go_enter Try.func28, Try.ntmps28
  go_upto_region 1 with (fail)
  go_cut [18] (fun v18 wc => ∃ (kq : Nat) (x18_1 : Bool), v18 = .bool x18_1 ∧ Aside0 (carlingref02_part.j0 kq a0 x18_1 = some r) ∧ Aside0 (kq ≤ k) ∧ Drawn0 w wc)
  case first =>
    have H := HC2.out
    clear HC2
    by_cases c3 : a0 ≥ 97
    · rw [if_pos c3] at H
      have c3b0 : decide (97 ≤ a0) = true := decide_eq_true c3
      clear c3
      (first | rw [c3b0] | (simp only [i64_w, i32_w]; rw [c3b0]) | skip)
      by_cases c4 : a0 ≤ 122
      · rw [if_pos c4] at H
        have c4b0 : decide (a0 ≤ 122) = true := decide_eq_true c4
        clear c4
        have H' := Aside0.mk H
        clear H
        go_wp2
        go_meet
        case rel => exact ⟨_, (true), (by first | rfl | (simp; done) | (simp [*]; done)), H', ⟨by first | omega | exact Nat.le_refl _⟩, by repeat (first | exact Drawn0.refl _ | apply Drawn0.step)⟩
      · rw [if_neg c4] at H
        have c4b0 : decide (a0 ≤ 122) = false := decide_eq_false c4
        clear c4
        by_cases c5 : a0 ≥ 48
        · rw [if_pos c5] at H
          have c5b0 : decide (48 ≤ a0) = true := decide_eq_true c5
          clear c5
          have H' := Aside0.mk H
          clear H
          go_wp2
          go_meet
          case rel => exact ⟨_, (decide (a0 ≤ 57)), (by first | rfl | (simp; done) | (simp [*]; done)), H', ⟨by first | omega | exact Nat.le_refl _⟩, by repeat (first | exact Drawn0.refl _ | apply Drawn0.step)⟩
        · rw [if_neg c5] at H
          have c5b0 : decide (48 ≤ a0) = false := decide_eq_false c5
          clear c5
          have H' := Aside0.mk H
          clear H
          go_wp2
          go_meet
          case rel => exact ⟨_, (false), (by first | rfl | (simp; done) | (simp [*]; done)), H', ⟨by first | omega | exact Nat.le_refl _⟩, by repeat (first | exact Drawn0.refl _ | apply Drawn0.step)⟩
    · rw [if_neg c3] at H
      have c3b0 : decide (97 ≤ a0) = false := decide_eq_false c3
      clear c3
      (first | rw [c3b0] | (simp only [i64_w, i32_w]; rw [c3b0]) | skip)
      by_cases c6 : a0 ≥ 48
      · rw [if_pos c6] at H
        have c6b0 : decide (48 ≤ a0) = true := decide_eq_true c6
        clear c6
        have H' := Aside0.mk H
        clear H
        go_wp2
        go_meet
        case rel => exact ⟨_, (decide (a0 ≤ 57)), (by first | rfl | (simp; done) | (simp [*]; done)), H', ⟨by first | omega | exact Nat.le_refl _⟩, by repeat (first | exact Drawn0.refl _ | apply Drawn0.step)⟩
      · rw [if_neg c6] at H
        have c6b0 : decide (48 ≤ a0) = false := decide_eq_false c6
        clear c6
        have H' := Aside0.mk H
        clear H
        go_wp2
        go_meet
        case rel => exact ⟨_, (false), (by first | rfl | (simp; done) | (simp [*]; done)), H', ⟨by first | omega | exact Nat.le_refl _⟩, by repeat (first | exact Drawn0.refl _ | apply Drawn0.step)⟩
  case rest =>
    clear HC2
    try clear c2
    try clear p2
    try clear c3
    try clear c3b0
    try clear c4
    try clear c4b0
    try clear c5
    try clear c5b0
    try clear c6
    try clear c6b0
    obtain ⟨kq, x18_1, rfl, HA, HJ1, ⟨mc1, rfl⟩⟩ := hcut
    cases kq with
    | zero => exact absurd HA.out (by simp [carlingref02_part.j0])
    | succ kj1 =>
      have H := HA.out
      clear HA
      simp only [carlingref02_part.j0] at H
      by_cases c7 : x18_1 = true
      · subst c7
        have H1 : (some true) = some r := by rw [if_pos rfl] at H; exact H
        clear H
        have H := H1
        clear H1
        obtain rfl := Option.some.inj H
        go_wp2
        go_ret
        exact ⟨by first | rfl | (simp; done) | (simp [*]; done), by repeat (first | exact Drawn0.refl _ | apply Drawn0.step)⟩
      · replace c7 := Bool.eq_false_iff.mpr c7
        subst c7
        have H1 : (carlingref02_part.l0 kj1 a0 (⟨#[95, 46, 43, 45, 42, 38, 124, 94, 60, 62, 61]⟩ : ByteArray) 0) = some r := by rw [if_neg (show ¬ (false = true) by decide)] at H; exact H
        clear H
        have H := H1
        clear H1
        have H' := Aside0.mk H
        clear H
        go_wp2
        go_loopg [4] kj1 (fun kq v4 w' => ∃ (x4_2 : Int), v4 = .int .i64 x4_2 ∧ Aside0 (carlingref02_part.l0 kq a0 (⟨#[95, 46, 43, 45, 42, 38, 124, 94, 60, 62, 61]⟩ : ByteArray) x4_2 = some r) ∧ Aside0 (kq ≤ kj1) ∧ Drawn0 w w')
        case atStart => exact ⟨(0), (by first | rfl | (simp; done) | (simp [*]; done)), H', ⟨Nat.le_refl _⟩, by repeat (first | exact Drawn0.refl _ | apply Drawn0.step)⟩
        case round =>
          clear H'
          try clear c1
          try clear c2
          try clear p2
          try clear c3
          try clear c3b0
          try clear c4
          try clear c4b0
          try clear c5
          try clear c5b0
          try clear c6
          try clear c6b0
          try clear c7
          try clear p2
          obtain ⟨x4_2, rfl, HA, HK2, ⟨m2, rfl⟩⟩ := hrel
          cases gk with
          | zero => exact absurd HA.out (by simp [carlingref02_part.l0])
          | succ k2 =>
            have H := HA.out
            clear HA
            simp only [carlingref02_part.l0] at H
            by_cases c8 : x4_2 < ((⟨#[95, 46, 43, 45, 42, 38, 124, 94, 60, 62, 61]⟩ : ByteArray).size : Int)
            · rw [if_pos c8] at H
              have c8b0 : decide (x4_2 < ((⟨#[95, 46, 43, 45, 42, 38, 124, 94, 60, 62, 61]⟩ : ByteArray).size : Int)) = true := decide_eq_true c8
              clear c8
              by_cases c9 : 0 ≤ x4_2
              · rw [if_pos c9] at H
                have c9b0 : decide (0 ≤ x4_2) = true := decide_eq_true c9
                clear c9
                by_cases c11 : (bt (⟨#[95, 46, 43, 45, 42, 38, 124, 94, 60, 62, 61]⟩ : ByteArray) x4_2) = a0
                · rw [if_pos c11] at H
                  have c11b0 : ((bt (⟨#[95, 46, 43, 45, 42, 38, 124, 94, 60, 62, 61]⟩ : ByteArray) x4_2) == a0) = true := beq_iff_eq.mpr c11
                  have c11b1 : ((bt (⟨#[95, 46, 43, 45, 42, 38, 124, 94, 60, 62, 61]⟩ : ByteArray) x4_2) != a0) = false := bne_eq_false_iff_eq.mpr c11
                  clear c11
                  obtain rfl := Option.some.inj H
                  have p10 : 0 ≤ (x4_2 : Int) := of_decide_eq_true (by first | (with_reducible assumption) | assumption)
                  have q10 : x4_2 < (11 : Int) := of_decide_eq_true (by first | (with_reducible assumption) | assumption)
                  have hx10 := bt_at (⟨#[95, 46, 43, 45, 42, 38, 124, 94, 60, 62, 61]⟩ : ByteArray) x4_2
                  replace p10 := eq_true p10
                  replace q10 := eq_true q10
                  go_wp2
                  go_ret
                  exact ⟨by first | rfl | (simp; done) | (simp [*]; done), by repeat (first | exact Drawn0.refl _ | apply Drawn0.step)⟩
                · rw [if_neg c11] at H
                  have c11b0 : ((bt (⟨#[95, 46, 43, 45, 42, 38, 124, 94, 60, 62, 61]⟩ : ByteArray) x4_2) == a0) = false := beq_eq_false_iff_ne.mpr c11
                  have c11b1 : ((bt (⟨#[95, 46, 43, 45, 42, 38, 124, 94, 60, 62, 61]⟩ : ByteArray) x4_2) != a0) = true := bne_iff_ne.mpr c11
                  have H' := Aside0.mk H
                  clear H
                  have p10 : 0 ≤ (x4_2 : Int) := of_decide_eq_true (by first | (with_reducible assumption) | assumption)
                  have q10 : x4_2 < (11 : Int) := of_decide_eq_true (by first | (with_reducible assumption) | assumption)
                  have hx10 := bt_at (⟨#[95, 46, 43, 45, 42, 38, 124, 94, 60, 62, 61]⟩ : ByteArray) x4_2
                  replace p10 := eq_true p10
                  replace q10 := eq_true q10
                  go_wp2
                  go_roundg k2
                  case measure => have := HJ1.out; have := HK2.out; omega
                  case rel => exact ⟨(wrap64 (x4_2 + 1)), (by first | rfl | (simp; done) | (simp [*]; done)), H', ⟨by have := HJ1.out; have := HK2.out; omega⟩, by repeat (first | exact Drawn0.refl _ | apply Drawn0.step)⟩
              · rw [if_neg c9] at H
                exact absurd H (by simp)
            · rw [if_neg c8] at H
              have c8b0 : decide (x4_2 < ((⟨#[95, 46, 43, 45, 42, 38, 124, 94, 60, 62, 61]⟩ : ByteArray).size : Int)) = false := decide_eq_false c8
              have c8c : ¬ (x4_2 < (11 : Int)) := c8
              clear c8
              obtain rfl := Option.some.inj H
              go_wp2
              go_ret
              exact ⟨by first | rfl | (simp; done) | (simp [*]; done), by repeat (first | exact Drawn0.refl _ | apply Drawn0.step)⟩

end Go.Proofs.Ytciojbdkoojlhaa.P
