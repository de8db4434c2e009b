/- Written by a program of this session (gp.py), which drives the printer of the kit: contracts of Go functions over the translation, and the rows of laws: each says what its theorems state. Conditions: as each theorem states them. -/
import Derived.Test.YtciojbdkoojlhaaPx0
import Derived.Test.YtciojbdkoojlhaaPx20
namespace Go.Proofs.Ytciojbdkoojlhaa.P
open Go.RowKit Go.Proofs.YtciojbdkoojlhaaW.PrintWords Go.Proofs.YtciojbdkoojlhaaW.PrintLast Go.Proofs.YtciojbdkoojlhaaW.PrintMore
attribute [local go_sem] max2_int min2_int max_two min_two max_three min_three max_four min_four   -- for this text's walks alone
set_option linter.unusedVariables false
set_option linter.unusedSimpArgs false

/-! ### carlingref02_text: function 27 -/
mutual
def carlingref02_text.l0 : Nat → List (S30) → ByteArray → Int → ByteArray → Int → Option (ByteArray × Bool)
  | 0, _, _, _, _, _ => none
  | k + 1, x0, x1, x2, x8, x9 => if x9 < (x0.length : Int) then (if x9 > 0 then (if x8.size + x1.size ≤ 9223372036854775807 then (carlingref02_text.j1 k x0 x1 x2 (x8 ++ x1) x9) else (none)) else (carlingref02_text.j1 k x0 x1 x2 x8 x9)) else (some (x8, true))
def carlingref02_text.j1 : Nat → List (S30) → ByteArray → Int → ByteArray → Int → Option (ByteArray × Bool)
  | 0, _, _, _, _, _ => none
  | k + 1, x0, x1, x2, x8, x9 => if 0 ≤ x9 then (if x9 < (x0.length : Int) then (if ((rd_T30 x0 x9).f0 = true) then (if x2 = 24 then (carlingref02_text.j2 k x0 x1 x2 x8 x9 true) else (carlingref02_text.j2 k x0 x1 x2 x8 x9 (((rd_T30 x0 x9).f1).toList != ([] : List UInt8)))) else (if (((rd_T30 x0 x9).f2).length : Int) > 0 then (some ((⟨#[]⟩ : ByteArray), false)) else ((carlingref02_Word.f k ((rd_T30 x0 x9).f1)).bind fun t203 => (if t203 = true then (if x8.size + ((rd_T30 x0 x9).f1).size ≤ 9223372036854775807 then (carlingref02_text.l0 k x0 x1 x2 (x8 ++ ((rd_T30 x0 x9).f1)) (wrap64 (x9 + 1))) else (none)) else (some ((⟨#[]⟩ : ByteArray), false)))))) else (none)) else (none)
def carlingref02_text.j2 : Nat → List (S30) → ByteArray → Int → ByteArray → Int → Bool → Option (ByteArray × Bool)
  | 0, _, _, _, _, _, _ => none
  | k + 1, x0, x1, x2, x8, x9, x61 => if x61 = true then (some ((⟨#[]⟩ : ByteArray), false)) else (if 0 ≤ x9 then (if x9 < (x0.length : Int) then ((carlingref02_text.f k ((rd_T30 x0 x9).f2) (⟨#[32]⟩ : ByteArray) (wrap64 (x2 + 1))).bind fun bt207 => (if bt207.2 = true then (if x8.size + 1 ≤ 9223372036854775807 then (if (x8 ++ (⟨#[40]⟩ : ByteArray)).size + bt207.1.size ≤ 9223372036854775807 then (if ((x8 ++ (⟨#[40]⟩ : ByteArray)) ++ bt207.1).size + 1 ≤ 9223372036854775807 then (carlingref02_text.l0 k x0 x1 x2 (((x8 ++ (⟨#[40]⟩ : ByteArray)) ++ bt207.1) ++ (⟨#[41]⟩ : ByteArray)) (wrap64 (x9 + 1))) else (none)) else (none)) else (none)) else (some ((⟨#[]⟩ : ByteArray), false)))) else (none)) else (none))
def carlingref02_text.f : Nat → List (S30) → ByteArray → Int → Option (ByteArray × Bool)
  | 0, _, _, _ => none
  | k + 1, l0, a1, a2 => carlingref02_text.l0 k l0 a1 a2 (⟨#[]⟩ : ByteArray) 0
end
theorem carlingref02_text.mono_l : ∀ k, (∀ y0 y1 y2, LeO (carlingref02_text.f k y0 y1 y2) (carlingref02_text.f (k + 1) y0 y1 y2)) ∧ (∀ y0 y1 y2 y3 y4, LeO (carlingref02_text.l0 k y0 y1 y2 y3 y4) (carlingref02_text.l0 (k + 1) y0 y1 y2 y3 y4)) ∧ (∀ y0 y1 y2 y3 y4, LeO (carlingref02_text.j1 k y0 y1 y2 y3 y4) (carlingref02_text.j1 (k + 1) y0 y1 y2 y3 y4)) ∧ (∀ y0 y1 y2 y3 y4 y5, LeO (carlingref02_text.j2 k y0 y1 y2 y3 y4 y5) (carlingref02_text.j2 (k + 1) y0 y1 y2 y3 y4 y5))
  | 0 => ⟨fun _ _ _ r h => by simp [carlingref02_text.f] at h, fun _ _ _ _ _ r h => by simp [carlingref02_text.l0] at h, fun _ _ _ _ _ r h => by simp [carlingref02_text.j1] at h, fun _ _ _ _ _ _ r h => by simp [carlingref02_text.j2] at h⟩
  | k + 1 => by
    obtain ⟨ih0, ih1, ih2, ih3⟩ := carlingref02_text.mono_l k
    refine ⟨?_, ?_, ?_, ?_⟩
    · intro y0 y1 y2
      unfold carlingref02_text.f
      repeat' first
      | (with_reducible exact ih0 _ _ _)
      | (with_reducible exact ih1 _ _ _ _ _)
      | (with_reducible exact ih2 _ _ _ _ _)
      | (with_reducible exact ih3 _ _ _ _ _ _)
      | (with_reducible exact carlingref02_Word.mono _ _)
      | (with_reducible exact LeO.refl _)
      | (with_reducible exact LeO.none _)
      | (with_reducible refine LeO.ite ?_ ?_)
      | (with_reducible refine LeO.bind ?_ (fun _ => ?_))
      | exact ih0 _ _ _
      | exact ih1 _ _ _ _ _
      | exact ih2 _ _ _ _ _
      | exact ih3 _ _ _ _ _ _
      | exact carlingref02_Word.mono _ _
      | exact LeO.none _
      | refine LeO.ite ?_ ?_
      | refine LeO.bind ?_ (fun _ => ?_)
    · intro y0 y1 y2 y3 y4
      unfold carlingref02_text.l0
      repeat' first
      | (with_reducible exact ih0 _ _ _)
      | (with_reducible exact ih1 _ _ _ _ _)
      | (with_reducible exact ih2 _ _ _ _ _)
      | (with_reducible exact ih3 _ _ _ _ _ _)
      | (with_reducible exact carlingref02_Word.mono _ _)
      | (with_reducible exact LeO.refl _)
      | (with_reducible exact LeO.none _)
      | (with_reducible refine LeO.ite ?_ ?_)
      | (with_reducible refine LeO.bind ?_ (fun _ => ?_))
      | exact ih0 _ _ _
      | exact ih1 _ _ _ _ _
      | exact ih2 _ _ _ _ _
      | exact ih3 _ _ _ _ _ _
      | exact carlingref02_Word.mono _ _
      | exact LeO.none _
      | refine LeO.ite ?_ ?_
      | refine LeO.bind ?_ (fun _ => ?_)
    · intro y0 y1 y2 y3 y4
      unfold carlingref02_text.j1
      repeat' first
      | (with_reducible exact ih0 _ _ _)
      | (with_reducible exact ih1 _ _ _ _ _)
      | (with_reducible exact ih2 _ _ _ _ _)
      | (with_reducible exact ih3 _ _ _ _ _ _)
      | (with_reducible exact carlingref02_Word.mono _ _)
      | (with_reducible exact LeO.refl _)
      | (with_reducible exact LeO.none _)
      | (with_reducible refine LeO.ite ?_ ?_)
      | (with_reducible refine LeO.bind ?_ (fun _ => ?_))
      | exact ih0 _ _ _
      | exact ih1 _ _ _ _ _
      | exact ih2 _ _ _ _ _
      | exact ih3 _ _ _ _ _ _
      | exact carlingref02_Word.mono _ _
      | exact LeO.none _
      | refine LeO.ite ?_ ?_
      | refine LeO.bind ?_ (fun _ => ?_)
    · intro y0 y1 y2 y3 y4 y5
      unfold carlingref02_text.j2
      repeat' first
      | (with_reducible exact ih0 _ _ _)
      | (with_reducible exact ih1 _ _ _ _ _)
      | (with_reducible exact ih2 _ _ _ _ _)
      | (with_reducible exact ih3 _ _ _ _ _ _)
      | (with_reducible exact carlingref02_Word.mono _ _)
      | (with_reducible exact LeO.refl _)
      | (with_reducible exact LeO.none _)
      | (with_reducible refine LeO.ite ?_ ?_)
      | (with_reducible refine LeO.bind ?_ (fun _ => ?_))
      | exact ih0 _ _ _
      | exact ih1 _ _ _ _ _
      | exact ih2 _ _ _ _ _
      | exact ih3 _ _ _ _ _ _
      | exact carlingref02_Word.mono _ _
      | exact LeO.none _
      | refine LeO.ite ?_ ?_
      | refine LeO.bind ?_ (fun _ => ?_)
theorem carlingref02_text.mono : ∀ a0 a1 a2 k, LeO (carlingref02_text.f k a0 a1 a2) (carlingref02_text.f (k + 1) a0 a1 a2) := by
  intro a0 a1 a2 k
  obtain ⟨ih0, ih1, ih2, ih3⟩ := carlingref02_text.mono_l k
  exact ih0 a0 a1 a2
set_option maxHeartbeats 8000000 in
set_option maxRecDepth 100000 in
theorem carlingref02_text.calls (k : Nat) : ∀ (A0 : Option Addr) (c0 : Nat) (l0 : List (S30)) (a1 : ByteArray) (a2 : Int) (r1 : ByteArray) (r2 : Bool) (w : World) (hr0 : Kd.C k30 w A0 l0.length l0) (hc0 : l0.length ≤ c0) (h : carlingref02_text.f k l0 a1 a2 = some (r1, r2)),
    Calls Try.prog 27 #[.slice A0 l0.length c0, .string a1, .int .i64 a2] w fun e w' => e = .returned (.tuple #[.string r1, .bool r2]) ∧ Drawn0 w w' := by
  induction k using Nat.strongRecOn with
  | _ k ih =>
  intro A0 c0 l0 a1 a2 r1 r2 w hr0 hc0 h
  cases k with
  | zero => exact absurd h (by simp [carlingref02_text.f])
  | succ k =>
  simp only [carlingref02_text.f] at h
  have HR0 := Aside0.mk hr0
  have HC0 := Aside0.mk hc0
  clear hr0 hc0
  have H : (carlingref02_text.l0 k l0 a1 a2 (⟨#[]⟩ : ByteArray) 0) = some (r1, r2) := h
  clear h
  have H' := Aside0.mk H
  clear H
  go_enter Try.func27, Try.ntmps27
  go_wp2
  go_loopg [8, 9] k (fun kq v8 v9 w' => ∃ (x8_1 : ByteArray) (x9_1 : Int), v8 = .string x8_1 ∧ v9 = .int .i64 x9_1 ∧ Aside0 (carlingref02_text.l0 kq l0 a1 a2 x8_1 x9_1 = some (r1, r2)) ∧ Aside0 (kq ≤ k) ∧ Drawn0 w w')
  case atStart => exact ⟨((⟨#[]⟩ : ByteArray)), (0), (by first | rfl | (simp; done) | (simp [*]; done)), (by first | rfl | (simp; done) | (simp [*]; done)), H', ⟨Nat.le_refl _⟩, by repeat (first | exact Drawn0.refl _ | apply Drawn0.step)⟩
  case round =>
    clear H'
    try clear c2
    try clear p2
    obtain ⟨x8_1, x9_1, rfl, rfl, HA, HK1, ⟨m1, rfl⟩⟩ := hrel
    cases gk with
    | zero => exact absurd HA.out (by simp [carlingref02_text.l0])
    | succ k1 =>
      have H := HA.out
      clear HA
      simp only [carlingref02_text.l0] at H
      by_cases c4 : x9_1 < (l0.length : Int)
      · rw [if_pos c4] at H
        have c4b0 : decide (x9_1 < (l0.length : Int)) = true := decide_eq_true c4
        clear c4
        have HC5 := Aside0.mk H
        clear H
        go_upto_if 19 with (fail)
        go_cut [8] (fun v8 wc => ∃ (kq : Nat) (x8_4 : ByteArray), v8 = .string x8_4 ∧ Aside0 (carlingref02_text.j1 kq l0 a1 a2 x8_4 x9_1 = some (r1, r2)) ∧ Aside0 (kq ≤ k1) ∧ Drawn0 w wc)
        case first =>
          have H := HC5.out
          clear HC5
          by_cases c6 : x9_1 > 0
          · rw [if_pos c6] at H
            have c6b0 : decide (0 < x9_1) = true := decide_eq_true c6
            clear c6
            (first | rw [c6b0] | (simp only [i64_w, i32_w]; rw [c6b0]) | skip)
            by_cases c7 : x8_1.size + a1.size ≤ 9223372036854775807
            · rw [if_pos c7] at H
              have c7b0 := eq_true c7
              have c7b1 : decide (x8_1.size + a1.size ≤ 9223372036854775807) = true := decide_eq_true c7
              try have c7b2 : (9223372036854775807 < x8_1.size + a1.size) = False := eq_false (Nat.not_lt.2 c7)
              have H' := Aside0.mk H
              clear H
              go_wp2
              go_meet
              case rel => exact ⟨_, (x8_1 ++ a1), (by first | rfl | (simp; done) | (simp [*]; done)), H', ⟨by have := HK1.out; first | omega | exact Nat.le_refl _⟩, by repeat (first | exact Drawn0.refl _ | apply Drawn0.step)⟩
            · rw [if_neg c7] at H
              exact absurd H (by simp)
          · rw [if_neg c6] at H
            have c6b0 : decide (0 < x9_1) = false := decide_eq_false c6
            clear c6
            (first | rw [c6b0] | (simp only [i64_w, i32_w]; rw [c6b0]) | skip)
            have H' := Aside0.mk H
            clear H
            go_wp2
            go_meet
            case rel => exact ⟨_, (x8_1), (by first | rfl | (simp; done) | (simp [*]; done)), H', ⟨by have := HK1.out; first | omega | exact Nat.le_refl _⟩, by repeat (first | exact Drawn0.refl _ | apply Drawn0.step)⟩
        case rest =>
          clear HC5
          try clear c2
          try clear p2
          try clear c4
          try clear c4b0
          try clear c6
          try clear c6b0
          try clear c7
          try clear c7b0
          try clear c7b1
          try clear c7b2
          try clear p2
          obtain ⟨kq, x8_4, rfl, HA, HJ4, ⟨mc4, rfl⟩⟩ := hcut
          cases kq with
          | zero => exact absurd HA.out (by simp [carlingref02_text.j1])
          | succ kj4 =>
            have H := HA.out
            clear HA
            simp only [carlingref02_text.j1] at H
            by_cases c8 : 0 ≤ x9_1
            · rw [if_pos c8] at H
              have c8b0 : decide (0 ≤ x9_1) = true := decide_eq_true c8
              clear c8
              by_cases c9 : x9_1 < (l0.length : Int)
              · rw [if_pos c9] at H
                have c9b0 : decide (x9_1 < (l0.length : Int)) = true := decide_eq_true c9
                clear c9
                obtain ⟨bq10, hbq10⟩ : ∃ b_ : Bool, b_ = ((rd_T30 l0 x9_1).f0) := ⟨_, rfl⟩
                replace H : (if (bq10 = true) then (if a2 = 24 then (carlingref02_text.j2 kj4 l0 a1 a2 x8_4 x9_1 true) else (carlingref02_text.j2 kj4 l0 a1 a2 x8_4 x9_1 (((rd_T30 l0 x9_1).f1).toList != ([] : List UInt8)))) else (if (((rd_T30 l0 x9_1).f2).length : Int) > 0 then (some ((⟨#[]⟩ : ByteArray), false)) else ((carlingref02_Word.f kj4 ((rd_T30 l0 x9_1).f1)).bind fun t203 => (if t203 = true then (if x8_4.size + ((rd_T30 l0 x9_1).f1).size ≤ 9223372036854775807 then (carlingref02_text.l0 kj4 l0 a1 a2 (x8_4 ++ ((rd_T30 l0 x9_1).f1)) (wrap64 (x9_1 + 1))) else (none)) else (some ((⟨#[]⟩ : ByteArray), false)))))) = some (r1, r2) := by rw [← hbq10] at H; exact H
                have Nbq10 := Aside0.mk hbq10
                clear hbq10
                by_cases c11 : (bq10 = true)
                · subst c11
                  have H1 : (if a2 = 24 then (carlingref02_text.j2 kj4 l0 a1 a2 x8_4 x9_1 true) else (carlingref02_text.j2 kj4 l0 a1 a2 x8_4 x9_1 (((rd_T30 l0 x9_1).f1).toList != ([] : List UInt8)))) = some (r1, r2) := by rw [if_pos rfl] at H; exact H
                  clear H
                  have H := H1
                  clear H1
                  have HC12 := Aside0.mk H
                  clear H
                  have p200 : 0 ≤ (x9_1 : Int) := of_decide_eq_true (by first | (with_reducible assumption) | assumption)
                  have q200 : x9_1 < (l0.length : Int) := of_decide_eq_true (by first | (with_reducible assumption) | assumption)
                  obtain ⟨ad200, A200_2, c200_2, e200, hx200_0, hx200_1, hx200_2, hx200_3, hl200_2, hi200_2⟩ := at_T30 HR0.out x9_1 p200 q200
                  (try rw [← Nbq10.out] at hx200_0)
                  cases e200
                  have HR200_2 := Aside0.mk hi200_2
                  have HC200_2 := Aside0.mk hl200_2
                  clear hi200_2 hl200_2
                  replace p200 := eq_true p200
                  replace q200 := eq_true q200
                  go_upto_region 11 with (fail)
                  go_cut [61] (fun v61 wc => ∃ (kq : Nat) (x61_11 : Bool), v61 = .bool x61_11 ∧ Aside0 (carlingref02_text.j2 kq l0 a1 a2 x8_4 x9_1 x61_11 = some (r1, r2)) ∧ Aside0 (kq ≤ kj4) ∧ Drawn0 w wc)
                  case first =>
                    have H := HC12.out
                    clear HC12
                    by_cases c13 : a2 = 24
                    · rw [if_pos c13] at H
                      have c13b0 : (a2 == 24) = true := beq_iff_eq.mpr c13
                      have c13b1 : (a2 != 24) = false := bne_eq_false_iff_eq.mpr c13
                      clear c13
                      (first | rw [c13b0] | (simp only [i64_w, i32_w]; rw [c13b0]) | skip)
                      have H' := Aside0.mk H
                      clear H
                      go_wp2
                      go_meet
                      case rel => exact ⟨_, (true), (by first | rfl | (simp; done) | (simp [*]; done)), H', ⟨by have := HK1.out; have := HJ4.out; first | omega | exact Nat.le_refl _⟩, by repeat (first | exact Drawn0.refl _ | apply Drawn0.step)⟩
                    · rw [if_neg c13] at H
                      have c13b0 : (a2 == 24) = false := beq_eq_false_iff_ne.mpr c13
                      have c13b1 : (a2 != 24) = true := bne_iff_ne.mpr c13
                      (first | rw [c13b0] | (simp only [i64_w, i32_w]; rw [c13b0]) | skip)
                      have H' := Aside0.mk H
                      clear H
                      have p205 : 0 ≤ (x9_1 : Int) := of_decide_eq_true (by first | (with_reducible assumption) | assumption)
                      have q205 : x9_1 < (l0.length : Int) := of_decide_eq_true (by first | (with_reducible assumption) | assumption)
                      obtain ⟨ad205, A205_2, c205_2, e205, hx205_0, hx205_1, hx205_2, hx205_3, hl205_2, hi205_2⟩ := at_T30 HR0.out x9_1 p205 q205
                      (try rw [← Nbq10.out] at hx205_0)
                      obtain rfl : ad200 = ad205 := (by injection e205)
                      have HR205_2 := Aside0.mk hi205_2
                      have HC205_2 := Aside0.mk hl205_2
                      clear hi205_2 hl205_2
                      replace p205 := eq_true p205
                      replace q205 := eq_true q205
                      go_wp2
                      go_meet
                      case rel => exact ⟨_, ((((rd_T30 l0 x9_1).f1).toList != ([] : List UInt8))), (by first | exact congrArg Value.bool (by cases ((rd_T30 l0 x9_1).f1).toList <;> rfl) | rfl | (simp; done) | (simp [*]; done)), H', ⟨by have := HK1.out; have := HJ4.out; first | omega | exact Nat.le_refl _⟩, by repeat (first | exact Drawn0.refl _ | apply Drawn0.step)⟩
                  case rest =>
                    clear HC12
                    try clear c1
                    try clear q1
                    try clear c2
                    try clear p2
                    try clear q2
                    try clear hx2
                    try clear c4
                    try clear c4b0
                    try clear c6
                    try clear c6b0
                    try clear p6
                    try clear c7
                    try clear c7b0
                    try clear c7b1
                    try clear c7b2
                    try clear c8
                    try clear c8b0
                    try clear c9
                    try clear c9b0
                    try clear q10
                    try clear c11
                    try clear c13
                    try clear c13b0
                    try clear c13b1
                    try clear hx200_0
                    try clear hx200_1
                    try clear hx200_2
                    try clear hx200_3
                    try clear hx205_0
                    try clear hx205_1
                    try clear hx205_2
                    try clear hx205_3
                    try clear p2
                    try clear p200
                    try clear p205
                    try clear q200
                    try clear q205
                    obtain ⟨kq, x61_11, rfl, HA, HJ11, ⟨mc11, rfl⟩⟩ := hcut
                    cases kq with
                    | zero => exact absurd HA.out (by simp [carlingref02_text.j2])
                    | succ kj11 =>
                      have H := HA.out
                      clear HA
                      simp only [carlingref02_text.j2] at H
                      by_cases c14 : x61_11 = true
                      · subst c14
                        have H1 : (some ((⟨#[]⟩ : ByteArray), false)) = some (r1, r2) := by rw [if_pos rfl] at H; exact H
                        clear H
                        have H := H1
                        clear H1
                        simp only [Option.some.injEq, Prod.mk.injEq] at H
                        obtain ⟨rfl, rfl⟩ := H
                        go_wp2
                        go_ret2
                        exact ⟨by first | rfl | (simp; done) | (simp [*]; done), by repeat (first | exact Drawn0.refl _ | apply Drawn0.step)⟩
                      · replace c14 := Bool.eq_false_iff.mpr c14
                        subst c14
                        have H1 : (if 0 ≤ x9_1 then (if x9_1 < (l0.length : Int) then ((carlingref02_text.f kj11 ((rd_T30 l0 x9_1).f2) (⟨#[32]⟩ : ByteArray) (wrap64 (a2 + 1))).bind fun bt207 => (if bt207.2 = true then (if x8_4.size + 1 ≤ 9223372036854775807 then (if (x8_4 ++ (⟨#[40]⟩ : ByteArray)).size + bt207.1.size ≤ 9223372036854775807 then (if ((x8_4 ++ (⟨#[40]⟩ : ByteArray)) ++ bt207.1).size + 1 ≤ 9223372036854775807 then (carlingref02_text.l0 kj11 l0 a1 a2 (((x8_4 ++ (⟨#[40]⟩ : ByteArray)) ++ bt207.1) ++ (⟨#[41]⟩ : ByteArray)) (wrap64 (x9_1 + 1))) else (none)) else (none)) else (none)) else (some ((⟨#[]⟩ : ByteArray), false)))) else (none)) else (none)) = some (r1, r2) := by rw [if_neg (show ¬ (false = true) by decide)] at H; exact H
                        clear H
                        have H := H1
                        clear H1
                        by_cases c15 : 0 ≤ x9_1
                        · rw [if_pos c15] at H
                          have c15b0 : decide (0 ≤ x9_1) = true := decide_eq_true c15
                          clear c15
                          by_cases c16 : x9_1 < (l0.length : Int)
                          · rw [if_pos c16] at H
                            have c16b0 : decide (x9_1 < (l0.length : Int)) = true := decide_eq_true c16
                            clear c16
                            replace H := Option.bind_eq_some_iff.mp H
                            obtain ⟨⟨t207, t208⟩, A170, H⟩ := H
                            replace H : (if t208 = true then (if x8_4.size + 1 ≤ 9223372036854775807 then (if (x8_4 ++ (⟨#[40]⟩ : ByteArray)).size + t207.size ≤ 9223372036854775807 then (if ((x8_4 ++ (⟨#[40]⟩ : ByteArray)) ++ t207).size + 1 ≤ 9223372036854775807 then (carlingref02_text.l0 kj11 l0 a1 a2 (((x8_4 ++ (⟨#[40]⟩ : ByteArray)) ++ t207) ++ (⟨#[41]⟩ : ByteArray)) (wrap64 (x9_1 + 1))) else (none)) else (none)) else (none)) else (some ((⟨#[]⟩ : ByteArray), false))) = some (r1, r2) := H
                            have A17 := Aside0.mk A170
                            clear A170
                            by_cases c18 : t208 = true
                            · subst c18
                              have H1 : (if x8_4.size + 1 ≤ 9223372036854775807 then (if (x8_4 ++ (⟨#[40]⟩ : ByteArray)).size + t207.size ≤ 9223372036854775807 then (if ((x8_4 ++ (⟨#[40]⟩ : ByteArray)) ++ t207).size + 1 ≤ 9223372036854775807 then (carlingref02_text.l0 kj11 l0 a1 a2 (((x8_4 ++ (⟨#[40]⟩ : ByteArray)) ++ t207) ++ (⟨#[41]⟩ : ByteArray)) (wrap64 (x9_1 + 1))) else (none)) else (none)) else (none)) = some (r1, r2) := by rw [if_pos rfl] at H; exact H
                              clear H
                              have H := H1
                              clear H1
                              by_cases c19 : x8_4.size + 1 ≤ 9223372036854775807
                              · rw [if_pos c19] at H
                                have c19b0 := eq_true c19
                                have c19b1 : decide (x8_4.size + 1 ≤ 9223372036854775807) = true := decide_eq_true c19
                                try have c19b2 : (9223372036854775807 < x8_4.size + 1) = False := eq_false (Nat.not_lt.2 c19)
                                by_cases c20 : (x8_4 ++ (⟨#[40]⟩ : ByteArray)).size + t207.size ≤ 9223372036854775807
                                · rw [if_pos c20] at H
                                  have c20b0 := eq_true c20
                                  have c20b1 : decide ((x8_4 ++ (⟨#[40]⟩ : ByteArray)).size + t207.size ≤ 9223372036854775807) = true := decide_eq_true c20
                                  try have c20b2 : (9223372036854775807 < (x8_4 ++ (⟨#[40]⟩ : ByteArray)).size + t207.size) = False := eq_false (Nat.not_lt.2 c20)
                                  by_cases c21 : ((x8_4 ++ (⟨#[40]⟩ : ByteArray)) ++ t207).size + 1 ≤ 9223372036854775807
                                  · rw [if_pos c21] at H
                                    have c21b0 := eq_true c21
                                    have c21b1 : decide (((x8_4 ++ (⟨#[40]⟩ : ByteArray)) ++ t207).size + 1 ≤ 9223372036854775807) = true := decide_eq_true c21
                                    try have c21b2 : (9223372036854775807 < ((x8_4 ++ (⟨#[40]⟩ : ByteArray)) ++ t207).size + 1) = False := eq_false (Nat.not_lt.2 c21)
                                    have c21b3 : (9223372036854775807 < x8_4.size + 1 + t207.size + 1) = False := eq_false (by have z := c21; rw [ByteArray.size_append, ByteArray.size_append] at z; exact Nat.not_lt.2 z)
                                    have H' := Aside0.mk H
                                    clear H
                                    have p206 : 0 ≤ (x9_1 : Int) := of_decide_eq_true (by first | (with_reducible assumption) | assumption)
                                    have q206 : x9_1 < (l0.length : Int) := of_decide_eq_true (by first | (with_reducible assumption) | assumption)
                                    obtain ⟨ad206, A206_2, c206_2, e206, hx206_0, hx206_1, hx206_2, hx206_3, hl206_2, hi206_2⟩ := at_T30 HR0.out x9_1 p206 q206
                                    (try rw [← Nbq10.out] at hx206_0)
                                    obtain rfl : ad200 = ad206 := (by injection e206)
                                    have HR206_2 := Aside0.mk hi206_2
                                    have HC206_2 := Aside0.mk hl206_2
                                    clear hi206_2 hl206_2
                                    replace p206 := eq_true p206
                                    replace q206 := eq_true q206
                                    go_wp2_with (first | ((with_reducible refine gate_callee (f := 27) rfl ?_); refine goesL_ (some 70) rfl rfl Try.func27 (by kernel_rfl) rfl #[.slice A206_2 ((rd_T30 l0 x9_1).f2).length c206_2, .string (⟨#[32]⟩ : ByteArray), .int .i64 (wrap64 (a2 + 1))] rfl (by (try simp only [List.map_toArray, List.map_cons, List.map_nil]); first | done | rfl | (simp only [List.length_drop, List.length_take]; rfl)) ?_; (with_reducible refine (ih kj11 (by have := HK1.out; have := HJ4.out; have := HJ11.out; omega) _ _ ((rd_T30 l0 x9_1).f2) (⟨#[32]⟩ : ByteArray) (wrap64 (a2 + 1)) t207 true _ ?side1 ?side2 A17.out).mono ?_); (case side1 => repeat (first | exact HR206_2.out | (with_reducible refine Kd.C_alloc ?_ _) | (with_reducible refine Kd.C_drewN ?_ _) | (with_reducible refine Kd.C_drew ?_))); (case side2 => exact HC206_2.out); rintro e w' ⟨rfl, ⟨nd, rfl⟩⟩; refine ⟨_, rfl, ?_⟩))
                                    go_roundg kj11
                                    case measure => have := HK1.out; have := HJ4.out; have := HJ11.out; omega
                                    case rel => exact ⟨(((x8_4 ++ (⟨#[40]⟩ : ByteArray)) ++ t207) ++ (⟨#[41]⟩ : ByteArray)), (wrap64 (x9_1 + 1)), (by first | rfl | (simp; done) | (simp [*]; done)), (by first | rfl | (simp; done) | (simp [*]; done)), H', ⟨by have := HK1.out; have := HJ4.out; have := HJ11.out; omega⟩, by repeat (first | exact Drawn0.refl _ | apply Drawn0.step)⟩
                                  · rw [if_neg c21] at H
                                    exact absurd H (by simp)
                                · rw [if_neg c20] at H
                                  exact absurd H (by simp)
                              · rw [if_neg c19] at H
                                exact absurd H (by simp)
                            · replace c18 := Bool.eq_false_iff.mpr c18
                              subst c18
                              have H1 : (some ((⟨#[]⟩ : ByteArray), false)) = some (r1, r2) := by rw [if_neg (show ¬ (false = true) by decide)] at H; exact H
                              clear H
                              have H := H1
                              clear H1
                              simp only [Option.some.injEq, Prod.mk.injEq] at H
                              obtain ⟨rfl, rfl⟩ := H
                              have p206 : 0 ≤ (x9_1 : Int) := of_decide_eq_true (by first | (with_reducible assumption) | assumption)
                              have q206 : x9_1 < (l0.length : Int) := of_decide_eq_true (by first | (with_reducible assumption) | assumption)
                              obtain ⟨ad206, A206_2, c206_2, e206, hx206_0, hx206_1, hx206_2, hx206_3, hl206_2, hi206_2⟩ := at_T30 HR0.out x9_1 p206 q206
                              (try rw [← Nbq10.out] at hx206_0)
                              obtain rfl : ad200 = ad206 := (by injection e206)
                              have HR206_2 := Aside0.mk hi206_2
                              have HC206_2 := Aside0.mk hl206_2
                              clear hi206_2 hl206_2
                              replace p206 := eq_true p206
                              replace q206 := eq_true q206
                              go_wp2_with (first | ((with_reducible refine gate_callee (f := 27) rfl ?_); refine goesL_ (some 70) rfl rfl Try.func27 (by kernel_rfl) rfl #[.slice A206_2 ((rd_T30 l0 x9_1).f2).length c206_2, .string (⟨#[32]⟩ : ByteArray), .int .i64 (wrap64 (a2 + 1))] rfl (by (try simp only [List.map_toArray, List.map_cons, List.map_nil]); first | done | rfl | (simp only [List.length_drop, List.length_take]; rfl)) ?_; (with_reducible refine (ih kj11 (by have := HK1.out; have := HJ4.out; have := HJ11.out; omega) _ _ ((rd_T30 l0 x9_1).f2) (⟨#[32]⟩ : ByteArray) (wrap64 (a2 + 1)) t207 false _ ?side1 ?side2 A17.out).mono ?_); (case side1 => repeat (first | exact HR206_2.out | (with_reducible refine Kd.C_alloc ?_ _) | (with_reducible refine Kd.C_drewN ?_ _) | (with_reducible refine Kd.C_drew ?_))); (case side2 => exact HC206_2.out); rintro e w' ⟨rfl, ⟨nd, rfl⟩⟩; refine ⟨_, rfl, ?_⟩))
                              go_ret2
                              exact ⟨by first | rfl | (simp; done) | (simp [*]; done), by repeat (first | exact Drawn0.refl _ | apply Drawn0.step)⟩
                          · rw [if_neg c16] at H
                            exact absurd H (by simp)
                        · rw [if_neg c15] at H
                          exact absurd H (by simp)
                · replace c11 := Bool.eq_false_iff.mpr c11
                  subst c11
                  have H1 : (if (((rd_T30 l0 x9_1).f2).length : Int) > 0 then (some ((⟨#[]⟩ : ByteArray), false)) else ((carlingref02_Word.f kj4 ((rd_T30 l0 x9_1).f1)).bind fun t203 => (if t203 = true then (if x8_4.size + ((rd_T30 l0 x9_1).f1).size ≤ 9223372036854775807 then (carlingref02_text.l0 kj4 l0 a1 a2 (x8_4 ++ ((rd_T30 l0 x9_1).f1)) (wrap64 (x9_1 + 1))) else (none)) else (some ((⟨#[]⟩ : ByteArray), false))))) = some (r1, r2) := by rw [if_neg (show ¬ (false = true) by decide)] at H; exact H
                  clear H
                  have H := H1
                  clear H1
                  by_cases c22 : (((rd_T30 l0 x9_1).f2).length : Int) > 0
                  · rw [if_pos c22] at H
                    have c22b0 : decide (0 < (((rd_T30 l0 x9_1).f2).length : Int)) = true := decide_eq_true c22
                    have c22b1 : decide (0 < ((rd_T30 l0 x9_1).f2).length) = true := decide_eq_true (by omega)
                    clear c22
                    simp only [Option.some.injEq, Prod.mk.injEq] at H
                    obtain ⟨rfl, rfl⟩ := H
                    have p200 : 0 ≤ (x9_1 : Int) := of_decide_eq_true (by first | (with_reducible assumption) | assumption)
                    have q200 : x9_1 < (l0.length : Int) := of_decide_eq_true (by first | (with_reducible assumption) | assumption)
                    obtain ⟨ad200, A200_2, c200_2, e200, hx200_0, hx200_1, hx200_2, hx200_3, hl200_2, hi200_2⟩ := at_T30 HR0.out x9_1 p200 q200
                    (try rw [← Nbq10.out] at hx200_0)
                    cases e200
                    have HR200_2 := Aside0.mk hi200_2
                    have HC200_2 := Aside0.mk hl200_2
                    clear hi200_2 hl200_2
                    replace p200 := eq_true p200
                    replace q200 := eq_true q200
                    have p201 : 0 ≤ (x9_1 : Int) := of_decide_eq_true (by first | (with_reducible assumption) | assumption)
                    have q201 : x9_1 < (l0.length : Int) := of_decide_eq_true (by first | (with_reducible assumption) | assumption)
                    obtain ⟨ad201, A201_2, c201_2, e201, hx201_0, hx201_1, hx201_2, hx201_3, hl201_2, hi201_2⟩ := at_T30 HR0.out x9_1 p201 q201
                    (try rw [← Nbq10.out] at hx201_0)
                    obtain rfl : ad200 = ad201 := (by injection e201)
                    have HR201_2 := Aside0.mk hi201_2
                    have HC201_2 := Aside0.mk hl201_2
                    clear hi201_2 hl201_2
                    replace p201 := eq_true p201
                    replace q201 := eq_true q201
                    have ea_ := Option.some.inj (hx200_2.symm.trans hx201_2)
                    injection ea_ with ea_ en_ ec_
                    subst ea_
                    subst ec_
                    clear en_
                    go_wp2
                    go_ret2
                    exact ⟨by first | rfl | (simp; done) | (simp [*]; done), by repeat (first | exact Drawn0.refl _ | apply Drawn0.step)⟩
                  · rw [if_neg c22] at H
                    have c22b0 : decide (0 < (((rd_T30 l0 x9_1).f2).length : Int)) = false := decide_eq_false c22
                    have c22b1 : decide (0 < ((rd_T30 l0 x9_1).f2).length) = false := decide_eq_false (by omega)
                    clear c22
                    replace H := Option.bind_eq_some_iff.mp H
                    obtain ⟨t203, A230, H⟩ := H
                    replace H : (if t203 = true then (if x8_4.size + ((rd_T30 l0 x9_1).f1).size ≤ 9223372036854775807 then (carlingref02_text.l0 kj4 l0 a1 a2 (x8_4 ++ ((rd_T30 l0 x9_1).f1)) (wrap64 (x9_1 + 1))) else (none)) else (some ((⟨#[]⟩ : ByteArray), false))) = some (r1, r2) := H
                    have A23 := Aside0.mk A230
                    clear A230
                    by_cases c24 : t203 = true
                    · subst c24
                      have H1 : (if x8_4.size + ((rd_T30 l0 x9_1).f1).size ≤ 9223372036854775807 then (carlingref02_text.l0 kj4 l0 a1 a2 (x8_4 ++ ((rd_T30 l0 x9_1).f1)) (wrap64 (x9_1 + 1))) else (none)) = some (r1, r2) := by rw [if_pos rfl] at H; exact H
                      clear H
                      have H := H1
                      clear H1
                      by_cases c25 : x8_4.size + ((rd_T30 l0 x9_1).f1).size ≤ 9223372036854775807
                      · rw [if_pos c25] at H
                        have c25b0 := eq_true c25
                        have c25b1 : decide (x8_4.size + ((rd_T30 l0 x9_1).f1).size ≤ 9223372036854775807) = true := decide_eq_true c25
                        try have c25b2 : (9223372036854775807 < x8_4.size + ((rd_T30 l0 x9_1).f1).size) = False := eq_false (Nat.not_lt.2 c25)
                        have H' := Aside0.mk H
                        clear H
                        have p200 : 0 ≤ (x9_1 : Int) := of_decide_eq_true (by first | (with_reducible assumption) | assumption)
                        have q200 : x9_1 < (l0.length : Int) := of_decide_eq_true (by first | (with_reducible assumption) | assumption)
                        obtain ⟨ad200, A200_2, c200_2, e200, hx200_0, hx200_1, hx200_2, hx200_3, hl200_2, hi200_2⟩ := at_T30 HR0.out x9_1 p200 q200
                        (try rw [← Nbq10.out] at hx200_0)
                        cases e200
                        have HR200_2 := Aside0.mk hi200_2
                        have HC200_2 := Aside0.mk hl200_2
                        clear hi200_2 hl200_2
                        replace p200 := eq_true p200
                        replace q200 := eq_true q200
                        have p201 : 0 ≤ (x9_1 : Int) := of_decide_eq_true (by first | (with_reducible assumption) | assumption)
                        have q201 : x9_1 < (l0.length : Int) := of_decide_eq_true (by first | (with_reducible assumption) | assumption)
                        obtain ⟨ad201, A201_2, c201_2, e201, hx201_0, hx201_1, hx201_2, hx201_3, hl201_2, hi201_2⟩ := at_T30 HR0.out x9_1 p201 q201
                        (try rw [← Nbq10.out] at hx201_0)
                        obtain rfl : ad200 = ad201 := (by injection e201)
                        have HR201_2 := Aside0.mk hi201_2
                        have HC201_2 := Aside0.mk hl201_2
                        clear hi201_2 hl201_2
                        replace p201 := eq_true p201
                        replace q201 := eq_true q201
                        have ea_ := Option.some.inj (hx200_2.symm.trans hx201_2)
                        injection ea_ with ea_ en_ ec_
                        subst ea_
                        subst ec_
                        clear en_
                        have p202 : 0 ≤ (x9_1 : Int) := of_decide_eq_true (by first | (with_reducible assumption) | assumption)
                        have q202 : x9_1 < (l0.length : Int) := of_decide_eq_true (by first | (with_reducible assumption) | assumption)
                        obtain ⟨ad202, A202_2, c202_2, e202, hx202_0, hx202_1, hx202_2, hx202_3, hl202_2, hi202_2⟩ := at_T30 HR0.out x9_1 p202 q202
                        (try rw [← Nbq10.out] at hx202_0)
                        obtain rfl : ad200 = ad202 := (by injection e202)
                        have HR202_2 := Aside0.mk hi202_2
                        have HC202_2 := Aside0.mk hl202_2
                        clear hi202_2 hl202_2
                        replace p202 := eq_true p202
                        replace q202 := eq_true q202
                        have ea_ := Option.some.inj (hx200_2.symm.trans hx202_2)
                        injection ea_ with ea_ en_ ec_
                        subst ea_
                        subst ec_
                        clear en_
                        go_wp2_with (first | (go_at_call 18; (with_reducible refine (carlingref02_Word.calls kj4 ((rd_T30 l0 x9_1).f1) true _ A23.out).mono ?_); rintro e w' ⟨rfl, ⟨nd, rfl⟩⟩; have p204 : 0 ≤ (x9_1 : Int) := of_decide_eq_true (by first | (with_reducible assumption) | assumption); have q204 : x9_1 < (l0.length : Int) := of_decide_eq_true (by first | (with_reducible assumption) | assumption); obtain ⟨ad204, A204_2, c204_2, e204, hx204_0, hx204_1, hx204_2, hx204_3, hl204_2, hi204_2⟩ := at_T30 HR0.out x9_1 p204 q204; (try rw [← Nbq10.out] at hx204_0); obtain rfl : ad200 = ad204 := (by injection e204); have HR204_2 := Aside0.mk hi204_2; have HC204_2 := Aside0.mk hl204_2; clear hi204_2 hl204_2; replace p204 := eq_true p204; replace q204 := eq_true q204; have ea_ := Option.some.inj (hx200_2.symm.trans hx204_2); injection ea_ with ea_ en_ ec_; subst ea_; subst ec_; clear en_))
                        go_roundg kj4
                        case measure => have := HK1.out; have := HJ4.out; omega
                        case rel => exact ⟨(x8_4 ++ ((rd_T30 l0 x9_1).f1)), (wrap64 (x9_1 + 1)), (by first | rfl | (simp; done) | (simp [*]; done)), (by first | rfl | (simp; done) | (simp [*]; done)), H', ⟨by have := HK1.out; have := HJ4.out; omega⟩, by repeat (first | exact Drawn0.refl _ | apply Drawn0.step)⟩
                      · rw [if_neg c25] at H
                        exact absurd H (by simp)
                    · replace c24 := Bool.eq_false_iff.mpr c24
                      subst c24
                      have H1 : (some ((⟨#[]⟩ : ByteArray), false)) = some (r1, r2) := by rw [if_neg (show ¬ (false = true) by decide)] at H; exact H
                      clear H
                      have H := H1
                      clear H1
                      simp only [Option.some.injEq, Prod.mk.injEq] at H
                      obtain ⟨rfl, rfl⟩ := H
                      have p200 : 0 ≤ (x9_1 : Int) := of_decide_eq_true (by first | (with_reducible assumption) | assumption)
                      have q200 : x9_1 < (l0.length : Int) := of_decide_eq_true (by first | (with_reducible assumption) | assumption)
                      obtain ⟨ad200, A200_2, c200_2, e200, hx200_0, hx200_1, hx200_2, hx200_3, hl200_2, hi200_2⟩ := at_T30 HR0.out x9_1 p200 q200
                      (try rw [← Nbq10.out] at hx200_0)
                      cases e200
                      have HR200_2 := Aside0.mk hi200_2
                      have HC200_2 := Aside0.mk hl200_2
                      clear hi200_2 hl200_2
                      replace p200 := eq_true p200
                      replace q200 := eq_true q200
                      have p201 : 0 ≤ (x9_1 : Int) := of_decide_eq_true (by first | (with_reducible assumption) | assumption)
                      have q201 : x9_1 < (l0.length : Int) := of_decide_eq_true (by first | (with_reducible assumption) | assumption)
                      obtain ⟨ad201, A201_2, c201_2, e201, hx201_0, hx201_1, hx201_2, hx201_3, hl201_2, hi201_2⟩ := at_T30 HR0.out x9_1 p201 q201
                      (try rw [← Nbq10.out] at hx201_0)
                      obtain rfl : ad200 = ad201 := (by injection e201)
                      have HR201_2 := Aside0.mk hi201_2
                      have HC201_2 := Aside0.mk hl201_2
                      clear hi201_2 hl201_2
                      replace p201 := eq_true p201
                      replace q201 := eq_true q201
                      have ea_ := Option.some.inj (hx200_2.symm.trans hx201_2)
                      injection ea_ with ea_ en_ ec_
                      subst ea_
                      subst ec_
                      clear en_
                      have p202 : 0 ≤ (x9_1 : Int) := of_decide_eq_true (by first | (with_reducible assumption) | assumption)
                      have q202 : x9_1 < (l0.length : Int) := of_decide_eq_true (by first | (with_reducible assumption) | assumption)
                      obtain ⟨ad202, A202_2, c202_2, e202, hx202_0, hx202_1, hx202_2, hx202_3, hl202_2, hi202_2⟩ := at_T30 HR0.out x9_1 p202 q202
                      (try rw [← Nbq10.out] at hx202_0)
                      obtain rfl : ad200 = ad202 := (by injection e202)
                      have HR202_2 := Aside0.mk hi202_2
                      have HC202_2 := Aside0.mk hl202_2
                      clear hi202_2 hl202_2
                      replace p202 := eq_true p202
                      replace q202 := eq_true q202
                      have ea_ := Option.some.inj (hx200_2.symm.trans hx202_2)
                      injection ea_ with ea_ en_ ec_
                      subst ea_
                      subst ec_
                      clear en_
                      go_wp2_with (first | (go_at_call 18; (with_reducible refine (carlingref02_Word.calls kj4 ((rd_T30 l0 x9_1).f1) false _ A23.out).mono ?_); rintro e w' ⟨rfl, ⟨nd, rfl⟩⟩))
                      go_ret2
                      exact ⟨by first | rfl | (simp; done) | (simp [*]; done), by repeat (first | exact Drawn0.refl _ | apply Drawn0.step)⟩
              · rw [if_neg c9] at H
                exact absurd H (by simp)
            · rw [if_neg c8] at H
              exact absurd H (by simp)
      · rw [if_neg c4] at H
        have c4b0 : decide (x9_1 < (l0.length : Int)) = false := decide_eq_false c4
        clear c4
        simp only [Option.some.injEq, Prod.mk.injEq] at H
        obtain ⟨rfl, rfl⟩ := H
        go_wp2
        go_ret2
        exact ⟨by first | rfl | (simp; done) | (simp [*]; done), by repeat (first | exact Drawn0.refl _ | apply Drawn0.step)⟩

end Go.Proofs.Ytciojbdkoojlhaa.P
