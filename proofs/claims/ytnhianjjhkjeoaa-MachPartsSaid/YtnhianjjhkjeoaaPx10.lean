/- Written by a program of this session (gp.py), which drives the printer of the kit: contracts of Go functions over the translation, and the rows of laws: each says what its theorems state. Conditions: as each theorem states them. -/
import Derived.Test.YtnhianjjhkjeoaaPx0
import Derived.Test.YtnhianjjhkjeoaaPx7
namespace Go.Proofs.Ytnhianjjhkjeoaa.P
open Go.RowKit Go.Proofs.YtnhianjjhkjeoaaW.PrintWords Go.Proofs.YtnhianjjhkjeoaaW.PrintLast Go.Proofs.YtnhianjjhkjeoaaW.PrintMore
attribute [local go_sem] max2_int min2_int max_two min_two max_three min_three max_four min_four   -- for this text's walks alone
set_option linter.unusedVariables false
set_option linter.unusedSimpArgs false

/-! ### carlingref13_Check: function 15 -/
mutual
def carlingref13_Check.j0 : Nat → List (S31) → Int → Bool → Option (Int × Int)
  | 0, _, _, _ => none
  | k + 1, x0, x1, x23 => if x23 = true then (some (6, (-1))) else (carlingref13_Check.l0 k x0 x1 0)
def carlingref13_Check.l0 : Nat → List (S31) → Int → Int → Option (Int × Int)
  | 0, _, _, _ => none
  | k + 1, x0, x1, x6 => if x6 < (x0.length : Int) then (if 0 ≤ x6 then ((carlingref13_Right.f k ((rd_T31 x0 x6).f0) ((rd_T31 x0 x6).f1) ((rd_T31 x0 x6).f2) ((rd_T31 x0 x6).f3) ((rd_T31 x0 x6).f4) ((rd_T31 x0 x6).f5)).bind fun t151 => (if t151 = true then (if ((rd_T31 x0 x6).f0) = 4 then (carlingref13_Check.j2 k x0 x1 x6 (decide ((IntKind.u64.wrap ((rd_T31 x0 x6).f5)) ≥ (IntKind.u64.wrap (x1)))) ((rd_T31 x0 x6).f0) ((rd_T31 x0 x6).f1) ((rd_T31 x0 x6).f2) ((rd_T31 x0 x6).f3) ((rd_T31 x0 x6).f4) ((rd_T31 x0 x6).f5)) else (if ((rd_T31 x0 x6).f0) = 5 then (carlingref13_Check.j2 k x0 x1 x6 (decide ((IntKind.u64.wrap ((rd_T31 x0 x6).f5)) ≥ (IntKind.u64.wrap (x1)))) ((rd_T31 x0 x6).f0) ((rd_T31 x0 x6).f1) ((rd_T31 x0 x6).f2) ((rd_T31 x0 x6).f3) ((rd_T31 x0 x6).f4) ((rd_T31 x0 x6).f5)) else (carlingref13_Check.j2 k x0 x1 x6 false ((rd_T31 x0 x6).f0) ((rd_T31 x0 x6).f1) ((rd_T31 x0 x6).f2) ((rd_T31 x0 x6).f3) ((rd_T31 x0 x6).f4) ((rd_T31 x0 x6).f5)))) else (some (14, x6)))) else (none)) else (some (0, (-1)))
def carlingref13_Check.j2 : Nat → List (S31) → Int → Int → Bool → Int → Int → Int → Int → Int → Int → Option (Int × Int)
  | 0, _, _, _, _, _, _, _, _, _, _ => none
  | k + 1, x0, x1, x6, x53, x151000, x151001, x151002, x151003, x151004, x151005 => if x53 = true then (some (16, x6)) else (if x151000 ≥ 6 then (if x151000 ≤ 8 then (carlingref13_Check.j3 k x0 x1 x6 (decide ((IntKind.u64.wrap (x151005)) ≥ (IntKind.u64.wrap ((x0.length : Int))))) x151000 x151001 x151002 x151003 x151004 x151005) else (carlingref13_Check.j3 k x0 x1 x6 false x151000 x151001 x151002 x151003 x151004 x151005)) else (carlingref13_Check.j3 k x0 x1 x6 false x151000 x151001 x151002 x151003 x151004 x151005))
def carlingref13_Check.j3 : Nat → List (S31) → Int → Int → Bool → Int → Int → Int → Int → Int → Int → Option (Int × Int)
  | 0, _, _, _, _, _, _, _, _, _, _ => none
  | k + 1, x0, x1, x6, x71, x151000, x151001, x151002, x151003, x151004, x151005 => if x71 = true then (some (17, x6)) else (if x6 = (wrap64 ((x0.length : Int) - 1)) then (if x151000 = 6 then (carlingref13_Check.l0 k x0 x1 (wrap64 (x6 + 1))) else (if x151000 = 9 then (carlingref13_Check.l0 k x0 x1 (wrap64 (x6 + 1))) else (some (18, x6)))) else (carlingref13_Check.l0 k x0 x1 (wrap64 (x6 + 1))))
end
def carlingref13_Check.f (k : Nat) (l0 : List (S31)) (a1 : Int) : Option (Int × Int) := if (l0.length : Int) = 0 then (carlingref13_Check.j0 k l0 a1 true) else (if (l0.length : Int) > 20000 then (carlingref13_Check.j0 k l0 a1 true) else (if a1 < 0 then (carlingref13_Check.j0 k l0 a1 true) else (carlingref13_Check.j0 k l0 a1 (decide (a1 > 4096)))))
theorem carlingref13_Check.mono_l : ∀ k, (∀ y0 y1 y2, LeO (carlingref13_Check.j0 k y0 y1 y2) (carlingref13_Check.j0 (k + 1) y0 y1 y2)) ∧ (∀ y0 y1 y2, LeO (carlingref13_Check.l0 k y0 y1 y2) (carlingref13_Check.l0 (k + 1) y0 y1 y2)) ∧ (∀ y0 y1 y2 y3 y4 y5 y6 y7 y8 y9, LeO (carlingref13_Check.j2 k y0 y1 y2 y3 y4 y5 y6 y7 y8 y9) (carlingref13_Check.j2 (k + 1) y0 y1 y2 y3 y4 y5 y6 y7 y8 y9)) ∧ (∀ y0 y1 y2 y3 y4 y5 y6 y7 y8 y9, LeO (carlingref13_Check.j3 k y0 y1 y2 y3 y4 y5 y6 y7 y8 y9) (carlingref13_Check.j3 (k + 1) y0 y1 y2 y3 y4 y5 y6 y7 y8 y9))
  | 0 => ⟨fun _ _ _ r h => by simp [carlingref13_Check.j0] at h, fun _ _ _ r h => by simp [carlingref13_Check.l0] at h, fun _ _ _ _ _ _ _ _ _ _ r h => by simp [carlingref13_Check.j2] at h, fun _ _ _ _ _ _ _ _ _ _ r h => by simp [carlingref13_Check.j3] at h⟩
  | k + 1 => by
    obtain ⟨ih0, ih1, ih2, ih3⟩ := carlingref13_Check.mono_l k
    refine ⟨?_, ?_, ?_, ?_⟩
    · intro y0 y1 y2
      unfold carlingref13_Check.j0
      repeat' first
      | (with_reducible exact ih0 _ _ _)
      | (with_reducible exact ih1 _ _ _)
      | (with_reducible exact ih2 _ _ _ _ _ _ _ _ _ _)
      | (with_reducible exact ih3 _ _ _ _ _ _ _ _ _ _)
      | (with_reducible exact carlingref13_Right.mono _ _ _ _ _ _ _)
      | (with_reducible exact LeO.refl _)
      | (with_reducible exact LeO.none _)
      | (with_reducible refine LeO.ite ?_ ?_)
      | (with_reducible refine LeO.bind ?_ (fun _ => ?_))
      | exact ih0 _ _ _
      | exact ih1 _ _ _
      | exact ih2 _ _ _ _ _ _ _ _ _ _
      | exact ih3 _ _ _ _ _ _ _ _ _ _
      | exact carlingref13_Right.mono _ _ _ _ _ _ _
      | exact LeO.none _
      | refine LeO.ite ?_ ?_
      | refine LeO.bind ?_ (fun _ => ?_)
    · intro y0 y1 y2
      unfold carlingref13_Check.l0
      repeat' first
      | (with_reducible exact ih0 _ _ _)
      | (with_reducible exact ih1 _ _ _)
      | (with_reducible exact ih2 _ _ _ _ _ _ _ _ _ _)
      | (with_reducible exact ih3 _ _ _ _ _ _ _ _ _ _)
      | (with_reducible exact carlingref13_Right.mono _ _ _ _ _ _ _)
      | (with_reducible exact LeO.refl _)
      | (with_reducible exact LeO.none _)
      | (with_reducible refine LeO.ite ?_ ?_)
      | (with_reducible refine LeO.bind ?_ (fun _ => ?_))
      | exact ih0 _ _ _
      | exact ih1 _ _ _
      | exact ih2 _ _ _ _ _ _ _ _ _ _
      | exact ih3 _ _ _ _ _ _ _ _ _ _
      | exact carlingref13_Right.mono _ _ _ _ _ _ _
      | exact LeO.none _
      | refine LeO.ite ?_ ?_
      | refine LeO.bind ?_ (fun _ => ?_)
    · intro y0 y1 y2 y3 y4 y5 y6 y7 y8 y9
      unfold carlingref13_Check.j2
      repeat' first
      | (with_reducible exact ih0 _ _ _)
      | (with_reducible exact ih1 _ _ _)
      | (with_reducible exact ih2 _ _ _ _ _ _ _ _ _ _)
      | (with_reducible exact ih3 _ _ _ _ _ _ _ _ _ _)
      | (with_reducible exact carlingref13_Right.mono _ _ _ _ _ _ _)
      | (with_reducible exact LeO.refl _)
      | (with_reducible exact LeO.none _)
      | (with_reducible refine LeO.ite ?_ ?_)
      | (with_reducible refine LeO.bind ?_ (fun _ => ?_))
      | exact ih0 _ _ _
      | exact ih1 _ _ _
      | exact ih2 _ _ _ _ _ _ _ _ _ _
      | exact ih3 _ _ _ _ _ _ _ _ _ _
      | exact carlingref13_Right.mono _ _ _ _ _ _ _
      | exact LeO.none _
      | refine LeO.ite ?_ ?_
      | refine LeO.bind ?_ (fun _ => ?_)
    · intro y0 y1 y2 y3 y4 y5 y6 y7 y8 y9
      unfold carlingref13_Check.j3
      repeat' first
      | (with_reducible exact ih0 _ _ _)
      | (with_reducible exact ih1 _ _ _)
      | (with_reducible exact ih2 _ _ _ _ _ _ _ _ _ _)
      | (with_reducible exact ih3 _ _ _ _ _ _ _ _ _ _)
      | (with_reducible exact carlingref13_Right.mono _ _ _ _ _ _ _)
      | (with_reducible exact LeO.refl _)
      | (with_reducible exact LeO.none _)
      | (with_reducible refine LeO.ite ?_ ?_)
      | (with_reducible refine LeO.bind ?_ (fun _ => ?_))
      | exact ih0 _ _ _
      | exact ih1 _ _ _
      | exact ih2 _ _ _ _ _ _ _ _ _ _
      | exact ih3 _ _ _ _ _ _ _ _ _ _
      | exact carlingref13_Right.mono _ _ _ _ _ _ _
      | exact LeO.none _
      | refine LeO.ite ?_ ?_
      | refine LeO.bind ?_ (fun _ => ?_)
theorem carlingref13_Check.mono : ∀ a0 a1 k, LeO (carlingref13_Check.f k a0 a1) (carlingref13_Check.f (k + 1) a0 a1) := by
  intro a0 a1 k
  obtain ⟨ih0, ih1, ih2, ih3⟩ := carlingref13_Check.mono_l k
  unfold carlingref13_Check.f
  repeat' first
      | (with_reducible exact ih0 _ _ _)
      | (with_reducible exact ih1 _ _ _)
      | (with_reducible exact ih2 _ _ _ _ _ _ _ _ _ _)
      | (with_reducible exact ih3 _ _ _ _ _ _ _ _ _ _)
      | (with_reducible exact carlingref13_Right.mono _ _ _ _ _ _ _)
      | (with_reducible exact LeO.refl _)
      | (with_reducible exact LeO.none _)
      | (with_reducible refine LeO.ite ?_ ?_)
      | (with_reducible refine LeO.bind ?_ (fun _ => ?_))
      | exact ih0 _ _ _
      | exact ih1 _ _ _
      | exact ih2 _ _ _ _ _ _ _ _ _ _
      | exact ih3 _ _ _ _ _ _ _ _ _ _
      | exact carlingref13_Right.mono _ _ _ _ _ _ _
      | exact LeO.none _
      | refine LeO.ite ?_ ?_
      | refine LeO.bind ?_ (fun _ => ?_)
set_option maxHeartbeats 8000000 in
set_option maxRecDepth 100000 in
theorem carlingref13_Check.calls (k : Nat) (A0 : Option Addr) (c0 : Nat) (l0 : List (S31)) (a1 : Int) (r1 : Int) (r2 : Int) (w : World) (hr0 : Kd.C k31 w A0 l0.length l0) (hc0 : l0.length ≤ c0) (h : carlingref13_Check.f k l0 a1 = some (r1, r2)) :
    Calls Try.prog 15 #[.slice A0 l0.length c0, .int .i64 a1] w fun e w' => e = .returned (.tuple #[.int .i64 r1, .int .i64 r2]) ∧ Below w.heap.size w w' := by
  have hu31 := Try.underlying31
  have HR0 := Aside0.mk hr0
  have HC0 := Aside0.mk hc0
  clear hr0 hc0
  have HB := Aside0.mk (Below.refl w.heap.size w)
  have H : (if (l0.length : Int) = 0 then (carlingref13_Check.j0 k l0 a1 true) else (if (l0.length : Int) > 20000 then (carlingref13_Check.j0 k l0 a1 true) else (if a1 < 0 then (carlingref13_Check.j0 k l0 a1 true) else (carlingref13_Check.j0 k l0 a1 (decide (a1 > 4096)))))) = some (r1, r2) := h
  clear h
  have HC3 := Aside0.mk H
  clear H
  go_enter Try.func15, Try.ntmps15
  go_upto_region 1 with (fail)
  go_cut [23] (fun v23 wc => ∃ (kq : Nat) (x23_2 : Bool), v23 = .bool x23_2 ∧ Aside0 (carlingref13_Check.j0 kq l0 a1 x23_2 = some (r1, r2)) ∧ Aside0 (kq ≤ k) ∧ Aside0 (Below w.heap.size w wc))
  case first =>
    have H := HC3.out
    clear HC3
    by_cases c4 : (l0.length : Int) = 0
    · rw [if_pos c4] at H
      have c4b0 : ((l0.length : Int) == 0) = true := beq_iff_eq.mpr c4
      have c4b1 : ((l0.length : Int) != 0) = false := bne_eq_false_iff_eq.mpr c4
      clear c4
      (first | rw [c4b0] | (simp only [i64_w, i32_w]; rw [c4b0]) | skip)
      have H' := Aside0.mk H
      clear H
      go_wp2
      go_meet
      case rel => exact ⟨_, (true), (by first | rfl | (simp; done) | (simp [*]; done)), H', ⟨by first | omega | exact Nat.le_refl _⟩, ⟨by repeat (first | (with_reducible first | exact HB.out | apply below_alloc | apply pw_below_drewN | apply below_drew1) | exact HB.out)⟩⟩
    · rw [if_neg c4] at H
      have c4b0 : ((l0.length : Int) == 0) = false := beq_eq_false_iff_ne.mpr c4
      have c4b1 : ((l0.length : Int) != 0) = true := bne_iff_ne.mpr c4
      have c4b2 : ¬ (l0 = []) := fun h_ => c4 (by rw [h_]; rfl)
      (first | rw [c4b0] | (simp only [i64_w, i32_w]; rw [c4b0]) | skip)
      by_cases c5 : (l0.length : Int) > 20000
      · rw [if_pos c5] at H
        have c5b0 : decide (20000 < (l0.length : Int)) = true := decide_eq_true c5
        have c5b1 : decide (20000 < l0.length) = true := decide_eq_true (by omega)
        clear c5
        have H' := Aside0.mk H
        clear H
        go_wp2
        go_meet
        case rel => exact ⟨_, (true), (by first | rfl | (simp; done) | (simp [*]; done)), H', ⟨by first | omega | exact Nat.le_refl _⟩, ⟨by repeat (first | (with_reducible first | exact HB.out | apply below_alloc | apply pw_below_drewN | apply below_drew1) | exact HB.out)⟩⟩
      · rw [if_neg c5] at H
        have c5b0 : decide (20000 < (l0.length : Int)) = false := decide_eq_false c5
        have c5b1 : decide (20000 < l0.length) = false := decide_eq_false (by omega)
        clear c5
        by_cases c6 : a1 < 0
        · rw [if_pos c6] at H
          have c6b0 : decide (a1 < 0) = true := decide_eq_true c6
          clear c6
          have H' := Aside0.mk H
          clear H
          go_wp2
          go_meet
          case rel => exact ⟨_, (true), (by first | rfl | (simp; done) | (simp [*]; done)), H', ⟨by first | omega | exact Nat.le_refl _⟩, ⟨by repeat (first | (with_reducible first | exact HB.out | apply below_alloc | apply pw_below_drewN | apply below_drew1) | exact HB.out)⟩⟩
        · rw [if_neg c6] at H
          have c6b0 : decide (a1 < 0) = false := decide_eq_false c6
          clear c6
          have H' := Aside0.mk H
          clear H
          go_wp2
          go_meet
          case rel => exact ⟨_, (decide (a1 > 4096)), (by first | rfl | (simp; done) | (simp [*]; done)), H', ⟨by first | omega | exact Nat.le_refl _⟩, ⟨by repeat (first | (with_reducible first | exact HB.out | apply below_alloc | apply pw_below_drewN | apply below_drew1) | exact HB.out)⟩⟩
  case rest =>
    clear HC3
    try clear c1
    try clear p2
    try clear c4
    try clear c4b0
    try clear c4b1
    try clear c4b2
    try clear c5
    try clear c5b0
    try clear c5b1
    try clear c6
    try clear c6b0
    obtain ⟨kq, x23_2, rfl, HA, HJ2, HB⟩ := hcut
    cases kq with
    | zero => exact absurd HA.out (by simp [carlingref13_Check.j0])
    | succ kj2 =>
      have H := HA.out
      clear HA
      simp only [carlingref13_Check.j0] at H
      by_cases c7 : x23_2 = true
      · subst c7
        have H1 : (some (6, (-1))) = some (r1, r2) := by rw [if_pos rfl] at H; exact H
        clear H
        have H := H1
        clear H1
        simp only [Option.some.injEq, Prod.mk.injEq] at H
        obtain ⟨rfl, rfl⟩ := H
        go_wp2
        go_ret2
        exact ⟨by first | rfl | (simp [errW_none, errW_some] <;> rfl) | (simp [*, errW_none, errW_some] <;> rfl), by repeat (first | (with_reducible first | exact HB.out | apply below_alloc | apply pw_below_drewN | apply below_drew1) | exact HB.out)⟩
      · replace c7 := Bool.eq_false_iff.mpr c7
        subst c7
        have H1 : (carlingref13_Check.l0 kj2 l0 a1 0) = some (r1, r2) := by rw [if_neg (show ¬ (false = true) by decide)] at H; exact H
        clear H
        have H := H1
        clear H1
        have H' := Aside0.mk H
        clear H
        go_wp2
        go_loopg [6] kj2 (fun kq v6 w' => ∃ (x6_2 : Int), v6 = .int .i64 x6_2 ∧ Aside0 (carlingref13_Check.l0 kq l0 a1 x6_2 = some (r1, r2)) ∧ Aside0 (kq ≤ kj2) ∧ Aside0 (Below w.heap.size w w'))
        case atStart => exact ⟨(0), (by first | rfl | (simp; done) | (simp [*]; done)), H', ⟨Nat.le_refl _⟩, ⟨by repeat (first | (with_reducible first | exact HB.out | apply below_alloc | apply pw_below_drewN | apply below_drew1) | exact HB.out)⟩⟩
        case round =>
          clear H'
          try clear c1
          try clear p2
          try clear c4
          try clear c4b0
          try clear c4b1
          try clear c4b2
          try clear c5
          try clear c5b0
          try clear c5b1
          try clear c6
          try clear c6b0
          try clear c7
          try clear p2
          obtain ⟨x6_2, rfl, HA, HK2, HB⟩ := hrel
          cases gk with
          | zero => exact absurd HA.out (by simp [carlingref13_Check.l0])
          | succ k2 =>
            have H := HA.out
            clear HA
            simp only [carlingref13_Check.l0] at H
            by_cases c8 : x6_2 < (l0.length : Int)
            · rw [if_pos c8] at H
              have c8b0 : decide (x6_2 < (l0.length : Int)) = true := decide_eq_true c8
              clear c8
              by_cases c9 : 0 ≤ x6_2
              · rw [if_pos c9] at H
                have c9b0 : decide (0 ≤ x6_2) = true := decide_eq_true c9
                clear c9
                replace H := Option.bind_eq_some_iff.mp H
                obtain ⟨t151, A100, H⟩ := H
                replace H : (if t151 = true then (if ((rd_T31 l0 x6_2).f0) = 4 then (carlingref13_Check.j2 k2 l0 a1 x6_2 (decide ((IntKind.u64.wrap ((rd_T31 l0 x6_2).f5)) ≥ (IntKind.u64.wrap (a1)))) ((rd_T31 l0 x6_2).f0) ((rd_T31 l0 x6_2).f1) ((rd_T31 l0 x6_2).f2) ((rd_T31 l0 x6_2).f3) ((rd_T31 l0 x6_2).f4) ((rd_T31 l0 x6_2).f5)) else (if ((rd_T31 l0 x6_2).f0) = 5 then (carlingref13_Check.j2 k2 l0 a1 x6_2 (decide ((IntKind.u64.wrap ((rd_T31 l0 x6_2).f5)) ≥ (IntKind.u64.wrap (a1)))) ((rd_T31 l0 x6_2).f0) ((rd_T31 l0 x6_2).f1) ((rd_T31 l0 x6_2).f2) ((rd_T31 l0 x6_2).f3) ((rd_T31 l0 x6_2).f4) ((rd_T31 l0 x6_2).f5)) else (carlingref13_Check.j2 k2 l0 a1 x6_2 false ((rd_T31 l0 x6_2).f0) ((rd_T31 l0 x6_2).f1) ((rd_T31 l0 x6_2).f2) ((rd_T31 l0 x6_2).f3) ((rd_T31 l0 x6_2).f4) ((rd_T31 l0 x6_2).f5)))) else (some (14, x6_2))) = some (r1, r2) := H
                have A10 := Aside0.mk A100
                clear A100
                by_cases c11 : t151 = true
                · subst c11
                  have H1 : (if ((rd_T31 l0 x6_2).f0) = 4 then (carlingref13_Check.j2 k2 l0 a1 x6_2 (decide ((IntKind.u64.wrap ((rd_T31 l0 x6_2).f5)) ≥ (IntKind.u64.wrap (a1)))) ((rd_T31 l0 x6_2).f0) ((rd_T31 l0 x6_2).f1) ((rd_T31 l0 x6_2).f2) ((rd_T31 l0 x6_2).f3) ((rd_T31 l0 x6_2).f4) ((rd_T31 l0 x6_2).f5)) else (if ((rd_T31 l0 x6_2).f0) = 5 then (carlingref13_Check.j2 k2 l0 a1 x6_2 (decide ((IntKind.u64.wrap ((rd_T31 l0 x6_2).f5)) ≥ (IntKind.u64.wrap (a1)))) ((rd_T31 l0 x6_2).f0) ((rd_T31 l0 x6_2).f1) ((rd_T31 l0 x6_2).f2) ((rd_T31 l0 x6_2).f3) ((rd_T31 l0 x6_2).f4) ((rd_T31 l0 x6_2).f5)) else (carlingref13_Check.j2 k2 l0 a1 x6_2 false ((rd_T31 l0 x6_2).f0) ((rd_T31 l0 x6_2).f1) ((rd_T31 l0 x6_2).f2) ((rd_T31 l0 x6_2).f3) ((rd_T31 l0 x6_2).f4) ((rd_T31 l0 x6_2).f5)))) = some (r1, r2) := by rw [if_pos rfl] at H; exact H
                  clear H
                  have H := H1
                  clear H1
                  have HC12 := Aside0.mk H
                  clear H
                  have p149 : 0 ≤ (x6_2 : Int) := of_decide_eq_true (by first | (with_reducible assumption) | assumption)
                  have q149 : x6_2 < (l0.length : Int) := of_decide_eq_true (by first | (with_reducible assumption) | assumption)
                  obtain ⟨ad149, e149, hx149_0, hx149_1, hx149_2, hx149_3, hx149_4, hx149_5⟩ := at_T31 HR0.out x6_2 p149 q149
                  cases e149
                  replace hx149_0 := (HB.out.cell (World.block_lt_of_cell? w _ hx149_0)).trans hx149_0
                  replace hx149_1 := (HB.out.cell (World.block_lt_of_cell? w _ hx149_1)).trans hx149_1
                  replace hx149_2 := (HB.out.cell (World.block_lt_of_cell? w _ hx149_2)).trans hx149_2
                  replace hx149_3 := (HB.out.cell (World.block_lt_of_cell? w _ hx149_3)).trans hx149_3
                  replace hx149_4 := (HB.out.cell (World.block_lt_of_cell? w _ hx149_4)).trans hx149_4
                  replace hx149_5 := (HB.out.cell (World.block_lt_of_cell? w _ hx149_5)).trans hx149_5
                  replace p149 := eq_true p149
                  replace q149 := eq_true q149
                  go_upto_region 9 with (first | ((with_reducible refine gate_dst (N := 7) rfl ?_); (try (refine gate_guard (by rfl) ?_; dsimp only)); refine box_event ?hg (N := 7) ?hd (cs := #[.int .i64 0, .int .i64 0, .int .i64 0, .int .i64 0, .int .i64 0, .int .u32 0]) (t := 31) ?hr ?_; (case hd => rfl); (case hg => rfl); (case hr => first | (go_simp; done) | (go_simp; rfl)); intro gb150 hg w13 hbox hb; have n0_ := Aside0.mk (below_step (by repeat (first | (with_reducible first | exact HB.out | apply below_alloc | apply pw_below_drewN | apply below_drew1) | exact HB.out)) hb); have n1_ := Aside0.mk (hbox); have n2_ := Aside0.mk ((by rw [hg]; exact (below_size (by repeat (first | (with_reducible first | exact HB.out | apply below_alloc | apply pw_below_drewN | apply below_drew1) | exact HB.out))) : w.heap.size ≤ gb150)); have n3_ := Aside0.mk ((by rw [hg]; exact (below_size (by repeat (first | (with_reducible first | exact HB.out | apply below_alloc | apply pw_below_drewN | apply below_drew1) | exact HB.out))) : w.heap.size ≤ gb150)); clear HB; have HB := n0_; have BK150 := n1_; have GW150 := n2_; have GE150 := n3_; clear n0_ n1_ n2_ n3_; clear hb hbox hg; have hcz14_0 : w13.cell? ⟨gb150, 0, none⟩ = some (.int .i64 0) := (blk_cell BK150.out 0).trans rfl; have hcz14_1 : w13.cell? ⟨gb150, 1, none⟩ = some (.int .i64 0) := (blk_cell BK150.out 1).trans rfl; have hcz14_2 : w13.cell? ⟨gb150, 2, none⟩ = some (.int .i64 0) := (blk_cell BK150.out 2).trans rfl; have hcz14_3 : w13.cell? ⟨gb150, 3, none⟩ = some (.int .i64 0) := (blk_cell BK150.out 3).trans rfl; have hcz14_4 : w13.cell? ⟨gb150, 4, none⟩ = some (.int .i64 0) := (blk_cell BK150.out 4).trans rfl; have hcz14_5 : w13.cell? ⟨gb150, 5, none⟩ = some (.int .u32 0) := (blk_cell BK150.out 5).trans rfl; have hfz14_0 := blk_frozen BK150.out 0; have hfz14_1 := blk_frozen BK150.out 1; have hfz14_2 := blk_frozen BK150.out 2; have hfz14_3 := blk_frozen BK150.out 3; have hfz14_4 := blk_frozen BK150.out 4; have hfz14_5 := blk_frozen BK150.out 5) | ((with_reducible refine gate_callee (f := 13) rfl ?_); refine goesL_ (some 35) rfl rfl Try.func13 (by kernel_rfl) rfl #[.agg #[.int .i64 ((rd_T31 l0 x6_2).f0), .int .i64 ((rd_T31 l0 x6_2).f1), .int .i64 ((rd_T31 l0 x6_2).f2), .int .i64 ((rd_T31 l0 x6_2).f3), .int .i64 ((rd_T31 l0 x6_2).f4), .int .u32 ((rd_T31 l0 x6_2).f5)]] rfl (by (try simp only [List.map_toArray, List.map_cons, List.map_nil]); first | done | rfl | (simp only [List.length_drop, List.length_take]; rfl)) ?_; (with_reducible refine (carlingref13_Right.calls k2 ((rd_T31 l0 x6_2).f0) ((rd_T31 l0 x6_2).f1) ((rd_T31 l0 x6_2).f2) ((rd_T31 l0 x6_2).f3) ((rd_T31 l0 x6_2).f4) ((rd_T31 l0 x6_2).f5) true _ A10.out).mono ?_); rintro e w15 ⟨rfl, hb⟩; refine ⟨_, rfl, ?_⟩; have n0_ := Aside0.mk (blk_below (g := gb150) (o := .cells #[.int .i64 ((rd_T31 l0 x6_2).f0), .int .i64 ((rd_T31 l0 x6_2).f1), .int .i64 ((rd_T31 l0 x6_2).f2), .int .i64 ((rd_T31 l0 x6_2).f3), .int .i64 ((rd_T31 l0 x6_2).f4), .int .u32 ((rd_T31 l0 x6_2).f5)] 31 (0, 0)) (by (with_reducible repeat (first | refine blk_drewN ?_ _ | refine blk_drew ?_ | refine blk_alloc ?_ _)); refine blk_put (cs := #[.int .i64 ((rd_T31 l0 x6_2).f0), .int .i64 ((rd_T31 l0 x6_2).f1), .int .i64 ((rd_T31 l0 x6_2).f2), .int .i64 ((rd_T31 l0 x6_2).f3), .int .i64 ((rd_T31 l0 x6_2).f4), .int .u32 0]) ?_ 5 _ rfl; (with_reducible repeat (first | refine blk_drewN ?_ _ | refine blk_drew ?_ | refine blk_alloc ?_ _)); refine blk_put (cs := #[.int .i64 ((rd_T31 l0 x6_2).f0), .int .i64 ((rd_T31 l0 x6_2).f1), .int .i64 ((rd_T31 l0 x6_2).f2), .int .i64 ((rd_T31 l0 x6_2).f3), .int .i64 0, .int .u32 0]) ?_ 4 _ rfl; (with_reducible repeat (first | refine blk_drewN ?_ _ | refine blk_drew ?_ | refine blk_alloc ?_ _)); refine blk_put (cs := #[.int .i64 ((rd_T31 l0 x6_2).f0), .int .i64 ((rd_T31 l0 x6_2).f1), .int .i64 ((rd_T31 l0 x6_2).f2), .int .i64 0, .int .i64 0, .int .u32 0]) ?_ 3 _ rfl; (with_reducible repeat (first | refine blk_drewN ?_ _ | refine blk_drew ?_ | refine blk_alloc ?_ _)); refine blk_put (cs := #[.int .i64 ((rd_T31 l0 x6_2).f0), .int .i64 ((rd_T31 l0 x6_2).f1), .int .i64 0, .int .i64 0, .int .i64 0, .int .u32 0]) ?_ 2 _ rfl; (with_reducible repeat (first | refine blk_drewN ?_ _ | refine blk_drew ?_ | refine blk_alloc ?_ _)); refine blk_put (cs := #[.int .i64 ((rd_T31 l0 x6_2).f0), .int .i64 0, .int .i64 0, .int .i64 0, .int .i64 0, .int .u32 0]) ?_ 1 _ rfl; (with_reducible repeat (first | refine blk_drewN ?_ _ | refine blk_drew ?_ | refine blk_alloc ?_ _)); refine blk_put (cs := #[.int .i64 0, .int .i64 0, .int .i64 0, .int .i64 0, .int .i64 0, .int .u32 0]) ?_ 0 _ rfl; (with_reducible repeat (first | refine blk_drewN ?_ _ | refine blk_drew ?_ | refine blk_alloc ?_ _)); exact BK150.out) hb); have n1_ := Aside0.mk (below_step (by repeat (first | (with_reducible first | exact HB.out | apply below_alloc | apply pw_below_drewN | apply below_drew1 | refine below_set ?_ GE150.out) | exact HB.out)) hb); clear BK150; clear HB; have BK150 := n0_; have HB := n1_; clear n0_ n1_; (try clear hb); (try clear hb2); (try clear hk); (try clear hi)))
                  (try simp only [Act.put, List.setIfInBounds_toArray, List.set_cons_zero, List.set_cons_succ])
                  go_cut [53] (fun v53 wc => ∃ (kq : Nat) (x53_11 : Bool), v53 = .bool x53_11 ∧ Aside0 (carlingref13_Check.j2 kq l0 a1 x6_2 x53_11 ((rd_T31 l0 x6_2).f0) ((rd_T31 l0 x6_2).f1) ((rd_T31 l0 x6_2).f2) ((rd_T31 l0 x6_2).f3) ((rd_T31 l0 x6_2).f4) ((rd_T31 l0 x6_2).f5) = some (r1, r2)) ∧ Aside0 (kq ≤ k2) ∧ Aside0 (wc.heap[gb150]? = some (.cells #[.int .i64 ((rd_T31 l0 x6_2).f0), .int .i64 ((rd_T31 l0 x6_2).f1), .int .i64 ((rd_T31 l0 x6_2).f2), .int .i64 ((rd_T31 l0 x6_2).f3), .int .i64 ((rd_T31 l0 x6_2).f4), .int .u32 ((rd_T31 l0 x6_2).f5)] 31 (0, 0))) ∧ Aside0 (Below w.heap.size w wc))
                  case first =>
                    have H := HC12.out
                    clear HC12
                    by_cases c16 : ((rd_T31 l0 x6_2).f0) = 4
                    · rw [if_pos c16] at H
                      have c16b0 : (((rd_T31 l0 x6_2).f0) == 4) = true := beq_iff_eq.mpr c16
                      have c16b1 : (((rd_T31 l0 x6_2).f0) != 4) = false := bne_eq_false_iff_eq.mpr c16
                      clear c16
                      (first | rw [c16b0] | (simp only [i64_w, i32_w]; rw [c16b0]) | skip)
                      have H' := Aside0.mk H
                      clear H
                      have hcz17_0 : w15.cell? ⟨gb150, 0, none⟩ = some (.int .i64 ((rd_T31 l0 x6_2).f0)) := (blk_cell BK150.out 0).trans rfl
                      have hcz17_1 : w15.cell? ⟨gb150, 1, none⟩ = some (.int .i64 ((rd_T31 l0 x6_2).f1)) := (blk_cell BK150.out 1).trans rfl
                      have hcz17_2 : w15.cell? ⟨gb150, 2, none⟩ = some (.int .i64 ((rd_T31 l0 x6_2).f2)) := (blk_cell BK150.out 2).trans rfl
                      have hcz17_3 : w15.cell? ⟨gb150, 3, none⟩ = some (.int .i64 ((rd_T31 l0 x6_2).f3)) := (blk_cell BK150.out 3).trans rfl
                      have hcz17_4 : w15.cell? ⟨gb150, 4, none⟩ = some (.int .i64 ((rd_T31 l0 x6_2).f4)) := (blk_cell BK150.out 4).trans rfl
                      have hcz17_5 : w15.cell? ⟨gb150, 5, none⟩ = some (.int .u32 ((rd_T31 l0 x6_2).f5)) := (blk_cell BK150.out 5).trans rfl
                      have hfz17_0 := blk_frozen BK150.out 0
                      have hfz17_1 := blk_frozen BK150.out 1
                      have hfz17_2 := blk_frozen BK150.out 2
                      have hfz17_3 := blk_frozen BK150.out 3
                      have hfz17_4 := blk_frozen BK150.out 4
                      have hfz17_5 := blk_frozen BK150.out 5
                      go_wp2
                      go_meet
                      case rel => exact ⟨_, (decide ((IntKind.u64.wrap ((rd_T31 l0 x6_2).f5)) ≥ (IntKind.u64.wrap (a1)))), (by first | rfl | (simp; done) | (simp [*]; done)), H', ⟨by have := HJ2.out; have := HK2.out; first | omega | exact Nat.le_refl _⟩, ⟨by (with_reducible repeat (first | refine blk_drewN ?_ _ | refine blk_drew ?_ | refine blk_alloc ?_ _)); exact BK150.out⟩, ⟨by repeat (first | (with_reducible first | exact HB.out | apply below_alloc | apply pw_below_drewN | apply below_drew1 | refine below_set ?_ GE150.out) | exact HB.out)⟩⟩
                    · rw [if_neg c16] at H
                      have c16b0 : (((rd_T31 l0 x6_2).f0) == 4) = false := beq_eq_false_iff_ne.mpr c16
                      have c16b1 : (((rd_T31 l0 x6_2).f0) != 4) = true := bne_iff_ne.mpr c16
                      (first | rw [c16b0] | (simp only [i64_w, i32_w]; rw [c16b0]) | skip)
                      by_cases c18 : ((rd_T31 l0 x6_2).f0) = 5
                      · rw [if_pos c18] at H
                        have c18b0 : (((rd_T31 l0 x6_2).f0) == 5) = true := beq_iff_eq.mpr c18
                        have c18b1 : (((rd_T31 l0 x6_2).f0) != 5) = false := bne_eq_false_iff_eq.mpr c18
                        clear c18
                        have H' := Aside0.mk H
                        clear H
                        have hcz19_0 : w15.cell? ⟨gb150, 0, none⟩ = some (.int .i64 ((rd_T31 l0 x6_2).f0)) := (blk_cell BK150.out 0).trans rfl
                        have hcz19_1 : w15.cell? ⟨gb150, 1, none⟩ = some (.int .i64 ((rd_T31 l0 x6_2).f1)) := (blk_cell BK150.out 1).trans rfl
                        have hcz19_2 : w15.cell? ⟨gb150, 2, none⟩ = some (.int .i64 ((rd_T31 l0 x6_2).f2)) := (blk_cell BK150.out 2).trans rfl
                        have hcz19_3 : w15.cell? ⟨gb150, 3, none⟩ = some (.int .i64 ((rd_T31 l0 x6_2).f3)) := (blk_cell BK150.out 3).trans rfl
                        have hcz19_4 : w15.cell? ⟨gb150, 4, none⟩ = some (.int .i64 ((rd_T31 l0 x6_2).f4)) := (blk_cell BK150.out 4).trans rfl
                        have hcz19_5 : w15.cell? ⟨gb150, 5, none⟩ = some (.int .u32 ((rd_T31 l0 x6_2).f5)) := (blk_cell BK150.out 5).trans rfl
                        have hfz19_0 := blk_frozen BK150.out 0
                        have hfz19_1 := blk_frozen BK150.out 1
                        have hfz19_2 := blk_frozen BK150.out 2
                        have hfz19_3 := blk_frozen BK150.out 3
                        have hfz19_4 := blk_frozen BK150.out 4
                        have hfz19_5 := blk_frozen BK150.out 5
                        go_wp2
                        go_meet
                        case rel => exact ⟨_, (decide ((IntKind.u64.wrap ((rd_T31 l0 x6_2).f5)) ≥ (IntKind.u64.wrap (a1)))), (by first | rfl | (simp; done) | (simp [*]; done)), H', ⟨by have := HJ2.out; have := HK2.out; first | omega | exact Nat.le_refl _⟩, ⟨by (with_reducible repeat (first | refine blk_drewN ?_ _ | refine blk_drew ?_ | refine blk_alloc ?_ _)); exact BK150.out⟩, ⟨by repeat (first | (with_reducible first | exact HB.out | apply below_alloc | apply pw_below_drewN | apply below_drew1 | refine below_set ?_ GE150.out) | exact HB.out)⟩⟩
                      · rw [if_neg c18] at H
                        have c18b0 : (((rd_T31 l0 x6_2).f0) == 5) = false := beq_eq_false_iff_ne.mpr c18
                        have c18b1 : (((rd_T31 l0 x6_2).f0) != 5) = true := bne_iff_ne.mpr c18
                        have H' := Aside0.mk H
                        clear H
                        have hcz20_0 : w15.cell? ⟨gb150, 0, none⟩ = some (.int .i64 ((rd_T31 l0 x6_2).f0)) := (blk_cell BK150.out 0).trans rfl
                        have hcz20_1 : w15.cell? ⟨gb150, 1, none⟩ = some (.int .i64 ((rd_T31 l0 x6_2).f1)) := (blk_cell BK150.out 1).trans rfl
                        have hcz20_2 : w15.cell? ⟨gb150, 2, none⟩ = some (.int .i64 ((rd_T31 l0 x6_2).f2)) := (blk_cell BK150.out 2).trans rfl
                        have hcz20_3 : w15.cell? ⟨gb150, 3, none⟩ = some (.int .i64 ((rd_T31 l0 x6_2).f3)) := (blk_cell BK150.out 3).trans rfl
                        have hcz20_4 : w15.cell? ⟨gb150, 4, none⟩ = some (.int .i64 ((rd_T31 l0 x6_2).f4)) := (blk_cell BK150.out 4).trans rfl
                        have hcz20_5 : w15.cell? ⟨gb150, 5, none⟩ = some (.int .u32 ((rd_T31 l0 x6_2).f5)) := (blk_cell BK150.out 5).trans rfl
                        have hfz20_0 := blk_frozen BK150.out 0
                        have hfz20_1 := blk_frozen BK150.out 1
                        have hfz20_2 := blk_frozen BK150.out 2
                        have hfz20_3 := blk_frozen BK150.out 3
                        have hfz20_4 := blk_frozen BK150.out 4
                        have hfz20_5 := blk_frozen BK150.out 5
                        go_wp2
                        go_meet
                        case rel => exact ⟨_, (false), (by first | rfl | (simp; done) | (simp [*]; done)), H', ⟨by have := HJ2.out; have := HK2.out; first | omega | exact Nat.le_refl _⟩, ⟨by (with_reducible repeat (first | refine blk_drewN ?_ _ | refine blk_drew ?_ | refine blk_alloc ?_ _)); exact BK150.out⟩, ⟨by repeat (first | (with_reducible first | exact HB.out | apply below_alloc | apply pw_below_drewN | apply below_drew1 | refine below_set ?_ GE150.out) | exact HB.out)⟩⟩
                  case rest =>
                    clear HC12
                    try clear c1
                    try clear p1
                    try clear q1
                    try clear hx1
                    try clear p2
                    try clear c4
                    try clear c4b0
                    try clear c4b1
                    try clear c4b2
                    try clear c5
                    try clear c5b0
                    try clear c5b1
                    try clear c6
                    try clear c6b0
                    try clear c7
                    try clear c8
                    try clear c8b0
                    try clear c9
                    try clear c9b0
                    try clear c11
                    try clear c13
                    try clear p14
                    try clear q14
                    try clear hx14
                    try clear c15
                    try clear c16
                    try clear c16b0
                    try clear c16b1
                    try clear c18
                    try clear c18b0
                    try clear c18b1
                    try clear hcz14_0
                    try clear hcz14_1
                    try clear hcz14_2
                    try clear hcz14_3
                    try clear hcz14_4
                    try clear hcz14_5
                    try clear hcz17_0
                    try clear hcz17_1
                    try clear hcz17_2
                    try clear hcz17_3
                    try clear hcz17_4
                    try clear hcz17_5
                    try clear hcz19_0
                    try clear hcz19_1
                    try clear hcz19_2
                    try clear hcz19_3
                    try clear hcz19_4
                    try clear hcz19_5
                    try clear hcz20_0
                    try clear hcz20_1
                    try clear hcz20_2
                    try clear hcz20_3
                    try clear hcz20_4
                    try clear hcz20_5
                    try clear hfz14_0
                    try clear hfz14_1
                    try clear hfz14_2
                    try clear hfz14_3
                    try clear hfz14_4
                    try clear hfz14_5
                    try clear hfz17_0
                    try clear hfz17_1
                    try clear hfz17_2
                    try clear hfz17_3
                    try clear hfz17_4
                    try clear hfz17_5
                    try clear hfz19_0
                    try clear hfz19_1
                    try clear hfz19_2
                    try clear hfz19_3
                    try clear hfz19_4
                    try clear hfz19_5
                    try clear hfz20_0
                    try clear hfz20_1
                    try clear hfz20_2
                    try clear hfz20_3
                    try clear hfz20_4
                    try clear hfz20_5
                    try clear hx149_0
                    try clear hx149_1
                    try clear hx149_2
                    try clear hx149_3
                    try clear hx149_4
                    try clear hx149_5
                    try clear p149
                    try clear p2
                    try clear q149
                    obtain ⟨kq, x53_11, rfl, HA, HJ11, BK150, HB⟩ := hcut
                    cases kq with
                    | zero => exact absurd HA.out (by simp [carlingref13_Check.j2])
                    | succ kj11 =>
                      have H := HA.out
                      clear HA
                      simp only [carlingref13_Check.j2] at H
                      by_cases c21 : x53_11 = true
                      · subst c21
                        have H1 : (some (16, x6_2)) = some (r1, r2) := by rw [if_pos rfl] at H; exact H
                        clear H
                        have H := H1
                        clear H1
                        simp only [Option.some.injEq, Prod.mk.injEq] at H
                        obtain ⟨rfl, rfl⟩ := H
                        go_wp2
                        go_ret2
                        exact ⟨by first | rfl | (simp [errW_none, errW_some] <;> rfl) | (simp [*, errW_none, errW_some] <;> rfl), by repeat (first | (with_reducible first | exact HB.out | apply below_alloc | apply pw_below_drewN | apply below_drew1 | refine below_set ?_ GE150.out) | exact HB.out)⟩
                      · replace c21 := Bool.eq_false_iff.mpr c21
                        subst c21
                        have H1 : (if ((rd_T31 l0 x6_2).f0) ≥ 6 then (if ((rd_T31 l0 x6_2).f0) ≤ 8 then (carlingref13_Check.j3 kj11 l0 a1 x6_2 (decide ((IntKind.u64.wrap (((rd_T31 l0 x6_2).f5))) ≥ (IntKind.u64.wrap ((l0.length : Int))))) ((rd_T31 l0 x6_2).f0) ((rd_T31 l0 x6_2).f1) ((rd_T31 l0 x6_2).f2) ((rd_T31 l0 x6_2).f3) ((rd_T31 l0 x6_2).f4) ((rd_T31 l0 x6_2).f5)) else (carlingref13_Check.j3 kj11 l0 a1 x6_2 false ((rd_T31 l0 x6_2).f0) ((rd_T31 l0 x6_2).f1) ((rd_T31 l0 x6_2).f2) ((rd_T31 l0 x6_2).f3) ((rd_T31 l0 x6_2).f4) ((rd_T31 l0 x6_2).f5))) else (carlingref13_Check.j3 kj11 l0 a1 x6_2 false ((rd_T31 l0 x6_2).f0) ((rd_T31 l0 x6_2).f1) ((rd_T31 l0 x6_2).f2) ((rd_T31 l0 x6_2).f3) ((rd_T31 l0 x6_2).f4) ((rd_T31 l0 x6_2).f5))) = some (r1, r2) := by rw [if_neg (show ¬ (false = true) by decide)] at H; exact H
                        clear H
                        have H := H1
                        clear H1
                        have HC22 := Aside0.mk H
                        clear H
                        go_upto_region 11 with (fail)
                        go_cut [71] (fun v71 wc => ∃ (kq : Nat) (x71_21 : Bool), v71 = .bool x71_21 ∧ Aside0 (carlingref13_Check.j3 kq l0 a1 x6_2 x71_21 ((rd_T31 l0 x6_2).f0) ((rd_T31 l0 x6_2).f1) ((rd_T31 l0 x6_2).f2) ((rd_T31 l0 x6_2).f3) ((rd_T31 l0 x6_2).f4) ((rd_T31 l0 x6_2).f5) = some (r1, r2)) ∧ Aside0 (kq ≤ kj11) ∧ Aside0 (wc.heap[gb150]? = some (.cells #[.int .i64 ((rd_T31 l0 x6_2).f0), .int .i64 ((rd_T31 l0 x6_2).f1), .int .i64 ((rd_T31 l0 x6_2).f2), .int .i64 ((rd_T31 l0 x6_2).f3), .int .i64 ((rd_T31 l0 x6_2).f4), .int .u32 ((rd_T31 l0 x6_2).f5)] 31 (0, 0))) ∧ Aside0 (Below w.heap.size w wc))
                        case first =>
                          have H := HC22.out
                          clear HC22
                          by_cases c23 : ((rd_T31 l0 x6_2).f0) ≥ 6
                          · rw [if_pos c23] at H
                            have c23b0 : decide (6 ≤ ((rd_T31 l0 x6_2).f0)) = true := decide_eq_true c23
                            clear c23
                            (first | rw [c23b0] | (simp only [i64_w, i32_w]; rw [c23b0]) | skip)
                            by_cases c24 : ((rd_T31 l0 x6_2).f0) ≤ 8
                            · rw [if_pos c24] at H
                              have c24b0 : decide (((rd_T31 l0 x6_2).f0) ≤ 8) = true := decide_eq_true c24
                              clear c24
                              have H' := Aside0.mk H
                              clear H
                              have hcz25_0 : wc.cell? ⟨gb150, 0, none⟩ = some (.int .i64 ((rd_T31 l0 x6_2).f0)) := (blk_cell BK150.out 0).trans rfl
                              have hcz25_1 : wc.cell? ⟨gb150, 1, none⟩ = some (.int .i64 ((rd_T31 l0 x6_2).f1)) := (blk_cell BK150.out 1).trans rfl
                              have hcz25_2 : wc.cell? ⟨gb150, 2, none⟩ = some (.int .i64 ((rd_T31 l0 x6_2).f2)) := (blk_cell BK150.out 2).trans rfl
                              have hcz25_3 : wc.cell? ⟨gb150, 3, none⟩ = some (.int .i64 ((rd_T31 l0 x6_2).f3)) := (blk_cell BK150.out 3).trans rfl
                              have hcz25_4 : wc.cell? ⟨gb150, 4, none⟩ = some (.int .i64 ((rd_T31 l0 x6_2).f4)) := (blk_cell BK150.out 4).trans rfl
                              have hcz25_5 : wc.cell? ⟨gb150, 5, none⟩ = some (.int .u32 ((rd_T31 l0 x6_2).f5)) := (blk_cell BK150.out 5).trans rfl
                              have hfz25_0 := blk_frozen BK150.out 0
                              have hfz25_1 := blk_frozen BK150.out 1
                              have hfz25_2 := blk_frozen BK150.out 2
                              have hfz25_3 := blk_frozen BK150.out 3
                              have hfz25_4 := blk_frozen BK150.out 4
                              have hfz25_5 := blk_frozen BK150.out 5
                              go_wp2
                              go_meet
                              case rel => exact ⟨_, (decide ((IntKind.u64.wrap (((rd_T31 l0 x6_2).f5))) ≥ (IntKind.u64.wrap ((l0.length : Int))))), (by first | rfl | (simp; done) | (simp [*]; done)), H', ⟨by have := HJ2.out; have := HK2.out; have := HJ11.out; first | omega | exact Nat.le_refl _⟩, ⟨by (with_reducible repeat (first | refine blk_drewN ?_ _ | refine blk_drew ?_ | refine blk_alloc ?_ _)); exact BK150.out⟩, ⟨by repeat (first | (with_reducible first | exact HB.out | apply below_alloc | apply pw_below_drewN | apply below_drew1 | refine below_set ?_ GE150.out) | exact HB.out)⟩⟩
                            · rw [if_neg c24] at H
                              have c24b0 : decide (((rd_T31 l0 x6_2).f0) ≤ 8) = false := decide_eq_false c24
                              clear c24
                              have H' := Aside0.mk H
                              clear H
                              have hcz26_0 : wc.cell? ⟨gb150, 0, none⟩ = some (.int .i64 ((rd_T31 l0 x6_2).f0)) := (blk_cell BK150.out 0).trans rfl
                              have hcz26_1 : wc.cell? ⟨gb150, 1, none⟩ = some (.int .i64 ((rd_T31 l0 x6_2).f1)) := (blk_cell BK150.out 1).trans rfl
                              have hcz26_2 : wc.cell? ⟨gb150, 2, none⟩ = some (.int .i64 ((rd_T31 l0 x6_2).f2)) := (blk_cell BK150.out 2).trans rfl
                              have hcz26_3 : wc.cell? ⟨gb150, 3, none⟩ = some (.int .i64 ((rd_T31 l0 x6_2).f3)) := (blk_cell BK150.out 3).trans rfl
                              have hcz26_4 : wc.cell? ⟨gb150, 4, none⟩ = some (.int .i64 ((rd_T31 l0 x6_2).f4)) := (blk_cell BK150.out 4).trans rfl
                              have hcz26_5 : wc.cell? ⟨gb150, 5, none⟩ = some (.int .u32 ((rd_T31 l0 x6_2).f5)) := (blk_cell BK150.out 5).trans rfl
                              have hfz26_0 := blk_frozen BK150.out 0
                              have hfz26_1 := blk_frozen BK150.out 1
                              have hfz26_2 := blk_frozen BK150.out 2
                              have hfz26_3 := blk_frozen BK150.out 3
                              have hfz26_4 := blk_frozen BK150.out 4
                              have hfz26_5 := blk_frozen BK150.out 5
                              go_wp2
                              go_meet
                              case rel => exact ⟨_, (false), (by first | rfl | (simp; done) | (simp [*]; done)), H', ⟨by have := HJ2.out; have := HK2.out; have := HJ11.out; first | omega | exact Nat.le_refl _⟩, ⟨by (with_reducible repeat (first | refine blk_drewN ?_ _ | refine blk_drew ?_ | refine blk_alloc ?_ _)); exact BK150.out⟩, ⟨by repeat (first | (with_reducible first | exact HB.out | apply below_alloc | apply pw_below_drewN | apply below_drew1 | refine below_set ?_ GE150.out) | exact HB.out)⟩⟩
                          · rw [if_neg c23] at H
                            have c23b0 : decide (6 ≤ ((rd_T31 l0 x6_2).f0)) = false := decide_eq_false c23
                            clear c23
                            (first | rw [c23b0] | (simp only [i64_w, i32_w]; rw [c23b0]) | skip)
                            have H' := Aside0.mk H
                            clear H
                            have hcz27_0 : wc.cell? ⟨gb150, 0, none⟩ = some (.int .i64 ((rd_T31 l0 x6_2).f0)) := (blk_cell BK150.out 0).trans rfl
                            have hcz27_1 : wc.cell? ⟨gb150, 1, none⟩ = some (.int .i64 ((rd_T31 l0 x6_2).f1)) := (blk_cell BK150.out 1).trans rfl
                            have hcz27_2 : wc.cell? ⟨gb150, 2, none⟩ = some (.int .i64 ((rd_T31 l0 x6_2).f2)) := (blk_cell BK150.out 2).trans rfl
                            have hcz27_3 : wc.cell? ⟨gb150, 3, none⟩ = some (.int .i64 ((rd_T31 l0 x6_2).f3)) := (blk_cell BK150.out 3).trans rfl
                            have hcz27_4 : wc.cell? ⟨gb150, 4, none⟩ = some (.int .i64 ((rd_T31 l0 x6_2).f4)) := (blk_cell BK150.out 4).trans rfl
                            have hcz27_5 : wc.cell? ⟨gb150, 5, none⟩ = some (.int .u32 ((rd_T31 l0 x6_2).f5)) := (blk_cell BK150.out 5).trans rfl
                            have hfz27_0 := blk_frozen BK150.out 0
                            have hfz27_1 := blk_frozen BK150.out 1
                            have hfz27_2 := blk_frozen BK150.out 2
                            have hfz27_3 := blk_frozen BK150.out 3
                            have hfz27_4 := blk_frozen BK150.out 4
                            have hfz27_5 := blk_frozen BK150.out 5
                            go_wp2
                            go_meet
                            case rel => exact ⟨_, (false), (by first | rfl | (simp; done) | (simp [*]; done)), H', ⟨by have := HJ2.out; have := HK2.out; have := HJ11.out; first | omega | exact Nat.le_refl _⟩, ⟨by (with_reducible repeat (first | refine blk_drewN ?_ _ | refine blk_drew ?_ | refine blk_alloc ?_ _)); exact BK150.out⟩, ⟨by repeat (first | (with_reducible first | exact HB.out | apply below_alloc | apply pw_below_drewN | apply below_drew1 | refine below_set ?_ GE150.out) | exact HB.out)⟩⟩
                        case rest =>
                          clear HC22
                          try clear c1
                          try clear p1
                          try clear q1
                          try clear hx1
                          try clear c2
                          try clear p2
                          try clear c4
                          try clear c4b0
                          try clear c4b1
                          try clear c4b2
                          try clear c5
                          try clear c5b0
                          try clear c5b1
                          try clear c6
                          try clear c6b0
                          try clear c7
                          try clear c8
                          try clear c8b0
                          try clear c9
                          try clear c9b0
                          try clear c11
                          try clear c13
                          try clear p14
                          try clear q14
                          try clear hx14
                          try clear c15
                          try clear c16
                          try clear c16b0
                          try clear c16b1
                          try clear c18
                          try clear c18b0
                          try clear c18b1
                          try clear c21
                          try clear c23
                          try clear c23b0
                          try clear c24
                          try clear c24b0
                          try clear hcz14_0
                          try clear hcz14_1
                          try clear hcz14_2
                          try clear hcz14_3
                          try clear hcz14_4
                          try clear hcz14_5
                          try clear hcz17_0
                          try clear hcz17_1
                          try clear hcz17_2
                          try clear hcz17_3
                          try clear hcz17_4
                          try clear hcz17_5
                          try clear hcz19_0
                          try clear hcz19_1
                          try clear hcz19_2
                          try clear hcz19_3
                          try clear hcz19_4
                          try clear hcz19_5
                          try clear hcz20_0
                          try clear hcz20_1
                          try clear hcz20_2
                          try clear hcz20_3
                          try clear hcz20_4
                          try clear hcz20_5
                          try clear hcz25_0
                          try clear hcz25_1
                          try clear hcz25_2
                          try clear hcz25_3
                          try clear hcz25_4
                          try clear hcz25_5
                          try clear hcz26_0
                          try clear hcz26_1
                          try clear hcz26_2
                          try clear hcz26_3
                          try clear hcz26_4
                          try clear hcz26_5
                          try clear hcz27_0
                          try clear hcz27_1
                          try clear hcz27_2
                          try clear hcz27_3
                          try clear hcz27_4
                          try clear hcz27_5
                          try clear hfz14_0
                          try clear hfz14_1
                          try clear hfz14_2
                          try clear hfz14_3
                          try clear hfz14_4
                          try clear hfz14_5
                          try clear hfz17_0
                          try clear hfz17_1
                          try clear hfz17_2
                          try clear hfz17_3
                          try clear hfz17_4
                          try clear hfz17_5
                          try clear hfz19_0
                          try clear hfz19_1
                          try clear hfz19_2
                          try clear hfz19_3
                          try clear hfz19_4
                          try clear hfz19_5
                          try clear hfz20_0
                          try clear hfz20_1
                          try clear hfz20_2
                          try clear hfz20_3
                          try clear hfz20_4
                          try clear hfz20_5
                          try clear hfz25_0
                          try clear hfz25_1
                          try clear hfz25_2
                          try clear hfz25_3
                          try clear hfz25_4
                          try clear hfz25_5
                          try clear hfz26_0
                          try clear hfz26_1
                          try clear hfz26_2
                          try clear hfz26_3
                          try clear hfz26_4
                          try clear hfz26_5
                          try clear hfz27_0
                          try clear hfz27_1
                          try clear hfz27_2
                          try clear hfz27_3
                          try clear hfz27_4
                          try clear hfz27_5
                          try clear hx149_0
                          try clear hx149_1
                          try clear hx149_2
                          try clear hx149_3
                          try clear hx149_4
                          try clear hx149_5
                          try clear p1
                          try clear p14
                          try clear p149
                          try clear p2
                          try clear q1
                          try clear q14
                          try clear q149
                          obtain ⟨kq, x71_21, rfl, HA, HJ21, BK150, HB⟩ := hcut
                          cases kq with
                          | zero => exact absurd HA.out (by simp [carlingref13_Check.j3])
                          | succ kj21 =>
                            have H := HA.out
                            clear HA
                            simp only [carlingref13_Check.j3] at H
                            by_cases c28 : x71_21 = true
                            · subst c28
                              have H1 : (some (17, x6_2)) = some (r1, r2) := by rw [if_pos rfl] at H; exact H
                              clear H
                              have H := H1
                              clear H1
                              simp only [Option.some.injEq, Prod.mk.injEq] at H
                              obtain ⟨rfl, rfl⟩ := H
                              go_wp2
                              go_ret2
                              exact ⟨by first | rfl | (simp [errW_none, errW_some] <;> rfl) | (simp [*, errW_none, errW_some] <;> rfl), by repeat (first | (with_reducible first | exact HB.out | apply below_alloc | apply pw_below_drewN | apply below_drew1 | refine below_set ?_ GE150.out) | exact HB.out)⟩
                            · replace c28 := Bool.eq_false_iff.mpr c28
                              subst c28
                              have H1 : (if x6_2 = (wrap64 ((l0.length : Int) - 1)) then (if ((rd_T31 l0 x6_2).f0) = 6 then (carlingref13_Check.l0 kj21 l0 a1 (wrap64 (x6_2 + 1))) else (if ((rd_T31 l0 x6_2).f0) = 9 then (carlingref13_Check.l0 kj21 l0 a1 (wrap64 (x6_2 + 1))) else (some (18, x6_2)))) else (carlingref13_Check.l0 kj21 l0 a1 (wrap64 (x6_2 + 1)))) = some (r1, r2) := by rw [if_neg (show ¬ (false = true) by decide)] at H; exact H
                              clear H
                              have H := H1
                              clear H1
                              by_cases c29 : x6_2 = (wrap64 ((l0.length : Int) - 1))
                              · rw [if_pos c29] at H
                                have c29b0 : (x6_2 == (wrap64 ((l0.length : Int) - 1))) = true := beq_iff_eq.mpr c29
                                have c29b1 : (x6_2 != (wrap64 ((l0.length : Int) - 1))) = false := bne_eq_false_iff_eq.mpr c29
                                clear c29
                                by_cases c30 : ((rd_T31 l0 x6_2).f0) = 6
                                · rw [if_pos c30] at H
                                  have c30b0 : (((rd_T31 l0 x6_2).f0) == 6) = true := beq_iff_eq.mpr c30
                                  have c30b1 : (((rd_T31 l0 x6_2).f0) != 6) = false := bne_eq_false_iff_eq.mpr c30
                                  clear c30
                                  have H' := Aside0.mk H
                                  clear H
                                  have hcz31_0 : wc.cell? ⟨gb150, 0, none⟩ = some (.int .i64 ((rd_T31 l0 x6_2).f0)) := (blk_cell BK150.out 0).trans rfl
                                  have hcz31_1 : wc.cell? ⟨gb150, 1, none⟩ = some (.int .i64 ((rd_T31 l0 x6_2).f1)) := (blk_cell BK150.out 1).trans rfl
                                  have hcz31_2 : wc.cell? ⟨gb150, 2, none⟩ = some (.int .i64 ((rd_T31 l0 x6_2).f2)) := (blk_cell BK150.out 2).trans rfl
                                  have hcz31_3 : wc.cell? ⟨gb150, 3, none⟩ = some (.int .i64 ((rd_T31 l0 x6_2).f3)) := (blk_cell BK150.out 3).trans rfl
                                  have hcz31_4 : wc.cell? ⟨gb150, 4, none⟩ = some (.int .i64 ((rd_T31 l0 x6_2).f4)) := (blk_cell BK150.out 4).trans rfl
                                  have hcz31_5 : wc.cell? ⟨gb150, 5, none⟩ = some (.int .u32 ((rd_T31 l0 x6_2).f5)) := (blk_cell BK150.out 5).trans rfl
                                  have hfz31_0 := blk_frozen BK150.out 0
                                  have hfz31_1 := blk_frozen BK150.out 1
                                  have hfz31_2 := blk_frozen BK150.out 2
                                  have hfz31_3 := blk_frozen BK150.out 3
                                  have hfz31_4 := blk_frozen BK150.out 4
                                  have hfz31_5 := blk_frozen BK150.out 5
                                  go_wp2
                                  go_roundg kj21
                                  case measure => have := HJ2.out; have := HK2.out; have := HJ11.out; have := HJ21.out; omega
                                  case rel => exact ⟨(wrap64 (x6_2 + 1)), (by first | rfl | (simp; done) | (simp [*]; done)), H', ⟨by have := HJ2.out; have := HK2.out; have := HJ11.out; have := HJ21.out; omega⟩, ⟨by repeat (first | (with_reducible first | exact HB.out | apply below_alloc | apply pw_below_drewN | apply below_drew1 | refine below_set ?_ GE150.out) | exact HB.out)⟩⟩
                                · rw [if_neg c30] at H
                                  have c30b0 : (((rd_T31 l0 x6_2).f0) == 6) = false := beq_eq_false_iff_ne.mpr c30
                                  have c30b1 : (((rd_T31 l0 x6_2).f0) != 6) = true := bne_iff_ne.mpr c30
                                  by_cases c32 : ((rd_T31 l0 x6_2).f0) = 9
                                  · rw [if_pos c32] at H
                                    have c32b0 : (((rd_T31 l0 x6_2).f0) == 9) = true := beq_iff_eq.mpr c32
                                    have c32b1 : (((rd_T31 l0 x6_2).f0) != 9) = false := bne_eq_false_iff_eq.mpr c32
                                    clear c32
                                    have H' := Aside0.mk H
                                    clear H
                                    have hcz33_0 : wc.cell? ⟨gb150, 0, none⟩ = some (.int .i64 ((rd_T31 l0 x6_2).f0)) := (blk_cell BK150.out 0).trans rfl
                                    have hcz33_1 : wc.cell? ⟨gb150, 1, none⟩ = some (.int .i64 ((rd_T31 l0 x6_2).f1)) := (blk_cell BK150.out 1).trans rfl
                                    have hcz33_2 : wc.cell? ⟨gb150, 2, none⟩ = some (.int .i64 ((rd_T31 l0 x6_2).f2)) := (blk_cell BK150.out 2).trans rfl
                                    have hcz33_3 : wc.cell? ⟨gb150, 3, none⟩ = some (.int .i64 ((rd_T31 l0 x6_2).f3)) := (blk_cell BK150.out 3).trans rfl
                                    have hcz33_4 : wc.cell? ⟨gb150, 4, none⟩ = some (.int .i64 ((rd_T31 l0 x6_2).f4)) := (blk_cell BK150.out 4).trans rfl
                                    have hcz33_5 : wc.cell? ⟨gb150, 5, none⟩ = some (.int .u32 ((rd_T31 l0 x6_2).f5)) := (blk_cell BK150.out 5).trans rfl
                                    have hfz33_0 := blk_frozen BK150.out 0
                                    have hfz33_1 := blk_frozen BK150.out 1
                                    have hfz33_2 := blk_frozen BK150.out 2
                                    have hfz33_3 := blk_frozen BK150.out 3
                                    have hfz33_4 := blk_frozen BK150.out 4
                                    have hfz33_5 := blk_frozen BK150.out 5
                                    go_wp2
                                    go_roundg kj21
                                    case measure => have := HJ2.out; have := HK2.out; have := HJ11.out; have := HJ21.out; omega
                                    case rel => exact ⟨(wrap64 (x6_2 + 1)), (by first | rfl | (simp; done) | (simp [*]; done)), H', ⟨by have := HJ2.out; have := HK2.out; have := HJ11.out; have := HJ21.out; omega⟩, ⟨by repeat (first | (with_reducible first | exact HB.out | apply below_alloc | apply pw_below_drewN | apply below_drew1 | refine below_set ?_ GE150.out) | exact HB.out)⟩⟩
                                  · rw [if_neg c32] at H
                                    have c32b0 : (((rd_T31 l0 x6_2).f0) == 9) = false := beq_eq_false_iff_ne.mpr c32
                                    have c32b1 : (((rd_T31 l0 x6_2).f0) != 9) = true := bne_iff_ne.mpr c32
                                    simp only [Option.some.injEq, Prod.mk.injEq] at H
                                    obtain ⟨rfl, rfl⟩ := H
                                    have hcz34_0 : wc.cell? ⟨gb150, 0, none⟩ = some (.int .i64 ((rd_T31 l0 x6_2).f0)) := (blk_cell BK150.out 0).trans rfl
                                    have hcz34_1 : wc.cell? ⟨gb150, 1, none⟩ = some (.int .i64 ((rd_T31 l0 x6_2).f1)) := (blk_cell BK150.out 1).trans rfl
                                    have hcz34_2 : wc.cell? ⟨gb150, 2, none⟩ = some (.int .i64 ((rd_T31 l0 x6_2).f2)) := (blk_cell BK150.out 2).trans rfl
                                    have hcz34_3 : wc.cell? ⟨gb150, 3, none⟩ = some (.int .i64 ((rd_T31 l0 x6_2).f3)) := (blk_cell BK150.out 3).trans rfl
                                    have hcz34_4 : wc.cell? ⟨gb150, 4, none⟩ = some (.int .i64 ((rd_T31 l0 x6_2).f4)) := (blk_cell BK150.out 4).trans rfl
                                    have hcz34_5 : wc.cell? ⟨gb150, 5, none⟩ = some (.int .u32 ((rd_T31 l0 x6_2).f5)) := (blk_cell BK150.out 5).trans rfl
                                    have hfz34_0 := blk_frozen BK150.out 0
                                    have hfz34_1 := blk_frozen BK150.out 1
                                    have hfz34_2 := blk_frozen BK150.out 2
                                    have hfz34_3 := blk_frozen BK150.out 3
                                    have hfz34_4 := blk_frozen BK150.out 4
                                    have hfz34_5 := blk_frozen BK150.out 5
                                    go_wp2
                                    go_ret2
                                    exact ⟨by first | rfl | (simp [errW_none, errW_some] <;> rfl) | (simp [*, errW_none, errW_some] <;> rfl), by repeat (first | (with_reducible first | exact HB.out | apply below_alloc | apply pw_below_drewN | apply below_drew1 | refine below_set ?_ GE150.out) | exact HB.out)⟩
                              · rw [if_neg c29] at H
                                have c29b0 : (x6_2 == (wrap64 ((l0.length : Int) - 1))) = false := beq_eq_false_iff_ne.mpr c29
                                have c29b1 : (x6_2 != (wrap64 ((l0.length : Int) - 1))) = true := bne_iff_ne.mpr c29
                                have H' := Aside0.mk H
                                clear H
                                go_wp2
                                go_roundg kj21
                                case measure => have := HJ2.out; have := HK2.out; have := HJ11.out; have := HJ21.out; omega
                                case rel => exact ⟨(wrap64 (x6_2 + 1)), (by first | rfl | (simp; done) | (simp [*]; done)), H', ⟨by have := HJ2.out; have := HK2.out; have := HJ11.out; have := HJ21.out; omega⟩, ⟨by repeat (first | (with_reducible first | exact HB.out | apply below_alloc | apply pw_below_drewN | apply below_drew1 | refine below_set ?_ GE150.out) | exact HB.out)⟩⟩
                · replace c11 := Bool.eq_false_iff.mpr c11
                  subst c11
                  have H1 : (some (14, x6_2)) = some (r1, r2) := by rw [if_neg (show ¬ (false = true) by decide)] at H; exact H
                  clear H
                  have H := H1
                  clear H1
                  simp only [Option.some.injEq, Prod.mk.injEq] at H
                  obtain ⟨rfl, rfl⟩ := H
                  have p149 : 0 ≤ (x6_2 : Int) := of_decide_eq_true (by first | (with_reducible assumption) | assumption)
                  have q149 : x6_2 < (l0.length : Int) := of_decide_eq_true (by first | (with_reducible assumption) | assumption)
                  obtain ⟨ad149, e149, hx149_0, hx149_1, hx149_2, hx149_3, hx149_4, hx149_5⟩ := at_T31 HR0.out x6_2 p149 q149
                  cases e149
                  replace hx149_0 := (HB.out.cell (World.block_lt_of_cell? w _ hx149_0)).trans hx149_0
                  replace hx149_1 := (HB.out.cell (World.block_lt_of_cell? w _ hx149_1)).trans hx149_1
                  replace hx149_2 := (HB.out.cell (World.block_lt_of_cell? w _ hx149_2)).trans hx149_2
                  replace hx149_3 := (HB.out.cell (World.block_lt_of_cell? w _ hx149_3)).trans hx149_3
                  replace hx149_4 := (HB.out.cell (World.block_lt_of_cell? w _ hx149_4)).trans hx149_4
                  replace hx149_5 := (HB.out.cell (World.block_lt_of_cell? w _ hx149_5)).trans hx149_5
                  replace p149 := eq_true p149
                  replace q149 := eq_true q149
                  go_wp2_with (first | ((with_reducible refine gate_dst (N := 7) rfl ?_); (try (refine gate_guard (by rfl) ?_; dsimp only)); refine box_event ?hg (N := 7) ?hd (cs := #[.int .i64 0, .int .i64 0, .int .i64 0, .int .i64 0, .int .i64 0, .int .u32 0]) (t := 31) ?hr ?_; (case hd => rfl); (case hg => rfl); (case hr => first | (go_simp; done) | (go_simp; rfl)); intro gb150 hg w35 hbox hb; have n0_ := Aside0.mk (below_step (by repeat (first | (with_reducible first | exact HB.out | apply below_alloc | apply pw_below_drewN | apply below_drew1) | exact HB.out)) hb); have n1_ := Aside0.mk (hbox); have n2_ := Aside0.mk ((by rw [hg]; exact (below_size (by repeat (first | (with_reducible first | exact HB.out | apply below_alloc | apply pw_below_drewN | apply below_drew1) | exact HB.out))) : w.heap.size ≤ gb150)); have n3_ := Aside0.mk ((by rw [hg]; exact (below_size (by repeat (first | (with_reducible first | exact HB.out | apply below_alloc | apply pw_below_drewN | apply below_drew1) | exact HB.out))) : w.heap.size ≤ gb150)); clear HB; have HB := n0_; have BK150 := n1_; have GW150 := n2_; have GE150 := n3_; clear n0_ n1_ n2_ n3_; clear hb hbox hg; have hcz36_0 : w35.cell? ⟨gb150, 0, none⟩ = some (.int .i64 0) := (blk_cell BK150.out 0).trans rfl; have hcz36_1 : w35.cell? ⟨gb150, 1, none⟩ = some (.int .i64 0) := (blk_cell BK150.out 1).trans rfl; have hcz36_2 : w35.cell? ⟨gb150, 2, none⟩ = some (.int .i64 0) := (blk_cell BK150.out 2).trans rfl; have hcz36_3 : w35.cell? ⟨gb150, 3, none⟩ = some (.int .i64 0) := (blk_cell BK150.out 3).trans rfl; have hcz36_4 : w35.cell? ⟨gb150, 4, none⟩ = some (.int .i64 0) := (blk_cell BK150.out 4).trans rfl; have hcz36_5 : w35.cell? ⟨gb150, 5, none⟩ = some (.int .u32 0) := (blk_cell BK150.out 5).trans rfl; have hfz36_0 := blk_frozen BK150.out 0; have hfz36_1 := blk_frozen BK150.out 1; have hfz36_2 := blk_frozen BK150.out 2; have hfz36_3 := blk_frozen BK150.out 3; have hfz36_4 := blk_frozen BK150.out 4; have hfz36_5 := blk_frozen BK150.out 5) | ((with_reducible refine gate_callee (f := 13) rfl ?_); refine goesL_ (some 35) rfl rfl Try.func13 (by kernel_rfl) rfl #[.agg #[.int .i64 ((rd_T31 l0 x6_2).f0), .int .i64 ((rd_T31 l0 x6_2).f1), .int .i64 ((rd_T31 l0 x6_2).f2), .int .i64 ((rd_T31 l0 x6_2).f3), .int .i64 ((rd_T31 l0 x6_2).f4), .int .u32 ((rd_T31 l0 x6_2).f5)]] rfl (by (try simp only [List.map_toArray, List.map_cons, List.map_nil]); first | done | rfl | (simp only [List.length_drop, List.length_take]; rfl)) ?_; (with_reducible refine (carlingref13_Right.calls k2 ((rd_T31 l0 x6_2).f0) ((rd_T31 l0 x6_2).f1) ((rd_T31 l0 x6_2).f2) ((rd_T31 l0 x6_2).f3) ((rd_T31 l0 x6_2).f4) ((rd_T31 l0 x6_2).f5) false _ A10.out).mono ?_); rintro e w37 ⟨rfl, hb⟩; refine ⟨_, rfl, ?_⟩; have n0_ := Aside0.mk (blk_below (g := gb150) (o := .cells #[.int .i64 ((rd_T31 l0 x6_2).f0), .int .i64 ((rd_T31 l0 x6_2).f1), .int .i64 ((rd_T31 l0 x6_2).f2), .int .i64 ((rd_T31 l0 x6_2).f3), .int .i64 ((rd_T31 l0 x6_2).f4), .int .u32 ((rd_T31 l0 x6_2).f5)] 31 (0, 0)) (by (with_reducible repeat (first | refine blk_drewN ?_ _ | refine blk_drew ?_ | refine blk_alloc ?_ _)); refine blk_put (cs := #[.int .i64 ((rd_T31 l0 x6_2).f0), .int .i64 ((rd_T31 l0 x6_2).f1), .int .i64 ((rd_T31 l0 x6_2).f2), .int .i64 ((rd_T31 l0 x6_2).f3), .int .i64 ((rd_T31 l0 x6_2).f4), .int .u32 0]) ?_ 5 _ rfl; (with_reducible repeat (first | refine blk_drewN ?_ _ | refine blk_drew ?_ | refine blk_alloc ?_ _)); refine blk_put (cs := #[.int .i64 ((rd_T31 l0 x6_2).f0), .int .i64 ((rd_T31 l0 x6_2).f1), .int .i64 ((rd_T31 l0 x6_2).f2), .int .i64 ((rd_T31 l0 x6_2).f3), .int .i64 0, .int .u32 0]) ?_ 4 _ rfl; (with_reducible repeat (first | refine blk_drewN ?_ _ | refine blk_drew ?_ | refine blk_alloc ?_ _)); refine blk_put (cs := #[.int .i64 ((rd_T31 l0 x6_2).f0), .int .i64 ((rd_T31 l0 x6_2).f1), .int .i64 ((rd_T31 l0 x6_2).f2), .int .i64 0, .int .i64 0, .int .u32 0]) ?_ 3 _ rfl; (with_reducible repeat (first | refine blk_drewN ?_ _ | refine blk_drew ?_ | refine blk_alloc ?_ _)); refine blk_put (cs := #[.int .i64 ((rd_T31 l0 x6_2).f0), .int .i64 ((rd_T31 l0 x6_2).f1), .int .i64 0, .int .i64 0, .int .i64 0, .int .u32 0]) ?_ 2 _ rfl; (with_reducible repeat (first | refine blk_drewN ?_ _ | refine blk_drew ?_ | refine blk_alloc ?_ _)); refine blk_put (cs := #[.int .i64 ((rd_T31 l0 x6_2).f0), .int .i64 0, .int .i64 0, .int .i64 0, .int .i64 0, .int .u32 0]) ?_ 1 _ rfl; (with_reducible repeat (first | refine blk_drewN ?_ _ | refine blk_drew ?_ | refine blk_alloc ?_ _)); refine blk_put (cs := #[.int .i64 0, .int .i64 0, .int .i64 0, .int .i64 0, .int .i64 0, .int .u32 0]) ?_ 0 _ rfl; (with_reducible repeat (first | refine blk_drewN ?_ _ | refine blk_drew ?_ | refine blk_alloc ?_ _)); exact BK150.out) hb); have n1_ := Aside0.mk (below_step (by repeat (first | (with_reducible first | exact HB.out | apply below_alloc | apply pw_below_drewN | apply below_drew1 | refine below_set ?_ GE150.out) | exact HB.out)) hb); clear BK150; clear HB; have BK150 := n0_; have HB := n1_; clear n0_ n1_; (try clear hb); (try clear hb2); (try clear hk); (try clear hi)))
                  go_ret2
                  exact ⟨by first | rfl | (simp [errW_none, errW_some] <;> rfl) | (simp [*, errW_none, errW_some] <;> rfl), by repeat (first | (with_reducible first | exact HB.out | apply below_alloc | apply pw_below_drewN | apply below_drew1 | refine below_set ?_ GE150.out) | exact HB.out)⟩
              · rw [if_neg c9] at H
                exact absurd H (by simp)
            · rw [if_neg c8] at H
              have c8b0 : decide (x6_2 < (l0.length : Int)) = false := decide_eq_false c8
              clear c8
              simp only [Option.some.injEq, Prod.mk.injEq] at H
              obtain ⟨rfl, rfl⟩ := H
              go_wp2
              go_ret2
              exact ⟨by first | rfl | (simp [errW_none, errW_some] <;> rfl) | (simp [*, errW_none, errW_some] <;> rfl), by repeat (first | (with_reducible first | exact HB.out | apply below_alloc | apply pw_below_drewN | apply below_drew1) | exact HB.out)⟩

end Go.Proofs.Ytnhianjjhkjeoaa.P
