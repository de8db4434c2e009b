/- Written by a program of this session (gp.py), which drives the printer of the kit: contracts of Go functions over the translation, and the rows of laws: each says what its theorems state. Conditions: as each theorem states them. -/
import Derived.Test.YtnhianjjhkjeoaaPx0
import Derived.Test.YtnhianjjhkjeoaaG3
namespace Go.Proofs.Ytnhianjjhkjeoaa.P
open Go.RowKit Go.Proofs.YtnhianjjhkjeoaaW.PrintWords Go.Proofs.YtnhianjjhkjeoaaW.PrintLast Go.Proofs.YtnhianjjhkjeoaaW.PrintMore
attribute [local go_sem] max2_int min2_int max_two min_two max_three min_three max_four min_four   -- for this text's walks alone
set_option linter.unusedVariables false
set_option linter.unusedSimpArgs false

/-! ### mach_Check: function 14 -/
mutual
def mach_Check.j0 : Nat → List (S31) → Int → Bool → Option (Int × Int)
  | 0, _, _, _ => none
  | k + 1, x0, x1, x23 => if x23 = true then (some (6, (-1))) else (mach_Check.l0 k x0 x1 x0 (x0.length : Int) 0)
def mach_Check.l0 : Nat → List (S31) → Int → List (S31) → Int → Int → Option (Int × Int)
  | 0, _, _, _, _, _ => none
  | k + 1, x0, x1, x24, x25, x26 => if x26 < x25 then (if 0 ≤ x26 then (if x26 < (x24.length : Int) then ((mach_Right.f ((rd_T31 x24 x26).f0) ((rd_T31 x24 x26).f1) ((rd_T31 x24 x26).f2) ((rd_T31 x24 x26).f3) ((rd_T31 x24 x26).f4) ((rd_T31 x24 x26).f5)).bind fun t112 => (if t112 = true then (if ((rd_T31 x24 x26).f0) = 4 then (mach_Check.j2 k x0 x1 x26 x24 x25 x26 (decide ((wrap64 ((rd_T31 x24 x26).f5)) ≥ x1)) ((rd_T31 x24 x26).f0) ((rd_T31 x24 x26).f1) ((rd_T31 x24 x26).f2) ((rd_T31 x24 x26).f3) ((rd_T31 x24 x26).f4) ((rd_T31 x24 x26).f5)) else (if ((rd_T31 x24 x26).f0) = 5 then (mach_Check.j2 k x0 x1 x26 x24 x25 x26 (decide ((wrap64 ((rd_T31 x24 x26).f5)) ≥ x1)) ((rd_T31 x24 x26).f0) ((rd_T31 x24 x26).f1) ((rd_T31 x24 x26).f2) ((rd_T31 x24 x26).f3) ((rd_T31 x24 x26).f4) ((rd_T31 x24 x26).f5)) else (mach_Check.j2 k x0 x1 x26 x24 x25 x26 false ((rd_T31 x24 x26).f0) ((rd_T31 x24 x26).f1) ((rd_T31 x24 x26).f2) ((rd_T31 x24 x26).f3) ((rd_T31 x24 x26).f4) ((rd_T31 x24 x26).f5)))) else (some (14, x26)))) else (none)) else (none)) else (some (0, (-1)))
def mach_Check.j2 : Nat → List (S31) → Int → Int → List (S31) → Int → Int → Bool → Int → Int → Int → Int → Int → Int → Option (Int × Int)
  | 0, _, _, _, _, _, _, _, _, _, _, _, _, _ => none
  | k + 1, x0, x1, x6, x24, x25, x26, x36, x112000, x112001, x112002, x112003, x112004, x112005 => if x36 = true then (some (16, x6)) else (if x112000 = 6 then (mach_Check.j3 k x0 x1 x6 x24 x25 x26 (decide ((wrap64 (x112005)) ≥ (x0.length : Int))) x112000 x112001 x112002 x112003 x112004 x112005) else (if x112000 = 7 then (mach_Check.j3 k x0 x1 x6 x24 x25 x26 (decide ((wrap64 (x112005)) ≥ (x0.length : Int))) x112000 x112001 x112002 x112003 x112004 x112005) else (if x112000 = 8 then (mach_Check.j3 k x0 x1 x6 x24 x25 x26 (decide ((wrap64 (x112005)) ≥ (x0.length : Int))) x112000 x112001 x112002 x112003 x112004 x112005) else (mach_Check.j3 k x0 x1 x6 x24 x25 x26 false x112000 x112001 x112002 x112003 x112004 x112005))))
def mach_Check.j3 : Nat → List (S31) → Int → Int → List (S31) → Int → Int → Bool → Int → Int → Int → Int → Int → Int → Option (Int × Int)
  | 0, _, _, _, _, _, _, _, _, _, _, _, _, _ => none
  | k + 1, x0, x1, x6, x24, x25, x26, x53, x112000, x112001, x112002, x112003, x112004, x112005 => if x53 = true then (some (17, x6)) else (if x6 = (wrap64 ((x0.length : Int) - 1)) then (if x112000 = 6 then (mach_Check.l0 k x0 x1 x24 x25 (wrap64 (x26 + 1))) else (if x112000 = 9 then (mach_Check.l0 k x0 x1 x24 x25 (wrap64 (x26 + 1))) else (some (18, x6)))) else (mach_Check.l0 k x0 x1 x24 x25 (wrap64 (x26 + 1))))
end
def mach_Check.f (k : Nat) (l0 : List (S31)) (a1 : Int) : Option (Int × Int) := if (l0.length : Int) = 0 then (mach_Check.j0 k l0 a1 true) else (if (l0.length : Int) > 20000 then (mach_Check.j0 k l0 a1 true) else (if a1 < 0 then (mach_Check.j0 k l0 a1 true) else (mach_Check.j0 k l0 a1 (decide (a1 > 4096)))))
theorem mach_Check.mono_l : ∀ k, (∀ y0 y1 y2, LeO (mach_Check.j0 k y0 y1 y2) (mach_Check.j0 (k + 1) y0 y1 y2)) ∧ (∀ y0 y1 y2 y3 y4, LeO (mach_Check.l0 k y0 y1 y2 y3 y4) (mach_Check.l0 (k + 1) y0 y1 y2 y3 y4)) ∧ (∀ y0 y1 y2 y3 y4 y5 y6 y7 y8 y9 y10 y11 y12, LeO (mach_Check.j2 k y0 y1 y2 y3 y4 y5 y6 y7 y8 y9 y10 y11 y12) (mach_Check.j2 (k + 1) y0 y1 y2 y3 y4 y5 y6 y7 y8 y9 y10 y11 y12)) ∧ (∀ y0 y1 y2 y3 y4 y5 y6 y7 y8 y9 y10 y11 y12, LeO (mach_Check.j3 k y0 y1 y2 y3 y4 y5 y6 y7 y8 y9 y10 y11 y12) (mach_Check.j3 (k + 1) y0 y1 y2 y3 y4 y5 y6 y7 y8 y9 y10 y11 y12))
  | 0 => ⟨fun _ _ _ r h => by simp [mach_Check.j0] at h, fun _ _ _ _ _ r h => by simp [mach_Check.l0] at h, fun _ _ _ _ _ _ _ _ _ _ _ _ _ r h => by simp [mach_Check.j2] at h, fun _ _ _ _ _ _ _ _ _ _ _ _ _ r h => by simp [mach_Check.j3] at h⟩
  | k + 1 => by
    obtain ⟨ih0, ih1, ih2, ih3⟩ := mach_Check.mono_l k
    refine ⟨?_, ?_, ?_, ?_⟩
    · intro y0 y1 y2
      unfold mach_Check.j0
      repeat' first
      | (with_reducible exact ih0 _ _ _)
      | (with_reducible exact ih1 _ _ _ _ _)
      | (with_reducible exact ih2 _ _ _ _ _ _ _ _ _ _ _ _ _)
      | (with_reducible exact ih3 _ _ _ _ _ _ _ _ _ _ _ _ _)
      | (with_reducible exact LeO.refl _)
      | (with_reducible exact LeO.none _)
      | (with_reducible refine LeO.ite ?_ ?_)
      | (with_reducible refine LeO.bind ?_ (fun _ => ?_))
      | exact ih0 _ _ _
      | exact ih1 _ _ _ _ _
      | exact ih2 _ _ _ _ _ _ _ _ _ _ _ _ _
      | exact ih3 _ _ _ _ _ _ _ _ _ _ _ _ _
      | exact LeO.none _
      | refine LeO.ite ?_ ?_
      | refine LeO.bind ?_ (fun _ => ?_)
    · intro y0 y1 y2 y3 y4
      unfold mach_Check.l0
      repeat' first
      | (with_reducible exact ih0 _ _ _)
      | (with_reducible exact ih1 _ _ _ _ _)
      | (with_reducible exact ih2 _ _ _ _ _ _ _ _ _ _ _ _ _)
      | (with_reducible exact ih3 _ _ _ _ _ _ _ _ _ _ _ _ _)
      | (with_reducible exact LeO.refl _)
      | (with_reducible exact LeO.none _)
      | (with_reducible refine LeO.ite ?_ ?_)
      | (with_reducible refine LeO.bind ?_ (fun _ => ?_))
      | exact ih0 _ _ _
      | exact ih1 _ _ _ _ _
      | exact ih2 _ _ _ _ _ _ _ _ _ _ _ _ _
      | exact ih3 _ _ _ _ _ _ _ _ _ _ _ _ _
      | exact LeO.none _
      | refine LeO.ite ?_ ?_
      | refine LeO.bind ?_ (fun _ => ?_)
    · intro y0 y1 y2 y3 y4 y5 y6 y7 y8 y9 y10 y11 y12
      unfold mach_Check.j2
      repeat' first
      | (with_reducible exact ih0 _ _ _)
      | (with_reducible exact ih1 _ _ _ _ _)
      | (with_reducible exact ih2 _ _ _ _ _ _ _ _ _ _ _ _ _)
      | (with_reducible exact ih3 _ _ _ _ _ _ _ _ _ _ _ _ _)
      | (with_reducible exact LeO.refl _)
      | (with_reducible exact LeO.none _)
      | (with_reducible refine LeO.ite ?_ ?_)
      | (with_reducible refine LeO.bind ?_ (fun _ => ?_))
      | exact ih0 _ _ _
      | exact ih1 _ _ _ _ _
      | exact ih2 _ _ _ _ _ _ _ _ _ _ _ _ _
      | exact ih3 _ _ _ _ _ _ _ _ _ _ _ _ _
      | exact LeO.none _
      | refine LeO.ite ?_ ?_
      | refine LeO.bind ?_ (fun _ => ?_)
    · intro y0 y1 y2 y3 y4 y5 y6 y7 y8 y9 y10 y11 y12
      unfold mach_Check.j3
      repeat' first
      | (with_reducible exact ih0 _ _ _)
      | (with_reducible exact ih1 _ _ _ _ _)
      | (with_reducible exact ih2 _ _ _ _ _ _ _ _ _ _ _ _ _)
      | (with_reducible exact ih3 _ _ _ _ _ _ _ _ _ _ _ _ _)
      | (with_reducible exact LeO.refl _)
      | (with_reducible exact LeO.none _)
      | (with_reducible refine LeO.ite ?_ ?_)
      | (with_reducible refine LeO.bind ?_ (fun _ => ?_))
      | exact ih0 _ _ _
      | exact ih1 _ _ _ _ _
      | exact ih2 _ _ _ _ _ _ _ _ _ _ _ _ _
      | exact ih3 _ _ _ _ _ _ _ _ _ _ _ _ _
      | exact LeO.none _
      | refine LeO.ite ?_ ?_
      | refine LeO.bind ?_ (fun _ => ?_)
theorem mach_Check.mono : ∀ a0 a1 k, LeO (mach_Check.f k a0 a1) (mach_Check.f (k + 1) a0 a1) := by
  intro a0 a1 k
  obtain ⟨ih0, ih1, ih2, ih3⟩ := mach_Check.mono_l k
  unfold mach_Check.f
  repeat' first
      | (with_reducible exact ih0 _ _ _)
      | (with_reducible exact ih1 _ _ _ _ _)
      | (with_reducible exact ih2 _ _ _ _ _ _ _ _ _ _ _ _ _)
      | (with_reducible exact ih3 _ _ _ _ _ _ _ _ _ _ _ _ _)
      | (with_reducible exact LeO.refl _)
      | (with_reducible exact LeO.none _)
      | (with_reducible refine LeO.ite ?_ ?_)
      | (with_reducible refine LeO.bind ?_ (fun _ => ?_))
      | exact ih0 _ _ _
      | exact ih1 _ _ _ _ _
      | exact ih2 _ _ _ _ _ _ _ _ _ _ _ _ _
      | exact ih3 _ _ _ _ _ _ _ _ _ _ _ _ _
      | exact LeO.none _
      | refine LeO.ite ?_ ?_
      | refine LeO.bind ?_ (fun _ => ?_)
set_option maxHeartbeats 8000000 in
set_option maxRecDepth 100000 in
theorem mach_Check.calls (k : Nat) (A0 : Option Addr) (c0 : Nat) (l0 : List (S31)) (a1 : Int) (r1 : Int) (r2 : Int) (w : World) (hr0 : Kd.C k31 w A0 l0.length l0) (hc0 : l0.length ≤ c0) (h : mach_Check.f k l0 a1 = some (r1, r2)) :
    Calls Try.prog 14 #[.slice A0 l0.length c0, .int .i64 a1] w fun e w' => e = .returned (.tuple #[.int .i64 r1, .int .i64 r2]) ∧ Below w.heap.size w w' := by
  have hu31 := Try.underlying31
  have HR0 := Aside0.mk hr0
  have HC0 := Aside0.mk hc0
  clear hr0 hc0
  have HB := Aside0.mk (Below.refl w.heap.size w)
  have H : (if (l0.length : Int) = 0 then (mach_Check.j0 k l0 a1 true) else (if (l0.length : Int) > 20000 then (mach_Check.j0 k l0 a1 true) else (if a1 < 0 then (mach_Check.j0 k l0 a1 true) else (mach_Check.j0 k l0 a1 (decide (a1 > 4096)))))) = some (r1, r2) := h
  clear h
  have HC3 := Aside0.mk H
  clear H
  go_enter Try.func14, Try.ntmps14
  go_upto_region 1 with (fail)
  go_cut [23] (fun v23 wc => ∃ (kq : Nat) (x23_2 : Bool), v23 = .bool x23_2 ∧ Aside0 (mach_Check.j0 kq l0 a1 x23_2 = some (r1, r2)) ∧ Aside0 (kq ≤ k) ∧ Aside0 (Below w.heap.size w wc))
  case first =>
    have H := HC3.out
    clear HC3
    by_cases c4 : (l0.length : Int) = 0
    · rw [if_pos c4] at H
      have c4b0 : ((l0.length : Int) == 0) = true := beq_iff_eq.mpr c4
      have c4b1 : ((l0.length : Int) != 0) = false := bne_eq_false_iff_eq.mpr c4
      clear c4
      (first | rw [c4b0] | (simp only [i64_w, i32_w]; rw [c4b0]) | skip)
      have H' := Aside0.mk H
      clear H
      go_wp2
      go_meet
      case rel => exact ⟨_, (true), (by first | rfl | (simp; done) | (simp [*]; done)), H', ⟨by first | omega | exact Nat.le_refl _⟩, ⟨by repeat (first | (with_reducible first | exact HB.out | apply below_alloc | apply pw_below_drewN | apply below_drew1) | exact HB.out)⟩⟩
    · rw [if_neg c4] at H
      have c4b0 : ((l0.length : Int) == 0) = false := beq_eq_false_iff_ne.mpr c4
      have c4b1 : ((l0.length : Int) != 0) = true := bne_iff_ne.mpr c4
      have c4b2 : ¬ (l0 = []) := fun h_ => c4 (by rw [h_]; rfl)
      (first | rw [c4b0] | (simp only [i64_w, i32_w]; rw [c4b0]) | skip)
      by_cases c5 : (l0.length : Int) > 20000
      · rw [if_pos c5] at H
        have c5b0 : decide (20000 < (l0.length : Int)) = true := decide_eq_true c5
        have c5b1 : decide (20000 < l0.length) = true := decide_eq_true (by omega)
        clear c5
        have H' := Aside0.mk H
        clear H
        go_wp2
        go_meet
        case rel => exact ⟨_, (true), (by first | rfl | (simp; done) | (simp [*]; done)), H', ⟨by first | omega | exact Nat.le_refl _⟩, ⟨by repeat (first | (with_reducible first | exact HB.out | apply below_alloc | apply pw_below_drewN | apply below_drew1) | exact HB.out)⟩⟩
      · rw [if_neg c5] at H
        have c5b0 : decide (20000 < (l0.length : Int)) = false := decide_eq_false c5
        have c5b1 : decide (20000 < l0.length) = false := decide_eq_false (by omega)
        clear c5
        by_cases c6 : a1 < 0
        · rw [if_pos c6] at H
          have c6b0 : decide (a1 < 0) = true := decide_eq_true c6
          clear c6
          have H' := Aside0.mk H
          clear H
          go_wp2
          go_meet
          case rel => exact ⟨_, (true), (by first | rfl | (simp; done) | (simp [*]; done)), H', ⟨by first | omega | exact Nat.le_refl _⟩, ⟨by repeat (first | (with_reducible first | exact HB.out | apply below_alloc | apply pw_below_drewN | apply below_drew1) | exact HB.out)⟩⟩
        · rw [if_neg c6] at H
          have c6b0 : decide (a1 < 0) = false := decide_eq_false c6
          clear c6
          have H' := Aside0.mk H
          clear H
          go_wp2
          go_meet
          case rel => exact ⟨_, (decide (a1 > 4096)), (by first | rfl | (simp; done) | (simp [*]; done)), H', ⟨by first | omega | exact Nat.le_refl _⟩, ⟨by repeat (first | (with_reducible first | exact HB.out | apply below_alloc | apply pw_below_drewN | apply below_drew1) | exact HB.out)⟩⟩
  case rest =>
    clear HC3
    try clear c1
    try clear p2
    try clear c4
    try clear c4b0
    try clear c4b1
    try clear c4b2
    try clear c5
    try clear c5b0
    try clear c5b1
    try clear c6
    try clear c6b0
    obtain ⟨kq, x23_2, rfl, HA, HJ2, HB⟩ := hcut
    cases kq with
    | zero => exact absurd HA.out (by simp [mach_Check.j0])
    | succ kj2 =>
      have H := HA.out
      clear HA
      simp only [mach_Check.j0] at H
      by_cases c7 : x23_2 = true
      · subst c7
        have H1 : (some (6, (-1))) = some (r1, r2) := by rw [if_pos rfl] at H; exact H
        clear H
        have H := H1
        clear H1
        simp only [Option.some.injEq, Prod.mk.injEq] at H
        obtain ⟨rfl, rfl⟩ := H
        go_wp2
        go_ret2
        exact ⟨by first | rfl | (simp [errW_none, errW_some] <;> rfl) | (simp [*, errW_none, errW_some] <;> rfl), by repeat (first | (with_reducible first | exact HB.out | apply below_alloc | apply pw_below_drewN | apply below_drew1) | exact HB.out)⟩
      · replace c7 := Bool.eq_false_iff.mpr c7
        subst c7
        have H1 : (mach_Check.l0 kj2 l0 a1 l0 (l0.length : Int) 0) = some (r1, r2) := by rw [if_neg (show ¬ (false = true) by decide)] at H; exact H
        clear H
        have H := H1
        clear H1
        have H' := Aside0.mk H
        clear H
        go_wp2
        go_loopg [26] kj2 (fun kq v26 w' => ∃ (x26_2 : Int), v26 = .int .i64 x26_2 ∧ Aside0 (mach_Check.l0 kq l0 a1 l0 (l0.length : Int) x26_2 = some (r1, r2)) ∧ Aside0 (kq ≤ kj2) ∧ Aside0 (Below w.heap.size w w'))
        case atStart => exact ⟨(0), (by first | rfl | (simp; done) | (simp [*]; done)), H', ⟨Nat.le_refl _⟩, ⟨by repeat (first | (with_reducible first | exact HB.out | apply below_alloc | apply pw_below_drewN | apply below_drew1) | exact HB.out)⟩⟩
        case round =>
          clear H'
          try clear c1
          try clear p2
          try clear c4
          try clear c4b0
          try clear c4b1
          try clear c4b2
          try clear c5
          try clear c5b0
          try clear c5b1
          try clear c6
          try clear c6b0
          try clear c7
          try clear p2
          obtain ⟨x26_2, rfl, HA, HK2, HB⟩ := hrel
          cases gk with
          | zero => exact absurd HA.out (by simp [mach_Check.l0])
          | succ k2 =>
            have H := HA.out
            clear HA
            simp only [mach_Check.l0] at H
            by_cases c8 : x26_2 < (l0.length : Int)
            · rw [if_pos c8] at H
              have c8b0 : decide (x26_2 < (l0.length : Int)) = true := decide_eq_true c8
              clear c8
              by_cases c9 : 0 ≤ x26_2
              · rw [if_pos c9] at H
                have c9b0 : decide (0 ≤ x26_2) = true := decide_eq_true c9
                clear c9
                by_cases c10 : x26_2 < (l0.length : Int)
                · rw [if_pos c10] at H
                  have c10b0 : decide (x26_2 < (l0.length : Int)) = true := decide_eq_true c10
                  clear c10
                  replace H := Option.bind_eq_some_iff.mp H
                  obtain ⟨t112, A110, H⟩ := H
                  replace H : (if t112 = true then (if ((rd_T31 l0 x26_2).f0) = 4 then (mach_Check.j2 k2 l0 a1 x26_2 l0 (l0.length : Int) x26_2 (decide ((wrap64 ((rd_T31 l0 x26_2).f5)) ≥ a1)) ((rd_T31 l0 x26_2).f0) ((rd_T31 l0 x26_2).f1) ((rd_T31 l0 x26_2).f2) ((rd_T31 l0 x26_2).f3) ((rd_T31 l0 x26_2).f4) ((rd_T31 l0 x26_2).f5)) else (if ((rd_T31 l0 x26_2).f0) = 5 then (mach_Check.j2 k2 l0 a1 x26_2 l0 (l0.length : Int) x26_2 (decide ((wrap64 ((rd_T31 l0 x26_2).f5)) ≥ a1)) ((rd_T31 l0 x26_2).f0) ((rd_T31 l0 x26_2).f1) ((rd_T31 l0 x26_2).f2) ((rd_T31 l0 x26_2).f3) ((rd_T31 l0 x26_2).f4) ((rd_T31 l0 x26_2).f5)) else (mach_Check.j2 k2 l0 a1 x26_2 l0 (l0.length : Int) x26_2 false ((rd_T31 l0 x26_2).f0) ((rd_T31 l0 x26_2).f1) ((rd_T31 l0 x26_2).f2) ((rd_T31 l0 x26_2).f3) ((rd_T31 l0 x26_2).f4) ((rd_T31 l0 x26_2).f5)))) else (some (14, x26_2))) = some (r1, r2) := H
                  have A11 := Aside0.mk A110
                  clear A110
                  by_cases c12 : t112 = true
                  · subst c12
                    have H1 : (if ((rd_T31 l0 x26_2).f0) = 4 then (mach_Check.j2 k2 l0 a1 x26_2 l0 (l0.length : Int) x26_2 (decide ((wrap64 ((rd_T31 l0 x26_2).f5)) ≥ a1)) ((rd_T31 l0 x26_2).f0) ((rd_T31 l0 x26_2).f1) ((rd_T31 l0 x26_2).f2) ((rd_T31 l0 x26_2).f3) ((rd_T31 l0 x26_2).f4) ((rd_T31 l0 x26_2).f5)) else (if ((rd_T31 l0 x26_2).f0) = 5 then (mach_Check.j2 k2 l0 a1 x26_2 l0 (l0.length : Int) x26_2 (decide ((wrap64 ((rd_T31 l0 x26_2).f5)) ≥ a1)) ((rd_T31 l0 x26_2).f0) ((rd_T31 l0 x26_2).f1) ((rd_T31 l0 x26_2).f2) ((rd_T31 l0 x26_2).f3) ((rd_T31 l0 x26_2).f4) ((rd_T31 l0 x26_2).f5)) else (mach_Check.j2 k2 l0 a1 x26_2 l0 (l0.length : Int) x26_2 false ((rd_T31 l0 x26_2).f0) ((rd_T31 l0 x26_2).f1) ((rd_T31 l0 x26_2).f2) ((rd_T31 l0 x26_2).f3) ((rd_T31 l0 x26_2).f4) ((rd_T31 l0 x26_2).f5)))) = some (r1, r2) := by rw [if_pos rfl] at H; exact H
                    clear H
                    have H := H1
                    clear H1
                    have HC13 := Aside0.mk H
                    clear H
                    have p110 : 0 ≤ (x26_2 : Int) := of_decide_eq_true (by first | (with_reducible assumption) | assumption)
                    have q110 : x26_2 < (l0.length : Int) := of_decide_eq_true (by first | (with_reducible assumption) | assumption)
                    obtain ⟨ad110, e110, hx110_0, hx110_1, hx110_2, hx110_3, hx110_4, hx110_5⟩ := at_T31 HR0.out x26_2 p110 q110
                    cases e110
                    replace hx110_0 := (HB.out.cell (World.block_lt_of_cell? w _ hx110_0)).trans hx110_0
                    replace hx110_1 := (HB.out.cell (World.block_lt_of_cell? w _ hx110_1)).trans hx110_1
                    replace hx110_2 := (HB.out.cell (World.block_lt_of_cell? w _ hx110_2)).trans hx110_2
                    replace hx110_3 := (HB.out.cell (World.block_lt_of_cell? w _ hx110_3)).trans hx110_3
                    replace hx110_4 := (HB.out.cell (World.block_lt_of_cell? w _ hx110_4)).trans hx110_4
                    replace hx110_5 := (HB.out.cell (World.block_lt_of_cell? w _ hx110_5)).trans hx110_5
                    replace p110 := eq_true p110
                    replace q110 := eq_true q110
                    go_upto_region 8 with (first | ((with_reducible refine gate_dst (N := 7) rfl ?_); (try (refine gate_guard (by rfl) ?_; dsimp only)); refine box_event ?hg (N := 7) ?hd (cs := #[.int .i64 0, .int .i64 0, .int .i64 0, .int .i64 0, .int .i64 0, .int .u32 0]) (t := 31) ?hr ?_; (case hd => rfl); (case hg => rfl); (case hr => first | (go_simp; done) | (go_simp; rfl)); intro gb111 hg w14 hbox hb; have n0_ := Aside0.mk (below_step (by repeat (first | (with_reducible first | exact HB.out | apply below_alloc | apply pw_below_drewN | apply below_drew1) | exact HB.out)) hb); have n1_ := Aside0.mk (hbox); have n2_ := Aside0.mk ((by rw [hg]; exact (below_size (by repeat (first | (with_reducible first | exact HB.out | apply below_alloc | apply pw_below_drewN | apply below_drew1) | exact HB.out))) : w.heap.size ≤ gb111)); have n3_ := Aside0.mk ((by rw [hg]; exact (below_size (by repeat (first | (with_reducible first | exact HB.out | apply below_alloc | apply pw_below_drewN | apply below_drew1) | exact HB.out))) : w.heap.size ≤ gb111)); clear HB; have HB := n0_; have BK111 := n1_; have GW111 := n2_; have GE111 := n3_; clear n0_ n1_ n2_ n3_; clear hb hbox hg; have hcz15_0 : w14.cell? ⟨gb111, 0, none⟩ = some (.int .i64 0) := (blk_cell BK111.out 0).trans rfl; have hcz15_1 : w14.cell? ⟨gb111, 1, none⟩ = some (.int .i64 0) := (blk_cell BK111.out 1).trans rfl; have hcz15_2 : w14.cell? ⟨gb111, 2, none⟩ = some (.int .i64 0) := (blk_cell BK111.out 2).trans rfl; have hcz15_3 : w14.cell? ⟨gb111, 3, none⟩ = some (.int .i64 0) := (blk_cell BK111.out 3).trans rfl; have hcz15_4 : w14.cell? ⟨gb111, 4, none⟩ = some (.int .i64 0) := (blk_cell BK111.out 4).trans rfl; have hcz15_5 : w14.cell? ⟨gb111, 5, none⟩ = some (.int .u32 0) := (blk_cell BK111.out 5).trans rfl; have hfz15_0 := blk_frozen BK111.out 0; have hfz15_1 := blk_frozen BK111.out 1; have hfz15_2 := blk_frozen BK111.out 2; have hfz15_3 := blk_frozen BK111.out 3; have hfz15_4 := blk_frozen BK111.out 4; have hfz15_5 := blk_frozen BK111.out 5) | ((with_reducible refine gate_callee (f := 12) rfl ?_); refine goesL_ (some 33) rfl rfl Try.func12 (by kernel_rfl) rfl #[.agg #[.int .i64 ((rd_T31 l0 x26_2).f0), .int .i64 ((rd_T31 l0 x26_2).f1), .int .i64 ((rd_T31 l0 x26_2).f2), .int .i64 ((rd_T31 l0 x26_2).f3), .int .i64 ((rd_T31 l0 x26_2).f4), .int .u32 ((rd_T31 l0 x26_2).f5)]] rfl (by (try simp only [List.map_toArray, List.map_cons, List.map_nil]); first | done | rfl | (simp only [List.length_drop, List.length_take]; rfl)) ?_; (with_reducible refine (mach_Right.calls ((rd_T31 l0 x26_2).f0) ((rd_T31 l0 x26_2).f1) ((rd_T31 l0 x26_2).f2) ((rd_T31 l0 x26_2).f3) ((rd_T31 l0 x26_2).f4) ((rd_T31 l0 x26_2).f5) true _ A11.out).mono ?_); rintro e w16 ⟨rfl, hb⟩; refine ⟨_, rfl, ?_⟩; have n0_ := Aside0.mk (blk_below (g := gb111) (o := .cells #[.int .i64 ((rd_T31 l0 x26_2).f0), .int .i64 ((rd_T31 l0 x26_2).f1), .int .i64 ((rd_T31 l0 x26_2).f2), .int .i64 ((rd_T31 l0 x26_2).f3), .int .i64 ((rd_T31 l0 x26_2).f4), .int .u32 ((rd_T31 l0 x26_2).f5)] 31 (0, 0)) (by (with_reducible repeat (first | refine blk_drewN ?_ _ | refine blk_drew ?_ | refine blk_alloc ?_ _)); refine blk_put (cs := #[.int .i64 ((rd_T31 l0 x26_2).f0), .int .i64 ((rd_T31 l0 x26_2).f1), .int .i64 ((rd_T31 l0 x26_2).f2), .int .i64 ((rd_T31 l0 x26_2).f3), .int .i64 ((rd_T31 l0 x26_2).f4), .int .u32 0]) ?_ 5 _ rfl; (with_reducible repeat (first | refine blk_drewN ?_ _ | refine blk_drew ?_ | refine blk_alloc ?_ _)); refine blk_put (cs := #[.int .i64 ((rd_T31 l0 x26_2).f0), .int .i64 ((rd_T31 l0 x26_2).f1), .int .i64 ((rd_T31 l0 x26_2).f2), .int .i64 ((rd_T31 l0 x26_2).f3), .int .i64 0, .int .u32 0]) ?_ 4 _ rfl; (with_reducible repeat (first | refine blk_drewN ?_ _ | refine blk_drew ?_ | refine blk_alloc ?_ _)); refine blk_put (cs := #[.int .i64 ((rd_T31 l0 x26_2).f0), .int .i64 ((rd_T31 l0 x26_2).f1), .int .i64 ((rd_T31 l0 x26_2).f2), .int .i64 0, .int .i64 0, .int .u32 0]) ?_ 3 _ rfl; (with_reducible repeat (first | refine blk_drewN ?_ _ | refine blk_drew ?_ | refine blk_alloc ?_ _)); refine blk_put (cs := #[.int .i64 ((rd_T31 l0 x26_2).f0), .int .i64 ((rd_T31 l0 x26_2).f1), .int .i64 0, .int .i64 0, .int .i64 0, .int .u32 0]) ?_ 2 _ rfl; (with_reducible repeat (first | refine blk_drewN ?_ _ | refine blk_drew ?_ | refine blk_alloc ?_ _)); refine blk_put (cs := #[.int .i64 ((rd_T31 l0 x26_2).f0), .int .i64 0, .int .i64 0, .int .i64 0, .int .i64 0, .int .u32 0]) ?_ 1 _ rfl; (with_reducible repeat (first | refine blk_drewN ?_ _ | refine blk_drew ?_ | refine blk_alloc ?_ _)); refine blk_put (cs := #[.int .i64 0, .int .i64 0, .int .i64 0, .int .i64 0, .int .i64 0, .int .u32 0]) ?_ 0 _ rfl; (with_reducible repeat (first | refine blk_drewN ?_ _ | refine blk_drew ?_ | refine blk_alloc ?_ _)); exact BK111.out) hb); have n1_ := Aside0.mk (below_step (by repeat (first | (with_reducible first | exact HB.out | apply below_alloc | apply pw_below_drewN | apply below_drew1 | refine below_set ?_ GE111.out) | exact HB.out)) hb); clear BK111; clear HB; have BK111 := n0_; have HB := n1_; clear n0_ n1_; (try clear hb); (try clear hb2); (try clear hk); (try clear hi)))
                    (try simp only [Act.put, List.setIfInBounds_toArray, List.set_cons_zero, List.set_cons_succ])
                    go_cut [36] (fun v36 wc => ∃ (kq : Nat) (x36_12 : Bool), v36 = .bool x36_12 ∧ Aside0 (mach_Check.j2 kq l0 a1 x26_2 l0 (l0.length : Int) x26_2 x36_12 ((rd_T31 l0 x26_2).f0) ((rd_T31 l0 x26_2).f1) ((rd_T31 l0 x26_2).f2) ((rd_T31 l0 x26_2).f3) ((rd_T31 l0 x26_2).f4) ((rd_T31 l0 x26_2).f5) = some (r1, r2)) ∧ Aside0 (kq ≤ k2) ∧ Aside0 (wc.heap[gb111]? = some (.cells #[.int .i64 ((rd_T31 l0 x26_2).f0), .int .i64 ((rd_T31 l0 x26_2).f1), .int .i64 ((rd_T31 l0 x26_2).f2), .int .i64 ((rd_T31 l0 x26_2).f3), .int .i64 ((rd_T31 l0 x26_2).f4), .int .u32 ((rd_T31 l0 x26_2).f5)] 31 (0, 0))) ∧ Aside0 (Below w.heap.size w wc))
                    case first =>
                      have H := HC13.out
                      clear HC13
                      by_cases c17 : ((rd_T31 l0 x26_2).f0) = 4
                      · rw [if_pos c17] at H
                        have c17b0 : (((rd_T31 l0 x26_2).f0) == 4) = true := beq_iff_eq.mpr c17
                        have c17b1 : (((rd_T31 l0 x26_2).f0) != 4) = false := bne_eq_false_iff_eq.mpr c17
                        clear c17
                        (first | rw [c17b0] | (simp only [i64_w, i32_w]; rw [c17b0]) | skip)
                        have H' := Aside0.mk H
                        clear H
                        have hcz18_0 : w16.cell? ⟨gb111, 0, none⟩ = some (.int .i64 ((rd_T31 l0 x26_2).f0)) := (blk_cell BK111.out 0).trans rfl
                        have hcz18_1 : w16.cell? ⟨gb111, 1, none⟩ = some (.int .i64 ((rd_T31 l0 x26_2).f1)) := (blk_cell BK111.out 1).trans rfl
                        have hcz18_2 : w16.cell? ⟨gb111, 2, none⟩ = some (.int .i64 ((rd_T31 l0 x26_2).f2)) := (blk_cell BK111.out 2).trans rfl
                        have hcz18_3 : w16.cell? ⟨gb111, 3, none⟩ = some (.int .i64 ((rd_T31 l0 x26_2).f3)) := (blk_cell BK111.out 3).trans rfl
                        have hcz18_4 : w16.cell? ⟨gb111, 4, none⟩ = some (.int .i64 ((rd_T31 l0 x26_2).f4)) := (blk_cell BK111.out 4).trans rfl
                        have hcz18_5 : w16.cell? ⟨gb111, 5, none⟩ = some (.int .u32 ((rd_T31 l0 x26_2).f5)) := (blk_cell BK111.out 5).trans rfl
                        have hfz18_0 := blk_frozen BK111.out 0
                        have hfz18_1 := blk_frozen BK111.out 1
                        have hfz18_2 := blk_frozen BK111.out 2
                        have hfz18_3 := blk_frozen BK111.out 3
                        have hfz18_4 := blk_frozen BK111.out 4
                        have hfz18_5 := blk_frozen BK111.out 5
                        go_wp2
                        go_meet
                        case rel => exact ⟨_, (decide ((wrap64 ((rd_T31 l0 x26_2).f5)) ≥ a1)), (by first | rfl | (simp; done) | (simp [*]; done)), H', ⟨by have := HJ2.out; have := HK2.out; first | omega | exact Nat.le_refl _⟩, ⟨by (with_reducible repeat (first | refine blk_drewN ?_ _ | refine blk_drew ?_ | refine blk_alloc ?_ _)); exact BK111.out⟩, ⟨by repeat (first | (with_reducible first | exact HB.out | apply below_alloc | apply pw_below_drewN | apply below_drew1 | refine below_set ?_ GE111.out) | exact HB.out)⟩⟩
                      · rw [if_neg c17] at H
                        have c17b0 : (((rd_T31 l0 x26_2).f0) == 4) = false := beq_eq_false_iff_ne.mpr c17
                        have c17b1 : (((rd_T31 l0 x26_2).f0) != 4) = true := bne_iff_ne.mpr c17
                        (first | rw [c17b0] | (simp only [i64_w, i32_w]; rw [c17b0]) | skip)
                        by_cases c19 : ((rd_T31 l0 x26_2).f0) = 5
                        · rw [if_pos c19] at H
                          have c19b0 : (((rd_T31 l0 x26_2).f0) == 5) = true := beq_iff_eq.mpr c19
                          have c19b1 : (((rd_T31 l0 x26_2).f0) != 5) = false := bne_eq_false_iff_eq.mpr c19
                          clear c19
                          have H' := Aside0.mk H
                          clear H
                          have hcz20_0 : w16.cell? ⟨gb111, 0, none⟩ = some (.int .i64 ((rd_T31 l0 x26_2).f0)) := (blk_cell BK111.out 0).trans rfl
                          have hcz20_1 : w16.cell? ⟨gb111, 1, none⟩ = some (.int .i64 ((rd_T31 l0 x26_2).f1)) := (blk_cell BK111.out 1).trans rfl
                          have hcz20_2 : w16.cell? ⟨gb111, 2, none⟩ = some (.int .i64 ((rd_T31 l0 x26_2).f2)) := (blk_cell BK111.out 2).trans rfl
                          have hcz20_3 : w16.cell? ⟨gb111, 3, none⟩ = some (.int .i64 ((rd_T31 l0 x26_2).f3)) := (blk_cell BK111.out 3).trans rfl
                          have hcz20_4 : w16.cell? ⟨gb111, 4, none⟩ = some (.int .i64 ((rd_T31 l0 x26_2).f4)) := (blk_cell BK111.out 4).trans rfl
                          have hcz20_5 : w16.cell? ⟨gb111, 5, none⟩ = some (.int .u32 ((rd_T31 l0 x26_2).f5)) := (blk_cell BK111.out 5).trans rfl
                          have hfz20_0 := blk_frozen BK111.out 0
                          have hfz20_1 := blk_frozen BK111.out 1
                          have hfz20_2 := blk_frozen BK111.out 2
                          have hfz20_3 := blk_frozen BK111.out 3
                          have hfz20_4 := blk_frozen BK111.out 4
                          have hfz20_5 := blk_frozen BK111.out 5
                          go_wp2
                          go_meet
                          case rel => exact ⟨_, (decide ((wrap64 ((rd_T31 l0 x26_2).f5)) ≥ a1)), (by first | rfl | (simp; done) | (simp [*]; done)), H', ⟨by have := HJ2.out; have := HK2.out; first | omega | exact Nat.le_refl _⟩, ⟨by (with_reducible repeat (first | refine blk_drewN ?_ _ | refine blk_drew ?_ | refine blk_alloc ?_ _)); exact BK111.out⟩, ⟨by repeat (first | (with_reducible first | exact HB.out | apply below_alloc | apply pw_below_drewN | apply below_drew1 | refine below_set ?_ GE111.out) | exact HB.out)⟩⟩
                        · rw [if_neg c19] at H
                          have c19b0 : (((rd_T31 l0 x26_2).f0) == 5) = false := beq_eq_false_iff_ne.mpr c19
                          have c19b1 : (((rd_T31 l0 x26_2).f0) != 5) = true := bne_iff_ne.mpr c19
                          have H' := Aside0.mk H
                          clear H
                          have hcz21_0 : w16.cell? ⟨gb111, 0, none⟩ = some (.int .i64 ((rd_T31 l0 x26_2).f0)) := (blk_cell BK111.out 0).trans rfl
                          have hcz21_1 : w16.cell? ⟨gb111, 1, none⟩ = some (.int .i64 ((rd_T31 l0 x26_2).f1)) := (blk_cell BK111.out 1).trans rfl
                          have hcz21_2 : w16.cell? ⟨gb111, 2, none⟩ = some (.int .i64 ((rd_T31 l0 x26_2).f2)) := (blk_cell BK111.out 2).trans rfl
                          have hcz21_3 : w16.cell? ⟨gb111, 3, none⟩ = some (.int .i64 ((rd_T31 l0 x26_2).f3)) := (blk_cell BK111.out 3).trans rfl
                          have hcz21_4 : w16.cell? ⟨gb111, 4, none⟩ = some (.int .i64 ((rd_T31 l0 x26_2).f4)) := (blk_cell BK111.out 4).trans rfl
                          have hcz21_5 : w16.cell? ⟨gb111, 5, none⟩ = some (.int .u32 ((rd_T31 l0 x26_2).f5)) := (blk_cell BK111.out 5).trans rfl
                          have hfz21_0 := blk_frozen BK111.out 0
                          have hfz21_1 := blk_frozen BK111.out 1
                          have hfz21_2 := blk_frozen BK111.out 2
                          have hfz21_3 := blk_frozen BK111.out 3
                          have hfz21_4 := blk_frozen BK111.out 4
                          have hfz21_5 := blk_frozen BK111.out 5
                          go_wp2
                          go_meet
                          case rel => exact ⟨_, (false), (by first | rfl | (simp; done) | (simp [*]; done)), H', ⟨by have := HJ2.out; have := HK2.out; first | omega | exact Nat.le_refl _⟩, ⟨by (with_reducible repeat (first | refine blk_drewN ?_ _ | refine blk_drew ?_ | refine blk_alloc ?_ _)); exact BK111.out⟩, ⟨by repeat (first | (with_reducible first | exact HB.out | apply below_alloc | apply pw_below_drewN | apply below_drew1 | refine below_set ?_ GE111.out) | exact HB.out)⟩⟩
                    case rest =>
                      clear HC13
                      try clear c1
                      try clear p1
                      try clear q1
                      try clear hx1
                      try clear p2
                      try clear c4
                      try clear c4b0
                      try clear c4b1
                      try clear c4b2
                      try clear c5
                      try clear c5b0
                      try clear c5b1
                      try clear c6
                      try clear c6b0
                      try clear p6
                      try clear c7
                      try clear c8
                      try clear c8b0
                      try clear c9
                      try clear c9b0
                      try clear c10
                      try clear c10b0
                      try clear p11
                      try clear q11
                      try clear hx11
                      try clear c12
                      try clear c14
                      try clear c17
                      try clear c17b0
                      try clear c17b1
                      try clear c19
                      try clear c19b0
                      try clear c19b1
                      try clear hcz15_0
                      try clear hcz15_1
                      try clear hcz15_2
                      try clear hcz15_3
                      try clear hcz15_4
                      try clear hcz15_5
                      try clear hcz18_0
                      try clear hcz18_1
                      try clear hcz18_2
                      try clear hcz18_3
                      try clear hcz18_4
                      try clear hcz18_5
                      try clear hcz20_0
                      try clear hcz20_1
                      try clear hcz20_2
                      try clear hcz20_3
                      try clear hcz20_4
                      try clear hcz20_5
                      try clear hcz21_0
                      try clear hcz21_1
                      try clear hcz21_2
                      try clear hcz21_3
                      try clear hcz21_4
                      try clear hcz21_5
                      try clear hfz15_0
                      try clear hfz15_1
                      try clear hfz15_2
                      try clear hfz15_3
                      try clear hfz15_4
                      try clear hfz15_5
                      try clear hfz18_0
                      try clear hfz18_1
                      try clear hfz18_2
                      try clear hfz18_3
                      try clear hfz18_4
                      try clear hfz18_5
                      try clear hfz20_0
                      try clear hfz20_1
                      try clear hfz20_2
                      try clear hfz20_3
                      try clear hfz20_4
                      try clear hfz20_5
                      try clear hfz21_0
                      try clear hfz21_1
                      try clear hfz21_2
                      try clear hfz21_3
                      try clear hfz21_4
                      try clear hfz21_5
                      try clear hx110_0
                      try clear hx110_1
                      try clear hx110_2
                      try clear hx110_3
                      try clear hx110_4
                      try clear hx110_5
                      try clear p110
                      try clear p2
                      try clear q110
                      obtain ⟨kq, x36_12, rfl, HA, HJ12, BK111, HB⟩ := hcut
                      cases kq with
                      | zero => exact absurd HA.out (by simp [mach_Check.j2])
                      | succ kj12 =>
                        have H := HA.out
                        clear HA
                        simp only [mach_Check.j2] at H
                        by_cases c22 : x36_12 = true
                        · subst c22
                          have H1 : (some (16, x26_2)) = some (r1, r2) := by rw [if_pos rfl] at H; exact H
                          clear H
                          have H := H1
                          clear H1
                          simp only [Option.some.injEq, Prod.mk.injEq] at H
                          obtain ⟨rfl, rfl⟩ := H
                          go_wp2
                          go_ret2
                          exact ⟨by first | rfl | (simp [errW_none, errW_some] <;> rfl) | (simp [*, errW_none, errW_some] <;> rfl), by repeat (first | (with_reducible first | exact HB.out | apply below_alloc | apply pw_below_drewN | apply below_drew1 | refine below_set ?_ GE111.out) | exact HB.out)⟩
                        · replace c22 := Bool.eq_false_iff.mpr c22
                          subst c22
                          have H1 : (if ((rd_T31 l0 x26_2).f0) = 6 then (mach_Check.j3 kj12 l0 a1 x26_2 l0 (l0.length : Int) x26_2 (decide ((wrap64 (((rd_T31 l0 x26_2).f5))) ≥ (l0.length : Int))) ((rd_T31 l0 x26_2).f0) ((rd_T31 l0 x26_2).f1) ((rd_T31 l0 x26_2).f2) ((rd_T31 l0 x26_2).f3) ((rd_T31 l0 x26_2).f4) ((rd_T31 l0 x26_2).f5)) else (if ((rd_T31 l0 x26_2).f0) = 7 then (mach_Check.j3 kj12 l0 a1 x26_2 l0 (l0.length : Int) x26_2 (decide ((wrap64 (((rd_T31 l0 x26_2).f5))) ≥ (l0.length : Int))) ((rd_T31 l0 x26_2).f0) ((rd_T31 l0 x26_2).f1) ((rd_T31 l0 x26_2).f2) ((rd_T31 l0 x26_2).f3) ((rd_T31 l0 x26_2).f4) ((rd_T31 l0 x26_2).f5)) else (if ((rd_T31 l0 x26_2).f0) = 8 then (mach_Check.j3 kj12 l0 a1 x26_2 l0 (l0.length : Int) x26_2 (decide ((wrap64 (((rd_T31 l0 x26_2).f5))) ≥ (l0.length : Int))) ((rd_T31 l0 x26_2).f0) ((rd_T31 l0 x26_2).f1) ((rd_T31 l0 x26_2).f2) ((rd_T31 l0 x26_2).f3) ((rd_T31 l0 x26_2).f4) ((rd_T31 l0 x26_2).f5)) else (mach_Check.j3 kj12 l0 a1 x26_2 l0 (l0.length : Int) x26_2 false ((rd_T31 l0 x26_2).f0) ((rd_T31 l0 x26_2).f1) ((rd_T31 l0 x26_2).f2) ((rd_T31 l0 x26_2).f3) ((rd_T31 l0 x26_2).f4) ((rd_T31 l0 x26_2).f5))))) = some (r1, r2) := by rw [if_neg (show ¬ (false = true) by decide)] at H; exact H
                          clear H
                          have H := H1
                          clear H1
                          have HC23 := Aside0.mk H
                          clear H
                          go_upto_region 10 with (fail)
                          go_cut [53] (fun v53 wc => ∃ (kq : Nat) (x53_22 : Bool), v53 = .bool x53_22 ∧ Aside0 (mach_Check.j3 kq l0 a1 x26_2 l0 (l0.length : Int) x26_2 x53_22 ((rd_T31 l0 x26_2).f0) ((rd_T31 l0 x26_2).f1) ((rd_T31 l0 x26_2).f2) ((rd_T31 l0 x26_2).f3) ((rd_T31 l0 x26_2).f4) ((rd_T31 l0 x26_2).f5) = some (r1, r2)) ∧ Aside0 (kq ≤ kj12) ∧ Aside0 (wc.heap[gb111]? = some (.cells #[.int .i64 ((rd_T31 l0 x26_2).f0), .int .i64 ((rd_T31 l0 x26_2).f1), .int .i64 ((rd_T31 l0 x26_2).f2), .int .i64 ((rd_T31 l0 x26_2).f3), .int .i64 ((rd_T31 l0 x26_2).f4), .int .u32 ((rd_T31 l0 x26_2).f5)] 31 (0, 0))) ∧ Aside0 (Below w.heap.size w wc))
                          case first =>
                            have H := HC23.out
                            clear HC23
                            by_cases c24 : ((rd_T31 l0 x26_2).f0) = 6
                            · rw [if_pos c24] at H
                              have c24b0 : (((rd_T31 l0 x26_2).f0) == 6) = true := beq_iff_eq.mpr c24
                              have c24b1 : (((rd_T31 l0 x26_2).f0) != 6) = false := bne_eq_false_iff_eq.mpr c24
                              clear c24
                              (first | rw [c24b0] | (simp only [i64_w, i32_w]; rw [c24b0]) | skip)
                              have H' := Aside0.mk H
                              clear H
                              have hcz25_0 : wc.cell? ⟨gb111, 0, none⟩ = some (.int .i64 ((rd_T31 l0 x26_2).f0)) := (blk_cell BK111.out 0).trans rfl
                              have hcz25_1 : wc.cell? ⟨gb111, 1, none⟩ = some (.int .i64 ((rd_T31 l0 x26_2).f1)) := (blk_cell BK111.out 1).trans rfl
                              have hcz25_2 : wc.cell? ⟨gb111, 2, none⟩ = some (.int .i64 ((rd_T31 l0 x26_2).f2)) := (blk_cell BK111.out 2).trans rfl
                              have hcz25_3 : wc.cell? ⟨gb111, 3, none⟩ = some (.int .i64 ((rd_T31 l0 x26_2).f3)) := (blk_cell BK111.out 3).trans rfl
                              have hcz25_4 : wc.cell? ⟨gb111, 4, none⟩ = some (.int .i64 ((rd_T31 l0 x26_2).f4)) := (blk_cell BK111.out 4).trans rfl
                              have hcz25_5 : wc.cell? ⟨gb111, 5, none⟩ = some (.int .u32 ((rd_T31 l0 x26_2).f5)) := (blk_cell BK111.out 5).trans rfl
                              have hfz25_0 := blk_frozen BK111.out 0
                              have hfz25_1 := blk_frozen BK111.out 1
                              have hfz25_2 := blk_frozen BK111.out 2
                              have hfz25_3 := blk_frozen BK111.out 3
                              have hfz25_4 := blk_frozen BK111.out 4
                              have hfz25_5 := blk_frozen BK111.out 5
                              go_wp2
                              go_meet
                              case rel => exact ⟨_, (decide ((wrap64 (((rd_T31 l0 x26_2).f5))) ≥ (l0.length : Int))), (by first | rfl | (simp; done) | (simp [*]; done)), H', ⟨by have := HJ2.out; have := HK2.out; have := HJ12.out; first | omega | exact Nat.le_refl _⟩, ⟨by (with_reducible repeat (first | refine blk_drewN ?_ _ | refine blk_drew ?_ | refine blk_alloc ?_ _)); exact BK111.out⟩, ⟨by repeat (first | (with_reducible first | exact HB.out | apply below_alloc | apply pw_below_drewN | apply below_drew1 | refine below_set ?_ GE111.out) | exact HB.out)⟩⟩
                            · rw [if_neg c24] at H
                              have c24b0 : (((rd_T31 l0 x26_2).f0) == 6) = false := beq_eq_false_iff_ne.mpr c24
                              have c24b1 : (((rd_T31 l0 x26_2).f0) != 6) = true := bne_iff_ne.mpr c24
                              (first | rw [c24b0] | (simp only [i64_w, i32_w]; rw [c24b0]) | skip)
                              by_cases c26 : ((rd_T31 l0 x26_2).f0) = 7
                              · rw [if_pos c26] at H
                                have c26b0 : (((rd_T31 l0 x26_2).f0) == 7) = true := beq_iff_eq.mpr c26
                                have c26b1 : (((rd_T31 l0 x26_2).f0) != 7) = false := bne_eq_false_iff_eq.mpr c26
                                clear c26
                                have H' := Aside0.mk H
                                clear H
                                have hcz27_0 : wc.cell? ⟨gb111, 0, none⟩ = some (.int .i64 ((rd_T31 l0 x26_2).f0)) := (blk_cell BK111.out 0).trans rfl
                                have hcz27_1 : wc.cell? ⟨gb111, 1, none⟩ = some (.int .i64 ((rd_T31 l0 x26_2).f1)) := (blk_cell BK111.out 1).trans rfl
                                have hcz27_2 : wc.cell? ⟨gb111, 2, none⟩ = some (.int .i64 ((rd_T31 l0 x26_2).f2)) := (blk_cell BK111.out 2).trans rfl
                                have hcz27_3 : wc.cell? ⟨gb111, 3, none⟩ = some (.int .i64 ((rd_T31 l0 x26_2).f3)) := (blk_cell BK111.out 3).trans rfl
                                have hcz27_4 : wc.cell? ⟨gb111, 4, none⟩ = some (.int .i64 ((rd_T31 l0 x26_2).f4)) := (blk_cell BK111.out 4).trans rfl
                                have hcz27_5 : wc.cell? ⟨gb111, 5, none⟩ = some (.int .u32 ((rd_T31 l0 x26_2).f5)) := (blk_cell BK111.out 5).trans rfl
                                have hfz27_0 := blk_frozen BK111.out 0
                                have hfz27_1 := blk_frozen BK111.out 1
                                have hfz27_2 := blk_frozen BK111.out 2
                                have hfz27_3 := blk_frozen BK111.out 3
                                have hfz27_4 := blk_frozen BK111.out 4
                                have hfz27_5 := blk_frozen BK111.out 5
                                go_wp2
                                go_meet
                                case rel => exact ⟨_, (decide ((wrap64 (((rd_T31 l0 x26_2).f5))) ≥ (l0.length : Int))), (by first | rfl | (simp; done) | (simp [*]; done)), H', ⟨by have := HJ2.out; have := HK2.out; have := HJ12.out; first | omega | exact Nat.le_refl _⟩, ⟨by (with_reducible repeat (first | refine blk_drewN ?_ _ | refine blk_drew ?_ | refine blk_alloc ?_ _)); exact BK111.out⟩, ⟨by repeat (first | (with_reducible first | exact HB.out | apply below_alloc | apply pw_below_drewN | apply below_drew1 | refine below_set ?_ GE111.out) | exact HB.out)⟩⟩
                              · rw [if_neg c26] at H
                                have c26b0 : (((rd_T31 l0 x26_2).f0) == 7) = false := beq_eq_false_iff_ne.mpr c26
                                have c26b1 : (((rd_T31 l0 x26_2).f0) != 7) = true := bne_iff_ne.mpr c26
                                by_cases c28 : ((rd_T31 l0 x26_2).f0) = 8
                                · rw [if_pos c28] at H
                                  have c28b0 : (((rd_T31 l0 x26_2).f0) == 8) = true := beq_iff_eq.mpr c28
                                  have c28b1 : (((rd_T31 l0 x26_2).f0) != 8) = false := bne_eq_false_iff_eq.mpr c28
                                  clear c28
                                  have H' := Aside0.mk H
                                  clear H
                                  have hcz29_0 : wc.cell? ⟨gb111, 0, none⟩ = some (.int .i64 ((rd_T31 l0 x26_2).f0)) := (blk_cell BK111.out 0).trans rfl
                                  have hcz29_1 : wc.cell? ⟨gb111, 1, none⟩ = some (.int .i64 ((rd_T31 l0 x26_2).f1)) := (blk_cell BK111.out 1).trans rfl
                                  have hcz29_2 : wc.cell? ⟨gb111, 2, none⟩ = some (.int .i64 ((rd_T31 l0 x26_2).f2)) := (blk_cell BK111.out 2).trans rfl
                                  have hcz29_3 : wc.cell? ⟨gb111, 3, none⟩ = some (.int .i64 ((rd_T31 l0 x26_2).f3)) := (blk_cell BK111.out 3).trans rfl
                                  have hcz29_4 : wc.cell? ⟨gb111, 4, none⟩ = some (.int .i64 ((rd_T31 l0 x26_2).f4)) := (blk_cell BK111.out 4).trans rfl
                                  have hcz29_5 : wc.cell? ⟨gb111, 5, none⟩ = some (.int .u32 ((rd_T31 l0 x26_2).f5)) := (blk_cell BK111.out 5).trans rfl
                                  have hfz29_0 := blk_frozen BK111.out 0
                                  have hfz29_1 := blk_frozen BK111.out 1
                                  have hfz29_2 := blk_frozen BK111.out 2
                                  have hfz29_3 := blk_frozen BK111.out 3
                                  have hfz29_4 := blk_frozen BK111.out 4
                                  have hfz29_5 := blk_frozen BK111.out 5
                                  go_wp2
                                  go_meet
                                  case rel => exact ⟨_, (decide ((wrap64 (((rd_T31 l0 x26_2).f5))) ≥ (l0.length : Int))), (by first | rfl | (simp; done) | (simp [*]; done)), H', ⟨by have := HJ2.out; have := HK2.out; have := HJ12.out; first | omega | exact Nat.le_refl _⟩, ⟨by (with_reducible repeat (first | refine blk_drewN ?_ _ | refine blk_drew ?_ | refine blk_alloc ?_ _)); exact BK111.out⟩, ⟨by repeat (first | (with_reducible first | exact HB.out | apply below_alloc | apply pw_below_drewN | apply below_drew1 | refine below_set ?_ GE111.out) | exact HB.out)⟩⟩
                                · rw [if_neg c28] at H
                                  have c28b0 : (((rd_T31 l0 x26_2).f0) == 8) = false := beq_eq_false_iff_ne.mpr c28
                                  have c28b1 : (((rd_T31 l0 x26_2).f0) != 8) = true := bne_iff_ne.mpr c28
                                  have H' := Aside0.mk H
                                  clear H
                                  have hcz30_0 : wc.cell? ⟨gb111, 0, none⟩ = some (.int .i64 ((rd_T31 l0 x26_2).f0)) := (blk_cell BK111.out 0).trans rfl
                                  have hcz30_1 : wc.cell? ⟨gb111, 1, none⟩ = some (.int .i64 ((rd_T31 l0 x26_2).f1)) := (blk_cell BK111.out 1).trans rfl
                                  have hcz30_2 : wc.cell? ⟨gb111, 2, none⟩ = some (.int .i64 ((rd_T31 l0 x26_2).f2)) := (blk_cell BK111.out 2).trans rfl
                                  have hcz30_3 : wc.cell? ⟨gb111, 3, none⟩ = some (.int .i64 ((rd_T31 l0 x26_2).f3)) := (blk_cell BK111.out 3).trans rfl
                                  have hcz30_4 : wc.cell? ⟨gb111, 4, none⟩ = some (.int .i64 ((rd_T31 l0 x26_2).f4)) := (blk_cell BK111.out 4).trans rfl
                                  have hcz30_5 : wc.cell? ⟨gb111, 5, none⟩ = some (.int .u32 ((rd_T31 l0 x26_2).f5)) := (blk_cell BK111.out 5).trans rfl
                                  have hfz30_0 := blk_frozen BK111.out 0
                                  have hfz30_1 := blk_frozen BK111.out 1
                                  have hfz30_2 := blk_frozen BK111.out 2
                                  have hfz30_3 := blk_frozen BK111.out 3
                                  have hfz30_4 := blk_frozen BK111.out 4
                                  have hfz30_5 := blk_frozen BK111.out 5
                                  go_wp2
                                  go_meet
                                  case rel => exact ⟨_, (false), (by first | rfl | (simp; done) | (simp [*]; done)), H', ⟨by have := HJ2.out; have := HK2.out; have := HJ12.out; first | omega | exact Nat.le_refl _⟩, ⟨by (with_reducible repeat (first | refine blk_drewN ?_ _ | refine blk_drew ?_ | refine blk_alloc ?_ _)); exact BK111.out⟩, ⟨by repeat (first | (with_reducible first | exact HB.out | apply below_alloc | apply pw_below_drewN | apply below_drew1 | refine below_set ?_ GE111.out) | exact HB.out)⟩⟩
                          case rest =>
                            clear HC23
                            try clear c1
                            try clear p1
                            try clear q1
                            try clear hx1
                            try clear c2
                            try clear p2
                            try clear c4
                            try clear c4b0
                            try clear c4b1
                            try clear c4b2
                            try clear c5
                            try clear c5b0
                            try clear c5b1
                            try clear c6
                            try clear c6b0
                            try clear p6
                            try clear c7
                            try clear c8
                            try clear c8b0
                            try clear c9
                            try clear c9b0
                            try clear c10
                            try clear c10b0
                            try clear p11
                            try clear q11
                            try clear hx11
                            try clear c12
                            try clear c14
                            try clear c17
                            try clear c17b0
                            try clear c17b1
                            try clear c19
                            try clear c19b0
                            try clear c19b1
                            try clear c22
                            try clear c24
                            try clear c24b0
                            try clear c24b1
                            try clear c26
                            try clear c26b0
                            try clear c26b1
                            try clear c28
                            try clear c28b0
                            try clear c28b1
                            try clear hcz15_0
                            try clear hcz15_1
                            try clear hcz15_2
                            try clear hcz15_3
                            try clear hcz15_4
                            try clear hcz15_5
                            try clear hcz18_0
                            try clear hcz18_1
                            try clear hcz18_2
                            try clear hcz18_3
                            try clear hcz18_4
                            try clear hcz18_5
                            try clear hcz20_0
                            try clear hcz20_1
                            try clear hcz20_2
                            try clear hcz20_3
                            try clear hcz20_4
                            try clear hcz20_5
                            try clear hcz21_0
                            try clear hcz21_1
                            try clear hcz21_2
                            try clear hcz21_3
                            try clear hcz21_4
                            try clear hcz21_5
                            try clear hcz25_0
                            try clear hcz25_1
                            try clear hcz25_2
                            try clear hcz25_3
                            try clear hcz25_4
                            try clear hcz25_5
                            try clear hcz27_0
                            try clear hcz27_1
                            try clear hcz27_2
                            try clear hcz27_3
                            try clear hcz27_4
                            try clear hcz27_5
                            try clear hcz29_0
                            try clear hcz29_1
                            try clear hcz29_2
                            try clear hcz29_3
                            try clear hcz29_4
                            try clear hcz29_5
                            try clear hcz30_0
                            try clear hcz30_1
                            try clear hcz30_2
                            try clear hcz30_3
                            try clear hcz30_4
                            try clear hcz30_5
                            try clear hfz15_0
                            try clear hfz15_1
                            try clear hfz15_2
                            try clear hfz15_3
                            try clear hfz15_4
                            try clear hfz15_5
                            try clear hfz18_0
                            try clear hfz18_1
                            try clear hfz18_2
                            try clear hfz18_3
                            try clear hfz18_4
                            try clear hfz18_5
                            try clear hfz20_0
                            try clear hfz20_1
                            try clear hfz20_2
                            try clear hfz20_3
                            try clear hfz20_4
                            try clear hfz20_5
                            try clear hfz21_0
                            try clear hfz21_1
                            try clear hfz21_2
                            try clear hfz21_3
                            try clear hfz21_4
                            try clear hfz21_5
                            try clear hfz25_0
                            try clear hfz25_1
                            try clear hfz25_2
                            try clear hfz25_3
                            try clear hfz25_4
                            try clear hfz25_5
                            try clear hfz27_0
                            try clear hfz27_1
                            try clear hfz27_2
                            try clear hfz27_3
                            try clear hfz27_4
                            try clear hfz27_5
                            try clear hfz29_0
                            try clear hfz29_1
                            try clear hfz29_2
                            try clear hfz29_3
                            try clear hfz29_4
                            try clear hfz29_5
                            try clear hfz30_0
                            try clear hfz30_1
                            try clear hfz30_2
                            try clear hfz30_3
                            try clear hfz30_4
                            try clear hfz30_5
                            try clear hx110_0
                            try clear hx110_1
                            try clear hx110_2
                            try clear hx110_3
                            try clear hx110_4
                            try clear hx110_5
                            try clear p1
                            try clear p11
                            try clear p110
                            try clear p2
                            try clear p6
                            try clear q1
                            try clear q11
                            try clear q110
                            obtain ⟨kq, x53_22, rfl, HA, HJ22, BK111, HB⟩ := hcut
                            cases kq with
                            | zero => exact absurd HA.out (by simp [mach_Check.j3])
                            | succ kj22 =>
                              have H := HA.out
                              clear HA
                              simp only [mach_Check.j3] at H
                              by_cases c31 : x53_22 = true
                              · subst c31
                                have H1 : (some (17, x26_2)) = some (r1, r2) := by rw [if_pos rfl] at H; exact H
                                clear H
                                have H := H1
                                clear H1
                                simp only [Option.some.injEq, Prod.mk.injEq] at H
                                obtain ⟨rfl, rfl⟩ := H
                                go_wp2
                                go_ret2
                                exact ⟨by first | rfl | (simp [errW_none, errW_some] <;> rfl) | (simp [*, errW_none, errW_some] <;> rfl), by repeat (first | (with_reducible first | exact HB.out | apply below_alloc | apply pw_below_drewN | apply below_drew1 | refine below_set ?_ GE111.out) | exact HB.out)⟩
                              · replace c31 := Bool.eq_false_iff.mpr c31
                                subst c31
                                have H1 : (if x26_2 = (wrap64 ((l0.length : Int) - 1)) then (if ((rd_T31 l0 x26_2).f0) = 6 then (mach_Check.l0 kj22 l0 a1 l0 (l0.length : Int) (wrap64 (x26_2 + 1))) else (if ((rd_T31 l0 x26_2).f0) = 9 then (mach_Check.l0 kj22 l0 a1 l0 (l0.length : Int) (wrap64 (x26_2 + 1))) else (some (18, x26_2)))) else (mach_Check.l0 kj22 l0 a1 l0 (l0.length : Int) (wrap64 (x26_2 + 1)))) = some (r1, r2) := by rw [if_neg (show ¬ (false = true) by decide)] at H; exact H
                                clear H
                                have H := H1
                                clear H1
                                by_cases c32 : x26_2 = (wrap64 ((l0.length : Int) - 1))
                                · rw [if_pos c32] at H
                                  have c32b0 : (x26_2 == (wrap64 ((l0.length : Int) - 1))) = true := beq_iff_eq.mpr c32
                                  have c32b1 : (x26_2 != (wrap64 ((l0.length : Int) - 1))) = false := bne_eq_false_iff_eq.mpr c32
                                  clear c32
                                  by_cases c33 : ((rd_T31 l0 x26_2).f0) = 6
                                  · rw [if_pos c33] at H
                                    have c33b0 : (((rd_T31 l0 x26_2).f0) == 6) = true := beq_iff_eq.mpr c33
                                    have c33b1 : (((rd_T31 l0 x26_2).f0) != 6) = false := bne_eq_false_iff_eq.mpr c33
                                    clear c33
                                    have H' := Aside0.mk H
                                    clear H
                                    have hcz34_0 : wc.cell? ⟨gb111, 0, none⟩ = some (.int .i64 ((rd_T31 l0 x26_2).f0)) := (blk_cell BK111.out 0).trans rfl
                                    have hcz34_1 : wc.cell? ⟨gb111, 1, none⟩ = some (.int .i64 ((rd_T31 l0 x26_2).f1)) := (blk_cell BK111.out 1).trans rfl
                                    have hcz34_2 : wc.cell? ⟨gb111, 2, none⟩ = some (.int .i64 ((rd_T31 l0 x26_2).f2)) := (blk_cell BK111.out 2).trans rfl
                                    have hcz34_3 : wc.cell? ⟨gb111, 3, none⟩ = some (.int .i64 ((rd_T31 l0 x26_2).f3)) := (blk_cell BK111.out 3).trans rfl
                                    have hcz34_4 : wc.cell? ⟨gb111, 4, none⟩ = some (.int .i64 ((rd_T31 l0 x26_2).f4)) := (blk_cell BK111.out 4).trans rfl
                                    have hcz34_5 : wc.cell? ⟨gb111, 5, none⟩ = some (.int .u32 ((rd_T31 l0 x26_2).f5)) := (blk_cell BK111.out 5).trans rfl
                                    have hfz34_0 := blk_frozen BK111.out 0
                                    have hfz34_1 := blk_frozen BK111.out 1
                                    have hfz34_2 := blk_frozen BK111.out 2
                                    have hfz34_3 := blk_frozen BK111.out 3
                                    have hfz34_4 := blk_frozen BK111.out 4
                                    have hfz34_5 := blk_frozen BK111.out 5
                                    go_wp2
                                    go_roundg kj22
                                    case measure => have := HJ2.out; have := HK2.out; have := HJ12.out; have := HJ22.out; omega
                                    case rel => exact ⟨(wrap64 (x26_2 + 1)), (by first | rfl | (simp; done) | (simp [*]; done)), H', ⟨by have := HJ2.out; have := HK2.out; have := HJ12.out; have := HJ22.out; omega⟩, ⟨by repeat (first | (with_reducible first | exact HB.out | apply below_alloc | apply pw_below_drewN | apply below_drew1 | refine below_set ?_ GE111.out) | exact HB.out)⟩⟩
                                  · rw [if_neg c33] at H
                                    have c33b0 : (((rd_T31 l0 x26_2).f0) == 6) = false := beq_eq_false_iff_ne.mpr c33
                                    have c33b1 : (((rd_T31 l0 x26_2).f0) != 6) = true := bne_iff_ne.mpr c33
                                    by_cases c35 : ((rd_T31 l0 x26_2).f0) = 9
                                    · rw [if_pos c35] at H
                                      have c35b0 : (((rd_T31 l0 x26_2).f0) == 9) = true := beq_iff_eq.mpr c35
                                      have c35b1 : (((rd_T31 l0 x26_2).f0) != 9) = false := bne_eq_false_iff_eq.mpr c35
                                      clear c35
                                      have H' := Aside0.mk H
                                      clear H
                                      have hcz36_0 : wc.cell? ⟨gb111, 0, none⟩ = some (.int .i64 ((rd_T31 l0 x26_2).f0)) := (blk_cell BK111.out 0).trans rfl
                                      have hcz36_1 : wc.cell? ⟨gb111, 1, none⟩ = some (.int .i64 ((rd_T31 l0 x26_2).f1)) := (blk_cell BK111.out 1).trans rfl
                                      have hcz36_2 : wc.cell? ⟨gb111, 2, none⟩ = some (.int .i64 ((rd_T31 l0 x26_2).f2)) := (blk_cell BK111.out 2).trans rfl
                                      have hcz36_3 : wc.cell? ⟨gb111, 3, none⟩ = some (.int .i64 ((rd_T31 l0 x26_2).f3)) := (blk_cell BK111.out 3).trans rfl
                                      have hcz36_4 : wc.cell? ⟨gb111, 4, none⟩ = some (.int .i64 ((rd_T31 l0 x26_2).f4)) := (blk_cell BK111.out 4).trans rfl
                                      have hcz36_5 : wc.cell? ⟨gb111, 5, none⟩ = some (.int .u32 ((rd_T31 l0 x26_2).f5)) := (blk_cell BK111.out 5).trans rfl
                                      have hfz36_0 := blk_frozen BK111.out 0
                                      have hfz36_1 := blk_frozen BK111.out 1
                                      have hfz36_2 := blk_frozen BK111.out 2
                                      have hfz36_3 := blk_frozen BK111.out 3
                                      have hfz36_4 := blk_frozen BK111.out 4
                                      have hfz36_5 := blk_frozen BK111.out 5
                                      go_wp2
                                      go_roundg kj22
                                      case measure => have := HJ2.out; have := HK2.out; have := HJ12.out; have := HJ22.out; omega
                                      case rel => exact ⟨(wrap64 (x26_2 + 1)), (by first | rfl | (simp; done) | (simp [*]; done)), H', ⟨by have := HJ2.out; have := HK2.out; have := HJ12.out; have := HJ22.out; omega⟩, ⟨by repeat (first | (with_reducible first | exact HB.out | apply below_alloc | apply pw_below_drewN | apply below_drew1 | refine below_set ?_ GE111.out) | exact HB.out)⟩⟩
                                    · rw [if_neg c35] at H
                                      have c35b0 : (((rd_T31 l0 x26_2).f0) == 9) = false := beq_eq_false_iff_ne.mpr c35
                                      have c35b1 : (((rd_T31 l0 x26_2).f0) != 9) = true := bne_iff_ne.mpr c35
                                      simp only [Option.some.injEq, Prod.mk.injEq] at H
                                      obtain ⟨rfl, rfl⟩ := H
                                      have hcz37_0 : wc.cell? ⟨gb111, 0, none⟩ = some (.int .i64 ((rd_T31 l0 x26_2).f0)) := (blk_cell BK111.out 0).trans rfl
                                      have hcz37_1 : wc.cell? ⟨gb111, 1, none⟩ = some (.int .i64 ((rd_T31 l0 x26_2).f1)) := (blk_cell BK111.out 1).trans rfl
                                      have hcz37_2 : wc.cell? ⟨gb111, 2, none⟩ = some (.int .i64 ((rd_T31 l0 x26_2).f2)) := (blk_cell BK111.out 2).trans rfl
                                      have hcz37_3 : wc.cell? ⟨gb111, 3, none⟩ = some (.int .i64 ((rd_T31 l0 x26_2).f3)) := (blk_cell BK111.out 3).trans rfl
                                      have hcz37_4 : wc.cell? ⟨gb111, 4, none⟩ = some (.int .i64 ((rd_T31 l0 x26_2).f4)) := (blk_cell BK111.out 4).trans rfl
                                      have hcz37_5 : wc.cell? ⟨gb111, 5, none⟩ = some (.int .u32 ((rd_T31 l0 x26_2).f5)) := (blk_cell BK111.out 5).trans rfl
                                      have hfz37_0 := blk_frozen BK111.out 0
                                      have hfz37_1 := blk_frozen BK111.out 1
                                      have hfz37_2 := blk_frozen BK111.out 2
                                      have hfz37_3 := blk_frozen BK111.out 3
                                      have hfz37_4 := blk_frozen BK111.out 4
                                      have hfz37_5 := blk_frozen BK111.out 5
                                      go_wp2
                                      go_ret2
                                      exact ⟨by first | rfl | (simp [errW_none, errW_some] <;> rfl) | (simp [*, errW_none, errW_some] <;> rfl), by repeat (first | (with_reducible first | exact HB.out | apply below_alloc | apply pw_below_drewN | apply below_drew1 | refine below_set ?_ GE111.out) | exact HB.out)⟩
                                · rw [if_neg c32] at H
                                  have c32b0 : (x26_2 == (wrap64 ((l0.length : Int) - 1))) = false := beq_eq_false_iff_ne.mpr c32
                                  have c32b1 : (x26_2 != (wrap64 ((l0.length : Int) - 1))) = true := bne_iff_ne.mpr c32
                                  have H' := Aside0.mk H
                                  clear H
                                  go_wp2
                                  go_roundg kj22
                                  case measure => have := HJ2.out; have := HK2.out; have := HJ12.out; have := HJ22.out; omega
                                  case rel => exact ⟨(wrap64 (x26_2 + 1)), (by first | rfl | (simp; done) | (simp [*]; done)), H', ⟨by have := HJ2.out; have := HK2.out; have := HJ12.out; have := HJ22.out; omega⟩, ⟨by repeat (first | (with_reducible first | exact HB.out | apply below_alloc | apply pw_below_drewN | apply below_drew1 | refine below_set ?_ GE111.out) | exact HB.out)⟩⟩
                  · replace c12 := Bool.eq_false_iff.mpr c12
                    subst c12
                    have H1 : (some (14, x26_2)) = some (r1, r2) := by rw [if_neg (show ¬ (false = true) by decide)] at H; exact H
                    clear H
                    have H := H1
                    clear H1
                    simp only [Option.some.injEq, Prod.mk.injEq] at H
                    obtain ⟨rfl, rfl⟩ := H
                    have p110 : 0 ≤ (x26_2 : Int) := of_decide_eq_true (by first | (with_reducible assumption) | assumption)
                    have q110 : x26_2 < (l0.length : Int) := of_decide_eq_true (by first | (with_reducible assumption) | assumption)
                    obtain ⟨ad110, e110, hx110_0, hx110_1, hx110_2, hx110_3, hx110_4, hx110_5⟩ := at_T31 HR0.out x26_2 p110 q110
                    cases e110
                    replace hx110_0 := (HB.out.cell (World.block_lt_of_cell? w _ hx110_0)).trans hx110_0
                    replace hx110_1 := (HB.out.cell (World.block_lt_of_cell? w _ hx110_1)).trans hx110_1
                    replace hx110_2 := (HB.out.cell (World.block_lt_of_cell? w _ hx110_2)).trans hx110_2
                    replace hx110_3 := (HB.out.cell (World.block_lt_of_cell? w _ hx110_3)).trans hx110_3
                    replace hx110_4 := (HB.out.cell (World.block_lt_of_cell? w _ hx110_4)).trans hx110_4
                    replace hx110_5 := (HB.out.cell (World.block_lt_of_cell? w _ hx110_5)).trans hx110_5
                    replace p110 := eq_true p110
                    replace q110 := eq_true q110
                    go_wp2_with (first | ((with_reducible refine gate_dst (N := 7) rfl ?_); (try (refine gate_guard (by rfl) ?_; dsimp only)); refine box_event ?hg (N := 7) ?hd (cs := #[.int .i64 0, .int .i64 0, .int .i64 0, .int .i64 0, .int .i64 0, .int .u32 0]) (t := 31) ?hr ?_; (case hd => rfl); (case hg => rfl); (case hr => first | (go_simp; done) | (go_simp; rfl)); intro gb111 hg w38 hbox hb; have n0_ := Aside0.mk (below_step (by repeat (first | (with_reducible first | exact HB.out | apply below_alloc | apply pw_below_drewN | apply below_drew1) | exact HB.out)) hb); have n1_ := Aside0.mk (hbox); have n2_ := Aside0.mk ((by rw [hg]; exact (below_size (by repeat (first | (with_reducible first | exact HB.out | apply below_alloc | apply pw_below_drewN | apply below_drew1) | exact HB.out))) : w.heap.size ≤ gb111)); have n3_ := Aside0.mk ((by rw [hg]; exact (below_size (by repeat (first | (with_reducible first | exact HB.out | apply below_alloc | apply pw_below_drewN | apply below_drew1) | exact HB.out))) : w.heap.size ≤ gb111)); clear HB; have HB := n0_; have BK111 := n1_; have GW111 := n2_; have GE111 := n3_; clear n0_ n1_ n2_ n3_; clear hb hbox hg; have hcz39_0 : w38.cell? ⟨gb111, 0, none⟩ = some (.int .i64 0) := (blk_cell BK111.out 0).trans rfl; have hcz39_1 : w38.cell? ⟨gb111, 1, none⟩ = some (.int .i64 0) := (blk_cell BK111.out 1).trans rfl; have hcz39_2 : w38.cell? ⟨gb111, 2, none⟩ = some (.int .i64 0) := (blk_cell BK111.out 2).trans rfl; have hcz39_3 : w38.cell? ⟨gb111, 3, none⟩ = some (.int .i64 0) := (blk_cell BK111.out 3).trans rfl; have hcz39_4 : w38.cell? ⟨gb111, 4, none⟩ = some (.int .i64 0) := (blk_cell BK111.out 4).trans rfl; have hcz39_5 : w38.cell? ⟨gb111, 5, none⟩ = some (.int .u32 0) := (blk_cell BK111.out 5).trans rfl; have hfz39_0 := blk_frozen BK111.out 0; have hfz39_1 := blk_frozen BK111.out 1; have hfz39_2 := blk_frozen BK111.out 2; have hfz39_3 := blk_frozen BK111.out 3; have hfz39_4 := blk_frozen BK111.out 4; have hfz39_5 := blk_frozen BK111.out 5) | ((with_reducible refine gate_callee (f := 12) rfl ?_); refine goesL_ (some 33) rfl rfl Try.func12 (by kernel_rfl) rfl #[.agg #[.int .i64 ((rd_T31 l0 x26_2).f0), .int .i64 ((rd_T31 l0 x26_2).f1), .int .i64 ((rd_T31 l0 x26_2).f2), .int .i64 ((rd_T31 l0 x26_2).f3), .int .i64 ((rd_T31 l0 x26_2).f4), .int .u32 ((rd_T31 l0 x26_2).f5)]] rfl (by (try simp only [List.map_toArray, List.map_cons, List.map_nil]); first | done | rfl | (simp only [List.length_drop, List.length_take]; rfl)) ?_; (with_reducible refine (mach_Right.calls ((rd_T31 l0 x26_2).f0) ((rd_T31 l0 x26_2).f1) ((rd_T31 l0 x26_2).f2) ((rd_T31 l0 x26_2).f3) ((rd_T31 l0 x26_2).f4) ((rd_T31 l0 x26_2).f5) false _ A11.out).mono ?_); rintro e w40 ⟨rfl, hb⟩; refine ⟨_, rfl, ?_⟩; have n0_ := Aside0.mk (blk_below (g := gb111) (o := .cells #[.int .i64 ((rd_T31 l0 x26_2).f0), .int .i64 ((rd_T31 l0 x26_2).f1), .int .i64 ((rd_T31 l0 x26_2).f2), .int .i64 ((rd_T31 l0 x26_2).f3), .int .i64 ((rd_T31 l0 x26_2).f4), .int .u32 ((rd_T31 l0 x26_2).f5)] 31 (0, 0)) (by (with_reducible repeat (first | refine blk_drewN ?_ _ | refine blk_drew ?_ | refine blk_alloc ?_ _)); refine blk_put (cs := #[.int .i64 ((rd_T31 l0 x26_2).f0), .int .i64 ((rd_T31 l0 x26_2).f1), .int .i64 ((rd_T31 l0 x26_2).f2), .int .i64 ((rd_T31 l0 x26_2).f3), .int .i64 ((rd_T31 l0 x26_2).f4), .int .u32 0]) ?_ 5 _ rfl; (with_reducible repeat (first | refine blk_drewN ?_ _ | refine blk_drew ?_ | refine blk_alloc ?_ _)); refine blk_put (cs := #[.int .i64 ((rd_T31 l0 x26_2).f0), .int .i64 ((rd_T31 l0 x26_2).f1), .int .i64 ((rd_T31 l0 x26_2).f2), .int .i64 ((rd_T31 l0 x26_2).f3), .int .i64 0, .int .u32 0]) ?_ 4 _ rfl; (with_reducible repeat (first | refine blk_drewN ?_ _ | refine blk_drew ?_ | refine blk_alloc ?_ _)); refine blk_put (cs := #[.int .i64 ((rd_T31 l0 x26_2).f0), .int .i64 ((rd_T31 l0 x26_2).f1), .int .i64 ((rd_T31 l0 x26_2).f2), .int .i64 0, .int .i64 0, .int .u32 0]) ?_ 3 _ rfl; (with_reducible repeat (first | refine blk_drewN ?_ _ | refine blk_drew ?_ | refine blk_alloc ?_ _)); refine blk_put (cs := #[.int .i64 ((rd_T31 l0 x26_2).f0), .int .i64 ((rd_T31 l0 x26_2).f1), .int .i64 0, .int .i64 0, .int .i64 0, .int .u32 0]) ?_ 2 _ rfl; (with_reducible repeat (first | refine blk_drewN ?_ _ | refine blk_drew ?_ | refine blk_alloc ?_ _)); refine blk_put (cs := #[.int .i64 ((rd_T31 l0 x26_2).f0), .int .i64 0, .int .i64 0, .int .i64 0, .int .i64 0, .int .u32 0]) ?_ 1 _ rfl; (with_reducible repeat (first | refine blk_drewN ?_ _ | refine blk_drew ?_ | refine blk_alloc ?_ _)); refine blk_put (cs := #[.int .i64 0, .int .i64 0, .int .i64 0, .int .i64 0, .int .i64 0, .int .u32 0]) ?_ 0 _ rfl; (with_reducible repeat (first | refine blk_drewN ?_ _ | refine blk_drew ?_ | refine blk_alloc ?_ _)); exact BK111.out) hb); have n1_ := Aside0.mk (below_step (by repeat (first | (with_reducible first | exact HB.out | apply below_alloc | apply pw_below_drewN | apply below_drew1 | refine below_set ?_ GE111.out) | exact HB.out)) hb); clear BK111; clear HB; have BK111 := n0_; have HB := n1_; clear n0_ n1_; (try clear hb); (try clear hb2); (try clear hk); (try clear hi)))
                    go_ret2
                    exact ⟨by first | rfl | (simp [errW_none, errW_some] <;> rfl) | (simp [*, errW_none, errW_some] <;> rfl), by repeat (first | (with_reducible first | exact HB.out | apply below_alloc | apply pw_below_drewN | apply below_drew1 | refine below_set ?_ GE111.out) | exact HB.out)⟩
                · rw [if_neg c10] at H
                  exact absurd H (by simp)
              · rw [if_neg c9] at H
                exact absurd H (by simp)
            · rw [if_neg c8] at H
              have c8b0 : decide (x26_2 < (l0.length : Int)) = false := decide_eq_false c8
              clear c8
              simp only [Option.some.injEq, Prod.mk.injEq] at H
              obtain ⟨rfl, rfl⟩ := H
              go_wp2
              go_ret2
              exact ⟨by first | rfl | (simp [errW_none, errW_some] <;> rfl) | (simp [*, errW_none, errW_some] <;> rfl), by repeat (first | (with_reducible first | exact HB.out | apply below_alloc | apply pw_below_drewN | apply below_drew1) | exact HB.out)⟩

end Go.Proofs.Ytnhianjjhkjeoaa.P
