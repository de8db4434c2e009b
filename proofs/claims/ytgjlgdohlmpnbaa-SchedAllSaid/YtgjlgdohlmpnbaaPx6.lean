/- Written by a program of this session (gp.py), which drives the printer of the kit: contracts of Go functions over the translation, and the rows of laws: each says what its theorems state. Conditions: as each theorem states them. -/
import Derived.Test.YtgjlgdohlmpnbaaPx0
namespace Go.Proofs.Ytgjlgdohlmpnbaa.P
open Go.RowKit Go.Proofs.YtgjlgdohlmpnbaaW.PrintWords Go.Proofs.YtgjlgdohlmpnbaaW.PrintLast Go.Proofs.YtgjlgdohlmpnbaaW.PrintMore
attribute [local go_sem] max2_int min2_int max_two min_two max_three min_three max_four min_four   -- for this text's walks alone
set_option linter.unusedVariables false
set_option linter.unusedSimpArgs false

/-! ### carlingref21_Users: function 22 -/
mutual
def carlingref21_Users.j0 : Nat → List (S31) → Int → Bool → Option (List Int)
  | 0, _, _, _ => none
  | k + 1, x0, x1, x19 => if x19 = true then (some ([] : List Int)) else (if 0 ≤ (x0.length : Int) then (if ((x0.length : Int) : Int).toNat ≤ 281474976710656 then (carlingref21_Users.l0 k x0 x1 (List.replicate ((x0.length : Int) : Int).toNat false) 0) else (none)) else (none))
def carlingref21_Users.l0 : Nat → List (S31) → Int → List Bool → Int → Option (List Int)
  | 0, _, _, _, _ => none
  | k + 1, x0, x1, x5, x6 => if x6 < (x0.length : Int) then (carlingref21_Users.l1 k x0 x1 x5 x6 0) else (carlingref21_Users.l3 k x0 x5 ([] : List Int) 0)
def carlingref21_Users.l1 : Nat → List (S31) → Int → List Bool → Int → Int → Option (List Int)
  | 0, _, _, _, _, _ => none
  | k + 1, x0, x1, x5, x6, x7 => if x7 < (x0.length : Int) then (carlingref21_Users.l2 k x0 x1 x5 x6 x7 0) else (carlingref21_Users.l0 k x0 x1 x5 (wrap64 (x6 + 1)))
def carlingref21_Users.l2 : Nat → List (S31) → Int → List Bool → Int → Int → Int → Option (List Int)
  | 0, _, _, _, _, _, _ => none
  | k + 1, x0, x1, x5, x6, x7, x8 => if 0 ≤ x7 then (if x7 < (x0.length : Int) then (if x8 < (((rd_T31 x0 x7).f1).length : Int) then (if 0 ≤ x8 then (if (rd ((rd_T31 x0 x7).f1) x8) = x1 then (if x7 < (x5.length : Int) then (carlingref21_Users.l2 k x0 x1 (x5.set (x7 : Int).toNat true) x6 x7 (wrap64 (x8 + 1))) else (none)) else (if (rd ((rd_T31 x0 x7).f1) x8) ≥ 0 then (if (rd ((rd_T31 x0 x7).f1) x8) < (x0.length : Int) then (if 0 ≤ (rd ((rd_T31 x0 x7).f1) x8) then (if (rd ((rd_T31 x0 x7).f1) x8) < (x5.length : Int) then (if rdOf false x5 (rd ((rd_T31 x0 x7).f1) x8) = true then (if x7 < (x5.length : Int) then (carlingref21_Users.l2 k x0 x1 (x5.set (x7 : Int).toNat true) x6 x7 (wrap64 (x8 + 1))) else (none)) else (carlingref21_Users.l2 k x0 x1 x5 x6 x7 (wrap64 (x8 + 1)))) else (none)) else (none)) else (carlingref21_Users.l2 k x0 x1 x5 x6 x7 (wrap64 (x8 + 1)))) else (carlingref21_Users.l2 k x0 x1 x5 x6 x7 (wrap64 (x8 + 1))))) else (none)) else (carlingref21_Users.l1 k x0 x1 x5 x6 (wrap64 (x7 + 1)))) else (none)) else (none)
def carlingref21_Users.l3 : Nat → List (S31) → List Bool → List Int → Int → Option (List Int)
  | 0, _, _, _, _ => none
  | k + 1, x0, x5, x10, x11 => if x11 < (x0.length : Int) then (if 0 ≤ x11 then (if x11 < (x5.length : Int) then (if rdOf false x5 x11 = true then (if x10.length < 17592186044416 then (carlingref21_Users.l3 k x0 x5 (x10 ++ [x11]) (wrap64 (x11 + 1))) else (none)) else (carlingref21_Users.l3 k x0 x5 x10 (wrap64 (x11 + 1)))) else (none)) else (none)) else (some x10)
end
def carlingref21_Users.f (k : Nat) (l0 : List (S31)) (a1 : Int) : Option (List Int) := if a1 < 0 then (carlingref21_Users.j0 k l0 a1 true) else (carlingref21_Users.j0 k l0 a1 (decide (a1 ≥ (l0.length : Int))))
theorem carlingref21_Users.mono_l : ∀ k, (∀ y0 y1 y2, LeO (carlingref21_Users.j0 k y0 y1 y2) (carlingref21_Users.j0 (k + 1) y0 y1 y2)) ∧ (∀ y0 y1 y2 y3, LeO (carlingref21_Users.l0 k y0 y1 y2 y3) (carlingref21_Users.l0 (k + 1) y0 y1 y2 y3)) ∧ (∀ y0 y1 y2 y3 y4, LeO (carlingref21_Users.l1 k y0 y1 y2 y3 y4) (carlingref21_Users.l1 (k + 1) y0 y1 y2 y3 y4)) ∧ (∀ y0 y1 y2 y3 y4 y5, LeO (carlingref21_Users.l2 k y0 y1 y2 y3 y4 y5) (carlingref21_Users.l2 (k + 1) y0 y1 y2 y3 y4 y5)) ∧ (∀ y0 y1 y2 y3, LeO (carlingref21_Users.l3 k y0 y1 y2 y3) (carlingref21_Users.l3 (k + 1) y0 y1 y2 y3))
  | 0 => ⟨fun _ _ _ r h => by simp [carlingref21_Users.j0] at h, fun _ _ _ _ r h => by simp [carlingref21_Users.l0] at h, fun _ _ _ _ _ r h => by simp [carlingref21_Users.l1] at h, fun _ _ _ _ _ _ r h => by simp [carlingref21_Users.l2] at h, fun _ _ _ _ r h => by simp [carlingref21_Users.l3] at h⟩
  | k + 1 => by
    obtain ⟨ih0, ih1, ih2, ih3, ih4⟩ := carlingref21_Users.mono_l k
    refine ⟨?_, ?_, ?_, ?_, ?_⟩
    · intro y0 y1 y2
      unfold carlingref21_Users.j0
      repeat' first
      | (with_reducible exact ih0 _ _ _)
      | (with_reducible exact ih1 _ _ _ _)
      | (with_reducible exact ih2 _ _ _ _ _)
      | (with_reducible exact ih3 _ _ _ _ _ _)
      | (with_reducible exact ih4 _ _ _ _)
      | (with_reducible exact LeO.refl _)
      | (with_reducible exact LeO.none _)
      | (with_reducible refine LeO.ite ?_ ?_)
      | (with_reducible refine LeO.bind ?_ (fun _ => ?_))
      | exact ih0 _ _ _
      | exact ih1 _ _ _ _
      | exact ih2 _ _ _ _ _
      | exact ih3 _ _ _ _ _ _
      | exact ih4 _ _ _ _
      | exact LeO.none _
      | refine LeO.ite ?_ ?_
      | refine LeO.bind ?_ (fun _ => ?_)
    · intro y0 y1 y2 y3
      unfold carlingref21_Users.l0
      repeat' first
      | (with_reducible exact ih0 _ _ _)
      | (with_reducible exact ih1 _ _ _ _)
      | (with_reducible exact ih2 _ _ _ _ _)
      | (with_reducible exact ih3 _ _ _ _ _ _)
      | (with_reducible exact ih4 _ _ _ _)
      | (with_reducible exact LeO.refl _)
      | (with_reducible exact LeO.none _)
      | (with_reducible refine LeO.ite ?_ ?_)
      | (with_reducible refine LeO.bind ?_ (fun _ => ?_))
      | exact ih0 _ _ _
      | exact ih1 _ _ _ _
      | exact ih2 _ _ _ _ _
      | exact ih3 _ _ _ _ _ _
      | exact ih4 _ _ _ _
      | exact LeO.none _
      | refine LeO.ite ?_ ?_
      | refine LeO.bind ?_ (fun _ => ?_)
    · intro y0 y1 y2 y3 y4
      unfold carlingref21_Users.l1
      repeat' first
      | (with_reducible exact ih0 _ _ _)
      | (with_reducible exact ih1 _ _ _ _)
      | (with_reducible exact ih2 _ _ _ _ _)
      | (with_reducible exact ih3 _ _ _ _ _ _)
      | (with_reducible exact ih4 _ _ _ _)
      | (with_reducible exact LeO.refl _)
      | (with_reducible exact LeO.none _)
      | (with_reducible refine LeO.ite ?_ ?_)
      | (with_reducible refine LeO.bind ?_ (fun _ => ?_))
      | exact ih0 _ _ _
      | exact ih1 _ _ _ _
      | exact ih2 _ _ _ _ _
      | exact ih3 _ _ _ _ _ _
      | exact ih4 _ _ _ _
      | exact LeO.none _
      | refine LeO.ite ?_ ?_
      | refine LeO.bind ?_ (fun _ => ?_)
    · intro y0 y1 y2 y3 y4 y5
      unfold carlingref21_Users.l2
      repeat' first
      | (with_reducible exact ih0 _ _ _)
      | (with_reducible exact ih1 _ _ _ _)
      | (with_reducible exact ih2 _ _ _ _ _)
      | (with_reducible exact ih3 _ _ _ _ _ _)
      | (with_reducible exact ih4 _ _ _ _)
      | (with_reducible exact LeO.refl _)
      | (with_reducible exact LeO.none _)
      | (with_reducible refine LeO.ite ?_ ?_)
      | (with_reducible refine LeO.bind ?_ (fun _ => ?_))
      | exact ih0 _ _ _
      | exact ih1 _ _ _ _
      | exact ih2 _ _ _ _ _
      | exact ih3 _ _ _ _ _ _
      | exact ih4 _ _ _ _
      | exact LeO.none _
      | refine LeO.ite ?_ ?_
      | refine LeO.bind ?_ (fun _ => ?_)
    · intro y0 y1 y2 y3
      unfold carlingref21_Users.l3
      repeat' first
      | (with_reducible exact ih0 _ _ _)
      | (with_reducible exact ih1 _ _ _ _)
      | (with_reducible exact ih2 _ _ _ _ _)
      | (with_reducible exact ih3 _ _ _ _ _ _)
      | (with_reducible exact ih4 _ _ _ _)
      | (with_reducible exact LeO.refl _)
      | (with_reducible exact LeO.none _)
      | (with_reducible refine LeO.ite ?_ ?_)
      | (with_reducible refine LeO.bind ?_ (fun _ => ?_))
      | exact ih0 _ _ _
      | exact ih1 _ _ _ _
      | exact ih2 _ _ _ _ _
      | exact ih3 _ _ _ _ _ _
      | exact ih4 _ _ _ _
      | exact LeO.none _
      | refine LeO.ite ?_ ?_
      | refine LeO.bind ?_ (fun _ => ?_)
theorem carlingref21_Users.mono : ∀ a0 a1 k, LeO (carlingref21_Users.f k a0 a1) (carlingref21_Users.f (k + 1) a0 a1) := by
  intro a0 a1 k
  obtain ⟨ih0, ih1, ih2, ih3, ih4⟩ := carlingref21_Users.mono_l k
  unfold carlingref21_Users.f
  repeat' first
      | (with_reducible exact ih0 _ _ _)
      | (with_reducible exact ih1 _ _ _ _)
      | (with_reducible exact ih2 _ _ _ _ _)
      | (with_reducible exact ih3 _ _ _ _ _ _)
      | (with_reducible exact ih4 _ _ _ _)
      | (with_reducible exact LeO.refl _)
      | (with_reducible exact LeO.none _)
      | (with_reducible refine LeO.ite ?_ ?_)
      | (with_reducible refine LeO.bind ?_ (fun _ => ?_))
      | exact ih0 _ _ _
      | exact ih1 _ _ _ _
      | exact ih2 _ _ _ _ _
      | exact ih3 _ _ _ _ _ _
      | exact ih4 _ _ _ _
      | exact LeO.none _
      | refine LeO.ite ?_ ?_
      | refine LeO.bind ?_ (fun _ => ?_)
set_option maxHeartbeats 8000000 in
set_option maxRecDepth 100000 in
theorem carlingref21_Users.calls (k : Nat) (A0 : Option Addr) (c0 : Nat) (l0 : List (S31)) (a1 : Int) (r : List Int) (w : World) (hr0 : Kd.C k31 w A0 l0.length l0) (hc0 : l0.length ≤ c0) (h : carlingref21_Users.f k l0 a1 = some r) :
    Calls Try.prog 22 #[.slice A0 l0.length c0, .int .i64 a1] w fun e w' => ∃ v0_ : Value, e = .returned (v0_) ∧ Kd.R (Kd.int .i64) 3 w' w.heap.size (fun _ => True) v0_ r ∧ Below w.heap.size w w' := by
  have HR0 := Aside0.mk hr0
  have HC0 := Aside0.mk hc0
  clear hr0 hc0
  have HB := Aside0.mk (Below.refl w.heap.size w)
  have H : (if a1 < 0 then (carlingref21_Users.j0 k l0 a1 true) else (carlingref21_Users.j0 k l0 a1 (decide (a1 ≥ (l0.length : Int))))) = some r := h
  clear h
  have HC3 := Aside0.mk H
  clear H
  go_enter Try.func22, Try.ntmps22
  go_upto_region 1 with (fail)
  go_cut [19] (fun v19 wc => ∃ (kq : Nat) (x19_2 : Bool), v19 = .bool x19_2 ∧ Aside0 (carlingref21_Users.j0 kq l0 a1 x19_2 = some r) ∧ Aside0 (kq ≤ k) ∧ Aside0 (Below w.heap.size w wc))
  case first =>
    have H := HC3.out
    clear HC3
    by_cases c4 : a1 < 0
    · rw [if_pos c4] at H
      have c4b0 : decide (a1 < 0) = true := decide_eq_true c4
      clear c4
      (first | rw [c4b0] | (simp only [i64_w, i32_w]; rw [c4b0]) | skip)
      have H' := Aside0.mk H
      clear H
      go_wp2
      go_meet
      case rel => exact ⟨_, (true), (by first | rfl | (simp; done) | (simp [*]; done)), H', ⟨by first | omega | exact Nat.le_refl _⟩, ⟨by repeat (first | (with_reducible first | exact HB.out | apply below_alloc | apply pw_below_drewN | apply below_drew1) | exact HB.out)⟩⟩
    · rw [if_neg c4] at H
      have c4b0 : decide (a1 < 0) = false := decide_eq_false c4
      clear c4
      (first | rw [c4b0] | (simp only [i64_w, i32_w]; rw [c4b0]) | skip)
      have H' := Aside0.mk H
      clear H
      go_wp2
      go_meet
      case rel => exact ⟨_, (decide (a1 ≥ (l0.length : Int))), (by first | rfl | (simp; done) | (simp [*]; done)), H', ⟨by first | omega | exact Nat.le_refl _⟩, ⟨by repeat (first | (with_reducible first | exact HB.out | apply below_alloc | apply pw_below_drewN | apply below_drew1) | exact HB.out)⟩⟩
  case rest =>
    clear HC3
    try clear c2
    try clear p2
    try clear c4
    try clear c4b0
    obtain ⟨kq, x19_2, rfl, HA, HJ2, HB⟩ := hcut
    cases kq with
    | zero => exact absurd HA.out (by simp [carlingref21_Users.j0])
    | succ kj2 =>
      have H := HA.out
      clear HA
      simp only [carlingref21_Users.j0] at H
      by_cases c5 : x19_2 = true
      · subst c5
        have H1 : (some ([] : List Int)) = some r := by rw [if_pos rfl] at H; exact H
        clear H
        have H := H1
        clear H1
        obtain rfl := Option.some.inj H
        go_wp2
        go_ret
        exact ⟨_, by first | rfl | (simp [errW_none, errW_some] <;> rfl) | (simp [*, errW_none, errW_some] <;> rfl), by first | exact Kd.R_nil _ _ _ _ _ | exact Kd.N_nil _ _ _ _ _ | exact Kd.V_nil _ _ _ _ _ | exact Kd.Q_nil _ _ _ _ _ | exact Kd.S_nil _ _ _ _ _, by repeat (first | (with_reducible first | exact HB.out | apply below_alloc | apply pw_below_drewN | apply below_drew1) | exact HB.out)⟩
      · replace c5 := Bool.eq_false_iff.mpr c5
        subst c5
        have H1 : (if 0 ≤ (l0.length : Int) then (if ((l0.length : Int) : Int).toNat ≤ 281474976710656 then (carlingref21_Users.l0 kj2 l0 a1 (List.replicate ((l0.length : Int) : Int).toNat false) 0) else (none)) else (none)) = some r := by rw [if_neg (show ¬ (false = true) by decide)] at H; exact H
        clear H
        have H := H1
        clear H1
        by_cases c6 : 0 ≤ (l0.length : Int)
        · rw [if_pos c6] at H
          have c6b0 := eq_true c6
          have c6b1 : decide (0 ≤ (l0.length : Int)) = true := decide_eq_true c6
          clear c6
          by_cases c7 : ((l0.length : Int) : Int).toNat ≤ 281474976710656
          · rw [if_pos c7] at H
            have c7b0 := eq_true c7
            have c7b1 : decide (((l0.length : Int) : Int).toNat ≤ 281474976710656) = true := decide_eq_true c7
            clear c7
            obtain ⟨y205, hy205⟩ : ∃ y_ : List Bool, y_ = (List.replicate ((l0.length : Int) : Int).toNat false) := ⟨_, rfl⟩
            replace H : (carlingref21_Users.l0 kj2 l0 a1 y205 0) = some r := by first | (rw [hy205]; with_reducible exact H) | (have H2_ := (Option.bind_some _ _).symm.trans H; rw [hy205]; with_reducible exact H2_) | (have H2_ := (Option.bind_some _ _).symm.trans H; with_reducible exact H2_) | with_reducible exact H | (rw [hy205]; exact H) | exact H
            have Ny205 := Aside0.mk hy205
            clear hy205
            have H' := Aside0.mk H
            clear H
            go_wp2_with (first | ((with_reducible refine gate_dst (N := 22) rfl ?_); (try (refine gate_guard (by rfl) ?_; dsimp only)); refine Kd.R_make Kd.bool _ 4 rfl (N := 22) rfl 35 _ _ rfl (l0.length : Int) rfl rfl Try.underlying35 (.bool false) 1 info4 rfl (by decide) (by omega) false (ok := fun _ => True) (okp := fun _ => True) rfl (fun _ hk => hk) trivial (of_decide_eq_true (by first | (with_reducible assumption) | assumption)) (Nat.le_trans (Nat.mul_le_mul_right _ (of_decide_eq_true (by first | (with_reducible assumption) | assumption) : (l0.length : Int).toNat ≤ 281474976710656)) (by omega)) (Below.refl _ _) (Nat.le_refl _) ?_; intro v206 w8 ho9 hb hg_ hnew_; clear hg_ hnew_; (first | rw [← Ny205.out] at ho9 | (simp only [Int.reduceToNat] at ho9; rw [← Ny205.out] at ho9)); have n0_ := Aside0.mk (Kd.R_lower ho9 (below_size (by repeat (first | (with_reducible first | exact HB.out | apply below_alloc | apply pw_below_drewN | apply below_drew1) | exact HB.out)))); have n1_ := Aside0.mk (below_step (by repeat (first | (with_reducible first | exact HB.out | apply below_alloc | apply pw_below_drewN | apply below_drew1) | exact HB.out)) hb); clear HB; have HO207 := n0_; have HB := n1_; clear n0_ n1_; clear hb ho9))
            go_loopg [6] kj2 (fun kq v6 w' => ∃ (x5_2 : List Bool) (x6_2 : Int), v6 = .int .i64 x6_2 ∧ Aside0 (carlingref21_Users.l0 kq l0 a1 x5_2 x6_2 = some r) ∧ Aside0 (kq ≤ kj2) ∧ Aside0 (Kd.R Kd.bool 4 w' w.heap.size (fun _ => True) v206 x5_2) ∧ Aside0 (Below w.heap.size w w'))
            case atStart => exact ⟨(y205), (0), (by first | rfl | (simp; done) | (simp [*]; done)), H', ⟨Nat.le_refl _⟩, ⟨by (with_reducible repeat (first | apply Kd.R_alloc | apply Kd.R_drewN | apply Kd.R_drew)); exact HO207.out⟩, ⟨by repeat (first | (with_reducible first | exact HB.out | apply below_alloc | apply pw_below_drewN | apply below_drew1) | exact HB.out)⟩⟩
            case round =>
              clear H'
              try clear c2
              try clear p2
              try clear c4
              try clear c4b0
              try clear c5
              try clear c6
              try clear c6b0
              try clear c6b1
              try clear c7
              try clear c7b0
              try clear c7b1
              try clear p2
              obtain ⟨x5_2, x6_2, rfl, HA, HK2, HO_5, HB⟩ := hrel
              cases gk with
              | zero => exact absurd HA.out (by simp [carlingref21_Users.l0])
              | succ k2 =>
                have H := HA.out
                clear HA
                simp only [carlingref21_Users.l0] at H
                by_cases c10 : x6_2 < (l0.length : Int)
                · rw [if_pos c10] at H
                  have c10b0 : decide (x6_2 < (l0.length : Int)) = true := decide_eq_true c10
                  clear c10
                  have H' := Aside0.mk H
                  clear H
                  go_wp2
                  go_loopg [7] k2 (fun kq v7 w' => ∃ (x5_3 : List Bool) (x7_3 : Int), v7 = .int .i64 x7_3 ∧ Aside0 (carlingref21_Users.l1 kq l0 a1 x5_3 x6_2 x7_3 = some r) ∧ Aside0 (kq ≤ k2) ∧ Aside0 (Kd.R Kd.bool 4 w' w.heap.size (fun _ => True) v206 x5_3) ∧ Aside0 (Below w.heap.size w w'))
                  case atStart => exact ⟨(x5_2), (0), (by first | rfl | (simp; done) | (simp [*]; done)), H', ⟨Nat.le_refl _⟩, ⟨by (with_reducible repeat (first | apply Kd.R_alloc | apply Kd.R_drewN | apply Kd.R_drew)); exact HO_5.out⟩, ⟨by repeat (first | (with_reducible first | exact HB.out | apply below_alloc | apply pw_below_drewN | apply below_drew1) | exact HB.out)⟩⟩
                  case round =>
                    clear H'
                    try clear c1
                    try clear c2
                    try clear p2
                    try clear c4
                    try clear c4b0
                    try clear c5
                    try clear c6
                    try clear c6b0
                    try clear c6b1
                    try clear c7
                    try clear c7b0
                    try clear c7b1
                    try clear c10
                    try clear c10b0
                    try clear p2
                    obtain ⟨x5_3, x7_3, rfl, HA, HK3, HO_5, HB⟩ := hrel
                    cases gk with
                    | zero => exact absurd HA.out (by simp [carlingref21_Users.l1])
                    | succ k3 =>
                      have H := HA.out
                      clear HA
                      simp only [carlingref21_Users.l1] at H
                      by_cases c11 : x7_3 < (l0.length : Int)
                      · rw [if_pos c11] at H
                        have c11b0 : decide (x7_3 < (l0.length : Int)) = true := decide_eq_true c11
                        clear c11
                        have H' := Aside0.mk H
                        clear H
                        go_wp2
                        go_loopg [8] k3 (fun kq v8 w' => ∃ (x5_4 : List Bool) (x8_4 : Int), v8 = .int .i64 x8_4 ∧ Aside0 (carlingref21_Users.l2 kq l0 a1 x5_4 x6_2 x7_3 x8_4 = some r) ∧ Aside0 (kq ≤ k3) ∧ Aside0 (Kd.R Kd.bool 4 w' w.heap.size (fun _ => True) v206 x5_4) ∧ Aside0 (Below w.heap.size w w'))
                        case atStart => exact ⟨(x5_3), (0), (by first | rfl | (simp; done) | (simp [*]; done)), H', ⟨Nat.le_refl _⟩, ⟨by (with_reducible repeat (first | apply Kd.R_alloc | apply Kd.R_drewN | apply Kd.R_drew)); exact HO_5.out⟩, ⟨by repeat (first | (with_reducible first | exact HB.out | apply below_alloc | apply pw_below_drewN | apply below_drew1) | exact HB.out)⟩⟩
                        case round =>
                          clear H'
                          try clear c1
                          try clear c2
                          try clear p2
                          try clear c4
                          try clear c4b0
                          try clear c5
                          try clear c6
                          try clear c6b0
                          try clear c6b1
                          try clear c7
                          try clear c7b0
                          try clear c7b1
                          try clear c10
                          try clear c10b0
                          try clear c11
                          try clear c11b0
                          try clear p2
                          obtain ⟨x5_4, x8_4, rfl, HA, HK4, HO_5, HB⟩ := hrel
                          cases gk with
                          | zero => exact absurd HA.out (by simp [carlingref21_Users.l2])
                          | succ k4 =>
                            have H := HA.out
                            clear HA
                            simp only [carlingref21_Users.l2] at H
                            by_cases c12 : 0 ≤ x7_3
                            · rw [if_pos c12] at H
                              have c12b0 : decide (0 ≤ x7_3) = true := decide_eq_true c12
                              clear c12
                              by_cases c13 : x7_3 < (l0.length : Int)
                              · rw [if_pos c13] at H
                                have c13b0 : decide (x7_3 < (l0.length : Int)) = true := decide_eq_true c13
                                clear c13
                                by_cases c14 : x8_4 < (((rd_T31 l0 x7_3).f1).length : Int)
                                · rw [if_pos c14] at H
                                  have c14b0 : decide (x8_4 < (((rd_T31 l0 x7_3).f1).length : Int)) = true := decide_eq_true c14
                                  clear c14
                                  by_cases c15 : 0 ≤ x8_4
                                  · rw [if_pos c15] at H
                                    have c15b0 : decide (0 ≤ x8_4) = true := decide_eq_true c15
                                    clear c15
                                    by_cases c16 : (rd ((rd_T31 l0 x7_3).f1) x8_4) = a1
                                    · rw [if_pos c16] at H
                                      have c16b0 : ((rd ((rd_T31 l0 x7_3).f1) x8_4) == a1) = true := beq_iff_eq.mpr c16
                                      have c16b1 : ((rd ((rd_T31 l0 x7_3).f1) x8_4) != a1) = false := bne_eq_false_iff_eq.mpr c16
                                      clear c16
                                      by_cases c17 : x7_3 < (x5_4.length : Int)
                                      · rw [if_pos c17] at H
                                        have c17b0 : decide (x7_3 < (x5_4.length : Int)) = true := decide_eq_true c17
                                        clear c17
                                        obtain ⟨y211, hy211⟩ : ∃ y_ : List Bool, y_ = (x5_4.set (x7_3 : Int).toNat true) := ⟨_, rfl⟩
                                        replace H : (carlingref21_Users.l2 k4 l0 a1 y211 x6_2 x7_3 (wrap64 (x8_4 + 1))) = some r := by first | (rw [hy211]; with_reducible exact H) | (have H2_ := (Option.bind_some _ _).symm.trans H; rw [hy211]; with_reducible exact H2_) | (have H2_ := (Option.bind_some _ _).symm.trans H; with_reducible exact H2_) | with_reducible exact H | (rw [hy211]; exact H) | exact H
                                        have Ny211 := Aside0.mk hy211
                                        clear hy211
                                        have H' := Aside0.mk H
                                        clear H
                                        have p208 : 0 ≤ (x7_3 : Int) := of_decide_eq_true (by first | (with_reducible assumption) | assumption)
                                        have q208 : x7_3 < (l0.length : Int) := of_decide_eq_true (by first | (with_reducible assumption) | assumption)
                                        obtain ⟨ad208, A208_1, c208_1, e208, hx208_0, hx208_1, hl208_1, hi208_1⟩ := at_T31 HR0.out x7_3 p208 q208
                                        cases e208
                                        replace hx208_0 := (HB.out.cell (World.block_lt_of_cell? w _ hx208_0)).trans hx208_0
                                        replace hx208_1 := (HB.out.cell (World.block_lt_of_cell? w _ hx208_1)).trans hx208_1
                                        have HR208_1 := Aside0.mk hi208_1
                                        have HC208_1 := Aside0.mk hl208_1
                                        clear hi208_1 hl208_1
                                        replace p208 := eq_true p208
                                        replace q208 := eq_true q208
                                        have p209 : 0 ≤ (x7_3 : Int) := of_decide_eq_true (by first | (with_reducible assumption) | assumption)
                                        have q209 : x7_3 < (l0.length : Int) := of_decide_eq_true (by first | (with_reducible assumption) | assumption)
                                        obtain ⟨ad209, A209_1, c209_1, e209, hx209_0, hx209_1, hl209_1, hi209_1⟩ := at_T31 HR0.out x7_3 p209 q209
                                        obtain rfl : ad208 = ad209 := (by injection e209)
                                        replace hx209_0 := (HB.out.cell (World.block_lt_of_cell? w _ hx209_0)).trans hx209_0
                                        replace hx209_1 := (HB.out.cell (World.block_lt_of_cell? w _ hx209_1)).trans hx209_1
                                        have HR209_1 := Aside0.mk hi209_1
                                        have HC209_1 := Aside0.mk hl209_1
                                        clear hi209_1 hl209_1
                                        replace p209 := eq_true p209
                                        replace q209 := eq_true q209
                                        have ea_ := Option.some.inj (hx208_1.symm.trans hx209_1)
                                        injection ea_ with ea_ en_ ec_
                                        subst ea_
                                        subst ec_
                                        clear en_
                                        have p210 : 0 ≤ (x8_4 : Int) := of_decide_eq_true (by first | (with_reducible assumption) | assumption)
                                        have q210 : x8_4 < (((rd_T31 l0 x7_3).f1).length : Int) := of_decide_eq_true (by first | (with_reducible assumption) | assumption)
                                        obtain ⟨ad210, e210, hx210_0⟩ := Kd.at_int HR209_1.out x8_4 p210 q210
                                        cases e210
                                        replace hx210_0 := (HB.out.cell (World.block_lt_of_cell? w _ hx210_0)).trans hx210_0
                                        replace p210 := eq_true p210
                                        replace q210 := eq_true q210
                                        have p18 : 0 ≤ (x7_3 : Int) := of_decide_eq_true (by first | (with_reducible assumption) | assumption)
                                        have q18 : (x7_3 : Int) < ((x5_4.length : Int) : Int) := of_decide_eq_true (by first | (with_reducible assumption) | assumption)
                                        obtain ⟨go18, co18, eo18, gb18, gl18, cl18, HG18⟩ := Kd.R_form HO_5.out (by omega)
                                        (first | cases eo18 | (injection eo18 with ea_ en_ ec_; (first | subst ea_ | (injection ea_ with ea_; subst ea_)); subst ec_; clear en_))
                                        have GB18 := Aside0.mk gb18
                                        have GG18 := Aside0.mk HG18
                                        clear gb18 gl18 HG18
                                        obtain ⟨hx18_0, hf18_0⟩ := Kd.R_celln false HO_5.out (x7_3 : Int) p18 q18
                                        replace p18 := eq_true p18
                                        replace q18 := eq_true q18
                                        have HP19 := Kd.R_putg HO_5.out (x7_3 : Int) true
                                        go_wp2_with (first | ((with_reducible refine gate_store (t := 4) (p := 74) rfl ?_); refine store_event (t := 4) (p := 74) (v := ?vo_w20) (w1 := (wr.setCell ⟨go18, (x7_3 : Int).toNat, none⟩ (.bool true))) ?hg ?ho ?hn ?hr ?_; (case ho => rfl); (case hg => rfl); (case hn => rfl); (case hr => first | (go_simp; done) | (go_simp; rfl)); intro w20 hw; have hg : wr.grownBy w20 (some go18) := (by rw [hw]; exact HP19.2); have hp_ : Kd.R Kd.bool 4 w20 w.heap.size (fun _ => True) (.slice (some ⟨go18, 0, none⟩) x5_4.length co18) y211 := (by rw [hw, Ny211.out]; exact HP19.1); clear HP19; have n0_ := Aside0.mk (hp_); have n1_ := Aside0.mk ((by rw [hw]; exact below_set (HB.out) GB18.out : Below w.heap.size w w20)); clear HO_5; clear HB; have HO_5 := n0_; have HB := n1_; clear n0_ n1_; clear hg hw hp_))
                                        go_roundg k4
                                        case measure => have := HJ2.out; have := HK2.out; have := HK3.out; have := HK4.out; omega
                                        case rel => exact ⟨(y211), (wrap64 (x8_4 + 1)), (by first | rfl | (simp; done) | (simp [*]; done)), H', ⟨by have := HJ2.out; have := HK2.out; have := HK3.out; have := HK4.out; omega⟩, ⟨by (with_reducible repeat (first | apply Kd.R_alloc | apply Kd.R_drewN | apply Kd.R_drew)); exact HO_5.out⟩, ⟨by repeat (first | (with_reducible first | exact HB.out | apply below_alloc | apply pw_below_drewN | apply below_drew1) | exact HB.out)⟩⟩
                                      · rw [if_neg c17] at H
                                        exact absurd H (by simp)
                                    · rw [if_neg c16] at H
                                      have c16b0 : ((rd ((rd_T31 l0 x7_3).f1) x8_4) == a1) = false := beq_eq_false_iff_ne.mpr c16
                                      have c16b1 : ((rd ((rd_T31 l0 x7_3).f1) x8_4) != a1) = true := bne_iff_ne.mpr c16
                                      by_cases c21 : (rd ((rd_T31 l0 x7_3).f1) x8_4) ≥ 0
                                      · rw [if_pos c21] at H
                                        have c21b0 : decide (0 ≤ (rd ((rd_T31 l0 x7_3).f1) x8_4)) = true := decide_eq_true c21
                                        clear c21
                                        by_cases c22 : (rd ((rd_T31 l0 x7_3).f1) x8_4) < (l0.length : Int)
                                        · rw [if_pos c22] at H
                                          have c22b0 : decide ((rd ((rd_T31 l0 x7_3).f1) x8_4) < (l0.length : Int)) = true := decide_eq_true c22
                                          clear c22
                                          by_cases c23 : 0 ≤ (rd ((rd_T31 l0 x7_3).f1) x8_4)
                                          · rw [if_pos c23] at H
                                            have c23b0 : decide (0 ≤ (rd ((rd_T31 l0 x7_3).f1) x8_4)) = true := decide_eq_true c23
                                            clear c23
                                            by_cases c24 : (rd ((rd_T31 l0 x7_3).f1) x8_4) < (x5_4.length : Int)
                                            · rw [if_pos c24] at H
                                              have c24b0 : decide ((rd ((rd_T31 l0 x7_3).f1) x8_4) < (x5_4.length : Int)) = true := decide_eq_true c24
                                              clear c24
                                              obtain ⟨bq25, hbq25⟩ : ∃ b_ : Bool, b_ = (rdOf false x5_4 (rd ((rd_T31 l0 x7_3).f1) x8_4)) := ⟨_, rfl⟩
                                              replace H : (if bq25 = true then (if x7_3 < (x5_4.length : Int) then (carlingref21_Users.l2 k4 l0 a1 (x5_4.set (x7_3 : Int).toNat true) x6_2 x7_3 (wrap64 (x8_4 + 1))) else (none)) else (carlingref21_Users.l2 k4 l0 a1 x5_4 x6_2 x7_3 (wrap64 (x8_4 + 1)))) = some r := by rw [← hbq25] at H; exact H
                                              have Nbq25 := Aside0.mk hbq25
                                              clear hbq25
                                              by_cases c26 : bq25 = true
                                              · subst c26
                                                have H1 : (if x7_3 < (x5_4.length : Int) then (carlingref21_Users.l2 k4 l0 a1 (x5_4.set (x7_3 : Int).toNat true) x6_2 x7_3 (wrap64 (x8_4 + 1))) else (none)) = some r := by rw [if_pos rfl] at H; exact H
                                                clear H
                                                have H := H1
                                                clear H1
                                                by_cases c27 : x7_3 < (x5_4.length : Int)
                                                · rw [if_pos c27] at H
                                                  have c27b0 : decide (x7_3 < (x5_4.length : Int)) = true := decide_eq_true c27
                                                  clear c27
                                                  obtain ⟨y213, hy213⟩ : ∃ y_ : List Bool, y_ = (x5_4.set (x7_3 : Int).toNat true) := ⟨_, rfl⟩
                                                  replace H : (carlingref21_Users.l2 k4 l0 a1 y213 x6_2 x7_3 (wrap64 (x8_4 + 1))) = some r := by first | (rw [hy213]; with_reducible exact H) | (have H2_ := (Option.bind_some _ _).symm.trans H; rw [hy213]; with_reducible exact H2_) | (have H2_ := (Option.bind_some _ _).symm.trans H; with_reducible exact H2_) | with_reducible exact H | (rw [hy213]; exact H) | exact H
                                                  have Ny213 := Aside0.mk hy213
                                                  clear hy213
                                                  have H' := Aside0.mk H
                                                  clear H
                                                  have p208 : 0 ≤ (x7_3 : Int) := of_decide_eq_true (by first | (with_reducible assumption) | assumption)
                                                  have q208 : x7_3 < (l0.length : Int) := of_decide_eq_true (by first | (with_reducible assumption) | assumption)
                                                  obtain ⟨ad208, A208_1, c208_1, e208, hx208_0, hx208_1, hl208_1, hi208_1⟩ := at_T31 HR0.out x7_3 p208 q208
                                                  cases e208
                                                  replace hx208_0 := (HB.out.cell (World.block_lt_of_cell? w _ hx208_0)).trans hx208_0
                                                  replace hx208_1 := (HB.out.cell (World.block_lt_of_cell? w _ hx208_1)).trans hx208_1
                                                  have HR208_1 := Aside0.mk hi208_1
                                                  have HC208_1 := Aside0.mk hl208_1
                                                  clear hi208_1 hl208_1
                                                  replace p208 := eq_true p208
                                                  replace q208 := eq_true q208
                                                  have p209 : 0 ≤ (x7_3 : Int) := of_decide_eq_true (by first | (with_reducible assumption) | assumption)
                                                  have q209 : x7_3 < (l0.length : Int) := of_decide_eq_true (by first | (with_reducible assumption) | assumption)
                                                  obtain ⟨ad209, A209_1, c209_1, e209, hx209_0, hx209_1, hl209_1, hi209_1⟩ := at_T31 HR0.out x7_3 p209 q209
                                                  obtain rfl : ad208 = ad209 := (by injection e209)
                                                  replace hx209_0 := (HB.out.cell (World.block_lt_of_cell? w _ hx209_0)).trans hx209_0
                                                  replace hx209_1 := (HB.out.cell (World.block_lt_of_cell? w _ hx209_1)).trans hx209_1
                                                  have HR209_1 := Aside0.mk hi209_1
                                                  have HC209_1 := Aside0.mk hl209_1
                                                  clear hi209_1 hl209_1
                                                  replace p209 := eq_true p209
                                                  replace q209 := eq_true q209
                                                  have ea_ := Option.some.inj (hx208_1.symm.trans hx209_1)
                                                  injection ea_ with ea_ en_ ec_
                                                  subst ea_
                                                  subst ec_
                                                  clear en_
                                                  have p210 : 0 ≤ (x8_4 : Int) := of_decide_eq_true (by first | (with_reducible assumption) | assumption)
                                                  have q210 : x8_4 < (((rd_T31 l0 x7_3).f1).length : Int) := of_decide_eq_true (by first | (with_reducible assumption) | assumption)
                                                  obtain ⟨ad210, e210, hx210_0⟩ := Kd.at_int HR209_1.out x8_4 p210 q210
                                                  cases e210
                                                  replace hx210_0 := (HB.out.cell (World.block_lt_of_cell? w _ hx210_0)).trans hx210_0
                                                  replace p210 := eq_true p210
                                                  replace q210 := eq_true q210
                                                  obtain ⟨Ao29, co29, eo29⟩ := Kd.R_slice HO_5.out
                                                  subst eo29
                                                  have p212 : 0 ≤ ((rd ((rd_T31 l0 x7_3).f1) x8_4) : Int) := of_decide_eq_true (by first | (with_reducible assumption) | assumption)
                                                  have q212 : (rd ((rd_T31 l0 x7_3).f1) x8_4) < (x5_4.length : Int) := of_decide_eq_true (by first | (with_reducible assumption) | assumption)
                                                  obtain ⟨ad212, e212, hx212_0⟩ := Kd.at_bool (Kd.R_reads' HO_5.out).2.2 (rd ((rd_T31 l0 x7_3).f1) x8_4) p212 q212
                                                  (try rw [← Nbq25.out] at hx212_0)
                                                  cases e212
                                                  replace p212 := eq_true p212
                                                  replace q212 := eq_true q212
                                                  have p28 : 0 ≤ (x7_3 : Int) := of_decide_eq_true (by first | (with_reducible assumption) | assumption)
                                                  have q28 : (x7_3 : Int) < ((x5_4.length : Int) : Int) := of_decide_eq_true (by first | (with_reducible assumption) | assumption)
                                                  obtain ⟨go28, co28, eo28, gb28, gl28, cl28, HG28⟩ := Kd.R_form HO_5.out (by omega)
                                                  (first | cases eo28 | (injection eo28 with ea_ en_ ec_; (first | subst ea_ | (injection ea_ with ea_; subst ea_)); subst ec_; clear en_))
                                                  have GB28 := Aside0.mk gb28
                                                  have GG28 := Aside0.mk HG28
                                                  clear gb28 gl28 HG28
                                                  (first | simp only [add_plain] at hx212_0 | skip)
                                                  obtain ⟨hx28_0, hf28_0⟩ := Kd.R_celln false HO_5.out (x7_3 : Int) p28 q28
                                                  replace p28 := eq_true p28
                                                  replace q28 := eq_true q28
                                                  have HP30 := Kd.R_putg HO_5.out (x7_3 : Int) true
                                                  go_wp2_with (first | ((with_reducible refine gate_store (t := 4) (p := 74) rfl ?_); refine store_event (t := 4) (p := 74) (v := ?vo_w31) (w1 := (wr.setCell ⟨go28, (x7_3 : Int).toNat, none⟩ (.bool true))) ?hg ?ho ?hn ?hr ?_; (case ho => rfl); (case hg => rfl); (case hn => rfl); (case hr => first | (go_simp; done) | (go_simp; rfl)); intro w31 hw; have hg : wr.grownBy w31 (some go28) := (by rw [hw]; exact HP30.2); have hp_ : Kd.R Kd.bool 4 w31 w.heap.size (fun _ => True) (.slice (some ⟨go28, 0, none⟩) x5_4.length co29) y213 := (by rw [hw, Ny213.out]; exact HP30.1); clear HP30; have n0_ := Aside0.mk (hp_); have n1_ := Aside0.mk ((by rw [hw]; exact below_set (HB.out) GB28.out : Below w.heap.size w w31)); clear HO_5; clear HB; have HO_5 := n0_; have HB := n1_; clear n0_ n1_; clear hg hw hp_))
                                                  go_roundg k4
                                                  case measure => have := HJ2.out; have := HK2.out; have := HK3.out; have := HK4.out; omega
                                                  case rel => exact ⟨(y213), (wrap64 (x8_4 + 1)), (by first | rfl | (simp; done) | (simp [*]; done)), H', ⟨by have := HJ2.out; have := HK2.out; have := HK3.out; have := HK4.out; omega⟩, ⟨by (with_reducible repeat (first | apply Kd.R_alloc | apply Kd.R_drewN | apply Kd.R_drew)); exact HO_5.out⟩, ⟨by repeat (first | (with_reducible first | exact HB.out | apply below_alloc | apply pw_below_drewN | apply below_drew1) | exact HB.out)⟩⟩
                                                · rw [if_neg c27] at H
                                                  exact absurd H (by simp)
                                              · replace c26 := Bool.eq_false_iff.mpr c26
                                                subst c26
                                                have H1 : (carlingref21_Users.l2 k4 l0 a1 x5_4 x6_2 x7_3 (wrap64 (x8_4 + 1))) = some r := by rw [if_neg (show ¬ (false = true) by decide)] at H; exact H
                                                clear H
                                                have H := H1
                                                clear H1
                                                have H' := Aside0.mk H
                                                clear H
                                                have p208 : 0 ≤ (x7_3 : Int) := of_decide_eq_true (by first | (with_reducible assumption) | assumption)
                                                have q208 : x7_3 < (l0.length : Int) := of_decide_eq_true (by first | (with_reducible assumption) | assumption)
                                                obtain ⟨ad208, A208_1, c208_1, e208, hx208_0, hx208_1, hl208_1, hi208_1⟩ := at_T31 HR0.out x7_3 p208 q208
                                                cases e208
                                                replace hx208_0 := (HB.out.cell (World.block_lt_of_cell? w _ hx208_0)).trans hx208_0
                                                replace hx208_1 := (HB.out.cell (World.block_lt_of_cell? w _ hx208_1)).trans hx208_1
                                                have HR208_1 := Aside0.mk hi208_1
                                                have HC208_1 := Aside0.mk hl208_1
                                                clear hi208_1 hl208_1
                                                replace p208 := eq_true p208
                                                replace q208 := eq_true q208
                                                have p209 : 0 ≤ (x7_3 : Int) := of_decide_eq_true (by first | (with_reducible assumption) | assumption)
                                                have q209 : x7_3 < (l0.length : Int) := of_decide_eq_true (by first | (with_reducible assumption) | assumption)
                                                obtain ⟨ad209, A209_1, c209_1, e209, hx209_0, hx209_1, hl209_1, hi209_1⟩ := at_T31 HR0.out x7_3 p209 q209
                                                obtain rfl : ad208 = ad209 := (by injection e209)
                                                replace hx209_0 := (HB.out.cell (World.block_lt_of_cell? w _ hx209_0)).trans hx209_0
                                                replace hx209_1 := (HB.out.cell (World.block_lt_of_cell? w _ hx209_1)).trans hx209_1
                                                have HR209_1 := Aside0.mk hi209_1
                                                have HC209_1 := Aside0.mk hl209_1
                                                clear hi209_1 hl209_1
                                                replace p209 := eq_true p209
                                                replace q209 := eq_true q209
                                                have ea_ := Option.some.inj (hx208_1.symm.trans hx209_1)
                                                injection ea_ with ea_ en_ ec_
                                                subst ea_
                                                subst ec_
                                                clear en_
                                                have p210 : 0 ≤ (x8_4 : Int) := of_decide_eq_true (by first | (with_reducible assumption) | assumption)
                                                have q210 : x8_4 < (((rd_T31 l0 x7_3).f1).length : Int) := of_decide_eq_true (by first | (with_reducible assumption) | assumption)
                                                obtain ⟨ad210, e210, hx210_0⟩ := Kd.at_int HR209_1.out x8_4 p210 q210
                                                cases e210
                                                replace hx210_0 := (HB.out.cell (World.block_lt_of_cell? w _ hx210_0)).trans hx210_0
                                                replace p210 := eq_true p210
                                                replace q210 := eq_true q210
                                                obtain ⟨Ao32, co32, eo32⟩ := Kd.R_slice HO_5.out
                                                subst eo32
                                                have p212 : 0 ≤ ((rd ((rd_T31 l0 x7_3).f1) x8_4) : Int) := of_decide_eq_true (by first | (with_reducible assumption) | assumption)
                                                have q212 : (rd ((rd_T31 l0 x7_3).f1) x8_4) < (x5_4.length : Int) := of_decide_eq_true (by first | (with_reducible assumption) | assumption)
                                                obtain ⟨ad212, e212, hx212_0⟩ := Kd.at_bool (Kd.R_reads' HO_5.out).2.2 (rd ((rd_T31 l0 x7_3).f1) x8_4) p212 q212
                                                (try rw [← Nbq25.out] at hx212_0)
                                                cases e212
                                                replace p212 := eq_true p212
                                                replace q212 := eq_true q212
                                                go_wp2
                                                go_roundg k4
                                                case measure => have := HJ2.out; have := HK2.out; have := HK3.out; have := HK4.out; omega
                                                case rel => exact ⟨(x5_4), (wrap64 (x8_4 + 1)), (by first | rfl | (simp; done) | (simp [*]; done)), H', ⟨by have := HJ2.out; have := HK2.out; have := HK3.out; have := HK4.out; omega⟩, ⟨by (with_reducible repeat (first | apply Kd.R_alloc | apply Kd.R_drewN | apply Kd.R_drew)); exact HO_5.out⟩, ⟨by repeat (first | (with_reducible first | exact HB.out | apply below_alloc | apply pw_below_drewN | apply below_drew1) | exact HB.out)⟩⟩
                                            · rw [if_neg c24] at H
                                              exact absurd H (by simp)
                                          · rw [if_neg c23] at H
                                            exact absurd H (by simp)
                                        · rw [if_neg c22] at H
                                          have c22b0 : decide ((rd ((rd_T31 l0 x7_3).f1) x8_4) < (l0.length : Int)) = false := decide_eq_false c22
                                          clear c22
                                          have H' := Aside0.mk H
                                          clear H
                                          have p208 : 0 ≤ (x7_3 : Int) := of_decide_eq_true (by first | (with_reducible assumption) | assumption)
                                          have q208 : x7_3 < (l0.length : Int) := of_decide_eq_true (by first | (with_reducible assumption) | assumption)
                                          obtain ⟨ad208, A208_1, c208_1, e208, hx208_0, hx208_1, hl208_1, hi208_1⟩ := at_T31 HR0.out x7_3 p208 q208
                                          cases e208
                                          replace hx208_0 := (HB.out.cell (World.block_lt_of_cell? w _ hx208_0)).trans hx208_0
                                          replace hx208_1 := (HB.out.cell (World.block_lt_of_cell? w _ hx208_1)).trans hx208_1
                                          have HR208_1 := Aside0.mk hi208_1
                                          have HC208_1 := Aside0.mk hl208_1
                                          clear hi208_1 hl208_1
                                          replace p208 := eq_true p208
                                          replace q208 := eq_true q208
                                          have p209 : 0 ≤ (x7_3 : Int) := of_decide_eq_true (by first | (with_reducible assumption) | assumption)
                                          have q209 : x7_3 < (l0.length : Int) := of_decide_eq_true (by first | (with_reducible assumption) | assumption)
                                          obtain ⟨ad209, A209_1, c209_1, e209, hx209_0, hx209_1, hl209_1, hi209_1⟩ := at_T31 HR0.out x7_3 p209 q209
                                          obtain rfl : ad208 = ad209 := (by injection e209)
                                          replace hx209_0 := (HB.out.cell (World.block_lt_of_cell? w _ hx209_0)).trans hx209_0
                                          replace hx209_1 := (HB.out.cell (World.block_lt_of_cell? w _ hx209_1)).trans hx209_1
                                          have HR209_1 := Aside0.mk hi209_1
                                          have HC209_1 := Aside0.mk hl209_1
                                          clear hi209_1 hl209_1
                                          replace p209 := eq_true p209
                                          replace q209 := eq_true q209
                                          have ea_ := Option.some.inj (hx208_1.symm.trans hx209_1)
                                          injection ea_ with ea_ en_ ec_
                                          subst ea_
                                          subst ec_
                                          clear en_
                                          have p210 : 0 ≤ (x8_4 : Int) := of_decide_eq_true (by first | (with_reducible assumption) | assumption)
                                          have q210 : x8_4 < (((rd_T31 l0 x7_3).f1).length : Int) := of_decide_eq_true (by first | (with_reducible assumption) | assumption)
                                          obtain ⟨ad210, e210, hx210_0⟩ := Kd.at_int HR209_1.out x8_4 p210 q210
                                          cases e210
                                          replace hx210_0 := (HB.out.cell (World.block_lt_of_cell? w _ hx210_0)).trans hx210_0
                                          replace p210 := eq_true p210
                                          replace q210 := eq_true q210
                                          go_wp2
                                          go_roundg k4
                                          case measure => have := HJ2.out; have := HK2.out; have := HK3.out; have := HK4.out; omega
                                          case rel => exact ⟨(x5_4), (wrap64 (x8_4 + 1)), (by first | rfl | (simp; done) | (simp [*]; done)), H', ⟨by have := HJ2.out; have := HK2.out; have := HK3.out; have := HK4.out; omega⟩, ⟨by (with_reducible repeat (first | apply Kd.R_alloc | apply Kd.R_drewN | apply Kd.R_drew)); exact HO_5.out⟩, ⟨by repeat (first | (with_reducible first | exact HB.out | apply below_alloc | apply pw_below_drewN | apply below_drew1) | exact HB.out)⟩⟩
                                      · rw [if_neg c21] at H
                                        have c21b0 : decide (0 ≤ (rd ((rd_T31 l0 x7_3).f1) x8_4)) = false := decide_eq_false c21
                                        clear c21
                                        have H' := Aside0.mk H
                                        clear H
                                        have p208 : 0 ≤ (x7_3 : Int) := of_decide_eq_true (by first | (with_reducible assumption) | assumption)
                                        have q208 : x7_3 < (l0.length : Int) := of_decide_eq_true (by first | (with_reducible assumption) | assumption)
                                        obtain ⟨ad208, A208_1, c208_1, e208, hx208_0, hx208_1, hl208_1, hi208_1⟩ := at_T31 HR0.out x7_3 p208 q208
                                        cases e208
                                        replace hx208_0 := (HB.out.cell (World.block_lt_of_cell? w _ hx208_0)).trans hx208_0
                                        replace hx208_1 := (HB.out.cell (World.block_lt_of_cell? w _ hx208_1)).trans hx208_1
                                        have HR208_1 := Aside0.mk hi208_1
                                        have HC208_1 := Aside0.mk hl208_1
                                        clear hi208_1 hl208_1
                                        replace p208 := eq_true p208
                                        replace q208 := eq_true q208
                                        have p209 : 0 ≤ (x7_3 : Int) := of_decide_eq_true (by first | (with_reducible assumption) | assumption)
                                        have q209 : x7_3 < (l0.length : Int) := of_decide_eq_true (by first | (with_reducible assumption) | assumption)
                                        obtain ⟨ad209, A209_1, c209_1, e209, hx209_0, hx209_1, hl209_1, hi209_1⟩ := at_T31 HR0.out x7_3 p209 q209
                                        obtain rfl : ad208 = ad209 := (by injection e209)
                                        replace hx209_0 := (HB.out.cell (World.block_lt_of_cell? w _ hx209_0)).trans hx209_0
                                        replace hx209_1 := (HB.out.cell (World.block_lt_of_cell? w _ hx209_1)).trans hx209_1
                                        have HR209_1 := Aside0.mk hi209_1
                                        have HC209_1 := Aside0.mk hl209_1
                                        clear hi209_1 hl209_1
                                        replace p209 := eq_true p209
                                        replace q209 := eq_true q209
                                        have ea_ := Option.some.inj (hx208_1.symm.trans hx209_1)
                                        injection ea_ with ea_ en_ ec_
                                        subst ea_
                                        subst ec_
                                        clear en_
                                        have p210 : 0 ≤ (x8_4 : Int) := of_decide_eq_true (by first | (with_reducible assumption) | assumption)
                                        have q210 : x8_4 < (((rd_T31 l0 x7_3).f1).length : Int) := of_decide_eq_true (by first | (with_reducible assumption) | assumption)
                                        obtain ⟨ad210, e210, hx210_0⟩ := Kd.at_int HR209_1.out x8_4 p210 q210
                                        cases e210
                                        replace hx210_0 := (HB.out.cell (World.block_lt_of_cell? w _ hx210_0)).trans hx210_0
                                        replace p210 := eq_true p210
                                        replace q210 := eq_true q210
                                        go_wp2
                                        go_roundg k4
                                        case measure => have := HJ2.out; have := HK2.out; have := HK3.out; have := HK4.out; omega
                                        case rel => exact ⟨(x5_4), (wrap64 (x8_4 + 1)), (by first | rfl | (simp; done) | (simp [*]; done)), H', ⟨by have := HJ2.out; have := HK2.out; have := HK3.out; have := HK4.out; omega⟩, ⟨by (with_reducible repeat (first | apply Kd.R_alloc | apply Kd.R_drewN | apply Kd.R_drew)); exact HO_5.out⟩, ⟨by repeat (first | (with_reducible first | exact HB.out | apply below_alloc | apply pw_below_drewN | apply below_drew1) | exact HB.out)⟩⟩
                                  · rw [if_neg c15] at H
                                    exact absurd H (by simp)
                                · rw [if_neg c14] at H
                                  have c14b0 : decide (x8_4 < (((rd_T31 l0 x7_3).f1).length : Int)) = false := decide_eq_false c14
                                  clear c14
                                  have H' := Aside0.mk H
                                  clear H
                                  have p208 : 0 ≤ (x7_3 : Int) := of_decide_eq_true (by first | (with_reducible assumption) | assumption)
                                  have q208 : x7_3 < (l0.length : Int) := of_decide_eq_true (by first | (with_reducible assumption) | assumption)
                                  obtain ⟨ad208, A208_1, c208_1, e208, hx208_0, hx208_1, hl208_1, hi208_1⟩ := at_T31 HR0.out x7_3 p208 q208
                                  cases e208
                                  replace hx208_0 := (HB.out.cell (World.block_lt_of_cell? w _ hx208_0)).trans hx208_0
                                  replace hx208_1 := (HB.out.cell (World.block_lt_of_cell? w _ hx208_1)).trans hx208_1
                                  have HR208_1 := Aside0.mk hi208_1
                                  have HC208_1 := Aside0.mk hl208_1
                                  clear hi208_1 hl208_1
                                  replace p208 := eq_true p208
                                  replace q208 := eq_true q208
                                  go_wp2
                                  go_roundg k4
                                  case measure => have := HJ2.out; have := HK2.out; have := HK3.out; have := HK4.out; omega
                                  case rel => exact ⟨(x5_4), (wrap64 (x7_3 + 1)), (by first | rfl | (simp; done) | (simp [*]; done)), H', ⟨by have := HJ2.out; have := HK2.out; have := HK3.out; have := HK4.out; omega⟩, ⟨by (with_reducible repeat (first | apply Kd.R_alloc | apply Kd.R_drewN | apply Kd.R_drew)); exact HO_5.out⟩, ⟨by repeat (first | (with_reducible first | exact HB.out | apply below_alloc | apply pw_below_drewN | apply below_drew1) | exact HB.out)⟩⟩
                              · rw [if_neg c13] at H
                                exact absurd H (by simp)
                            · rw [if_neg c12] at H
                              exact absurd H (by simp)
                      · rw [if_neg c11] at H
                        have c11b0 : decide (x7_3 < (l0.length : Int)) = false := decide_eq_false c11
                        clear c11
                        have H' := Aside0.mk H
                        clear H
                        go_wp2
                        go_roundg k3
                        case measure => have := HJ2.out; have := HK2.out; have := HK3.out; omega
                        case rel => exact ⟨(x5_3), (wrap64 (x6_2 + 1)), (by first | rfl | (simp; done) | (simp [*]; done)), H', ⟨by have := HJ2.out; have := HK2.out; have := HK3.out; omega⟩, ⟨by (with_reducible repeat (first | apply Kd.R_alloc | apply Kd.R_drewN | apply Kd.R_drew)); exact HO_5.out⟩, ⟨by repeat (first | (with_reducible first | exact HB.out | apply below_alloc | apply pw_below_drewN | apply below_drew1) | exact HB.out)⟩⟩
                · rw [if_neg c10] at H
                  have c10b0 : decide (x6_2 < (l0.length : Int)) = false := decide_eq_false c10
                  clear c10
                  have H' := Aside0.mk H
                  clear H
                  go_wp2
                  go_loopg [10, 11] k2 (fun kq v10 v11 w' => ∃ (x10_3 : List Int) (x11_3 : Int), v11 = .int .i64 x11_3 ∧ Aside0 (carlingref21_Users.l3 kq l0 x5_2 x10_3 x11_3 = some r) ∧ Aside0 (kq ≤ k2) ∧ Aside0 (Kd.R Kd.bool 4 w' w.heap.size (fun _ => True) v206 x5_2) ∧ Aside0 (Kd.R (Kd.int .i64) 3 w' w.heap.size (fun _ => True) v10 x10_3) ∧ Aside0 (Below w.heap.size w w'))
                  case atStart => exact ⟨(([] : List Int)), (0), (by first | rfl | (simp; done) | (simp [*]; done)), H', ⟨Nat.le_refl _⟩, ⟨by (with_reducible repeat (first | apply Kd.R_alloc | apply Kd.R_drewN | apply Kd.R_drew)); exact HO_5.out⟩, ⟨by first | exact Kd.R_nil _ _ _ _ _ | exact Kd.N_nil _ _ _ _ _ | exact Kd.V_nil _ _ _ _ _ | exact Kd.Q_nil _ _ _ _ _ | exact Kd.S_nil _ _ _ _ _⟩, ⟨by repeat (first | (with_reducible first | exact HB.out | apply below_alloc | apply pw_below_drewN | apply below_drew1) | exact HB.out)⟩⟩
                  case round =>
                    clear H'
                    try clear c1
                    try clear p1
                    try clear q1
                    try clear hx1
                    try clear c2
                    try clear p2
                    try clear q2
                    try clear hx2
                    try clear hf2
                    try clear c4
                    try clear c4b0
                    try clear c5
                    try clear c6
                    try clear c6b0
                    try clear c6b1
                    try clear p6
                    try clear c7
                    try clear c7b0
                    try clear c7b1
                    try clear c10
                    try clear c10b0
                    try clear c11
                    try clear c11b0
                    try clear c12
                    try clear c12b0
                    try clear c13
                    try clear c13b0
                    try clear c14
                    try clear c14b0
                    try clear c15
                    try clear c15b0
                    try clear c16
                    try clear c16b0
                    try clear c16b1
                    try clear c17
                    try clear c17b0
                    try clear p18
                    try clear q18
                    try clear hx18
                    try clear hf18
                    try clear c20
                    try clear p20
                    try clear q20
                    try clear hx20
                    try clear c21
                    try clear c21b0
                    try clear p21
                    try clear q21
                    try clear hx21
                    try clear c22
                    try clear c22b0
                    try clear c23
                    try clear c23b0
                    try clear c24
                    try clear c24b0
                    try clear q25
                    try clear c26
                    try clear c27
                    try clear c27b0
                    try clear p28
                    try clear q28
                    try clear hx28
                    try clear hf28
                    try clear hx18_0
                    try clear hx208_0
                    try clear hx208_1
                    try clear hx209_0
                    try clear hx209_1
                    try clear hx210_0
                    try clear hx212_0
                    try clear hx28_0
                    try clear p18
                    try clear p2
                    try clear p208
                    try clear p209
                    try clear p210
                    try clear p212
                    try clear p28
                    try clear q18
                    try clear q208
                    try clear q209
                    try clear q210
                    try clear q212
                    try clear q28
                    obtain ⟨x10_3, x11_3, rfl, HA, HK3, HO_5, HO_10, HB⟩ := hrel
                    cases gk with
                    | zero => exact absurd HA.out (by simp [carlingref21_Users.l3])
                    | succ k3 =>
                      have H := HA.out
                      clear HA
                      simp only [carlingref21_Users.l3] at H
                      by_cases c33 : x11_3 < (l0.length : Int)
                      · rw [if_pos c33] at H
                        have c33b0 : decide (x11_3 < (l0.length : Int)) = true := decide_eq_true c33
                        clear c33
                        by_cases c34 : 0 ≤ x11_3
                        · rw [if_pos c34] at H
                          have c34b0 : decide (0 ≤ x11_3) = true := decide_eq_true c34
                          clear c34
                          by_cases c35 : x11_3 < (x5_2.length : Int)
                          · rw [if_pos c35] at H
                            have c35b0 : decide (x11_3 < (x5_2.length : Int)) = true := decide_eq_true c35
                            clear c35
                            obtain ⟨bq36, hbq36⟩ : ∃ b_ : Bool, b_ = (rdOf false x5_2 x11_3) := ⟨_, rfl⟩
                            replace H : (if bq36 = true then (if x10_3.length < 17592186044416 then (carlingref21_Users.l3 k3 l0 x5_2 (x10_3 ++ [x11_3]) (wrap64 (x11_3 + 1))) else (none)) else (carlingref21_Users.l3 k3 l0 x5_2 x10_3 (wrap64 (x11_3 + 1)))) = some r := by rw [← hbq36] at H; exact H
                            have Nbq36 := Aside0.mk hbq36
                            clear hbq36
                            by_cases c37 : bq36 = true
                            · subst c37
                              have H1 : (if x10_3.length < 17592186044416 then (carlingref21_Users.l3 k3 l0 x5_2 (x10_3 ++ [x11_3]) (wrap64 (x11_3 + 1))) else (none)) = some r := by rw [if_pos rfl] at H; exact H
                              clear H
                              have H := H1
                              clear H1
                              by_cases c38 : x10_3.length < 17592186044416
                              · rw [if_pos c38] at H
                                have LMc38 := Aside0.mk c38
                                clear c38
                                obtain ⟨y215, hy215⟩ : ∃ y_ : List Int, y_ = (x10_3 ++ [x11_3]) := ⟨_, rfl⟩
                                replace H : (carlingref21_Users.l3 k3 l0 x5_2 y215 (wrap64 (x11_3 + 1))) = some r := by first | (rw [hy215]; with_reducible exact H) | (have H2_ := (Option.bind_some _ _).symm.trans H; rw [hy215]; with_reducible exact H2_) | (have H2_ := (Option.bind_some _ _).symm.trans H; with_reducible exact H2_) | with_reducible exact H | (rw [hy215]; exact H) | exact H
                                have Ny215 := Aside0.mk hy215
                                clear hy215
                                have H' := Aside0.mk H
                                clear H
                                obtain ⟨Ao39, co39, eo39⟩ := Kd.R_slice HO_5.out
                                subst eo39
                                have p214 : 0 ≤ (x11_3 : Int) := of_decide_eq_true (by first | (with_reducible assumption) | assumption)
                                have q214 : x11_3 < (x5_2.length : Int) := of_decide_eq_true (by first | (with_reducible assumption) | assumption)
                                obtain ⟨ad214, e214, hx214_0⟩ := Kd.at_bool (Kd.R_reads' HO_5.out).2.2 x11_3 p214 q214
                                (try rw [← Nbq36.out] at hx214_0)
                                cases e214
                                replace p214 := eq_true p214
                                replace q214 := eq_true q214
                                go_wp2_with (first | ((with_reducible refine gate_builtin (b := .append) (xs := #[.tmp 85, .tmp 87]) rfl ?_); (try (refine gate_guard (by rfl) ?_; dsimp only)); at_builtin; refine Kd.R_append (Kd.int .i64) (w0 := w) w.heap.size rfl (.tmp 85) (.tmp 87) 25 3 (.int .i64 0) 8 rfl Try.underlying25 info3 rfl (by decide) (by omega) u10 x10_3 x11_3 [.int .i64 x11_3] (fun _ => True) (fun _ => False) rfl rfl ?aP (fun _ hk => hk.elim) ?aF ?aO ?aB ?aS ?aL ?_; (case aP => exact rfl); (case aB => exact (by repeat (first | (with_reducible first | exact HB.out | apply below_alloc | apply pw_below_drewN | apply below_drew1) | exact HB.out))); (case aF => exact (fun _ _ => trivial)); (case aO => exact (by (with_reducible repeat (first | apply Kd.R_alloc | apply Kd.R_drewN | apply Kd.R_drew)); exact HO_10.out)); (case aS => exact (below_size (by repeat (first | (with_reducible first | exact HB.out | apply below_alloc | apply pw_below_drewN | apply below_drew1) | exact HB.out)))); (case aL => have := LMc38.out; omega); intro v216 w40 ho hb hg hat; rw [← Ny215.out] at ho; have n0_ := Aside0.mk (Kd.R_over' (by (with_reducible repeat (first | apply Kd.R_alloc | apply Kd.R_drewN | apply Kd.R_drew)); exact HO_5.out) (Kd.R_typed (by (with_reducible repeat (first | apply Kd.R_alloc | apply Kd.R_drewN | apply Kd.R_drew)); exact HO_10.out)) (by decide) hg); have n1_ := Aside0.mk (hb); have n2_ := Aside0.mk (ho); clear HO_5; clear HB; clear HO_10; have HO_5 := n0_; have HB := n1_; have HO217 := n2_; clear n0_ n1_ n2_; clear ho hb hg hat))
                                go_roundg k3
                                case measure => have := HJ2.out; have := HK2.out; have := HK3.out; omega
                                case rel => exact ⟨(y215), (wrap64 (x11_3 + 1)), (by first | rfl | (simp; done) | (simp [*]; done)), H', ⟨by have := HJ2.out; have := HK2.out; have := HK3.out; omega⟩, ⟨by (with_reducible repeat (first | apply Kd.R_alloc | apply Kd.R_drewN | apply Kd.R_drew)); exact HO_5.out⟩, ⟨by (with_reducible repeat (first | apply Kd.R_alloc | apply Kd.R_drewN | apply Kd.R_drew)); exact HO217.out⟩, ⟨by repeat (first | (with_reducible first | exact HB.out | apply below_alloc | apply pw_below_drewN | apply below_drew1) | exact HB.out)⟩⟩
                              · rw [if_neg c38] at H
                                exact absurd H (by simp)
                            · replace c37 := Bool.eq_false_iff.mpr c37
                              subst c37
                              have H1 : (carlingref21_Users.l3 k3 l0 x5_2 x10_3 (wrap64 (x11_3 + 1))) = some r := by rw [if_neg (show ¬ (false = true) by decide)] at H; exact H
                              clear H
                              have H := H1
                              clear H1
                              have H' := Aside0.mk H
                              clear H
                              obtain ⟨Ao41, co41, eo41⟩ := Kd.R_slice HO_5.out
                              subst eo41
                              have p214 : 0 ≤ (x11_3 : Int) := of_decide_eq_true (by first | (with_reducible assumption) | assumption)
                              have q214 : x11_3 < (x5_2.length : Int) := of_decide_eq_true (by first | (with_reducible assumption) | assumption)
                              obtain ⟨ad214, e214, hx214_0⟩ := Kd.at_bool (Kd.R_reads' HO_5.out).2.2 x11_3 p214 q214
                              (try rw [← Nbq36.out] at hx214_0)
                              cases e214
                              replace p214 := eq_true p214
                              replace q214 := eq_true q214
                              go_wp2
                              go_roundg k3
                              case measure => have := HJ2.out; have := HK2.out; have := HK3.out; omega
                              case rel => exact ⟨(x10_3), (wrap64 (x11_3 + 1)), (by first | rfl | (simp; done) | (simp [*]; done)), H', ⟨by have := HJ2.out; have := HK2.out; have := HK3.out; omega⟩, ⟨by (with_reducible repeat (first | apply Kd.R_alloc | apply Kd.R_drewN | apply Kd.R_drew)); exact HO_5.out⟩, ⟨by (with_reducible repeat (first | apply Kd.R_alloc | apply Kd.R_drewN | apply Kd.R_drew)); exact HO_10.out⟩, ⟨by repeat (first | (with_reducible first | exact HB.out | apply below_alloc | apply pw_below_drewN | apply below_drew1) | exact HB.out)⟩⟩
                          · rw [if_neg c35] at H
                            exact absurd H (by simp)
                        · rw [if_neg c34] at H
                          exact absurd H (by simp)
                      · rw [if_neg c33] at H
                        have c33b0 : decide (x11_3 < (l0.length : Int)) = false := decide_eq_false c33
                        clear c33
                        obtain rfl := Option.some.inj H
                        go_wp2
                        go_ret
                        exact ⟨_, by first | rfl | (simp [errW_none, errW_some] <;> rfl) | (simp [*, errW_none, errW_some] <;> rfl), by (with_reducible repeat (first | apply Kd.R_alloc | apply Kd.R_drewN | apply Kd.R_drew)); exact HO_10.out, by repeat (first | (with_reducible first | exact HB.out | apply below_alloc | apply pw_below_drewN | apply below_drew1) | exact HB.out)⟩
          · rw [if_neg c7] at H
            exact absurd H (by simp)
        · rw [if_neg c6] at H
          exact absurd H (by simp)

end Go.Proofs.Ytgjlgdohlmpnbaa.P
