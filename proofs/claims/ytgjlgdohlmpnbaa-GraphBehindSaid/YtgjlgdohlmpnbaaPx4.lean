-- Written by a program of this session (gp.py), which drives the kit's printer: the machine's side of functions and laws.
import Derived.Test.YtgjlgdohlmpnbaaPx0
import Derived.Test.YtgjlgdohlmpnbaaPx1
import Derived.Test.YtgjlgdohlmpnbaaG2
namespace Go.Proofs.Ytgjlgdohlmpnbaa.P
open Go.RowKit Go.Proofs.YtgjlgdohlmpnbaaW.PrintWords Go.Proofs.YtgjlgdohlmpnbaaW.PrintLast Go.Proofs.YtgjlgdohlmpnbaaW.PrintMore
attribute [local go_sem] max2_int min2_int max_two min_two max_three min_three max_four min_four   -- for this text's walks alone
set_option linter.unusedVariables false
set_option linter.unusedSimpArgs false

/-! ### carlinglaw21_GraphBehind: function 4 -/
mutual
def carlinglaw21_GraphBehind.l0 : Nat → List (S31) → Bool → List Int → List Int → Int → Option (Bool)
  | 0, _, _, _, _, _ => none
  | k + 1, x0, x3, x5, x7, x8 => if x8 < (x0.length : Int) then (if 0 ≤ x8 then (if x8 < (x7.length : Int) then (carlinglaw21_GraphBehind.l0 k x0 x3 x5 (x7.set (x8 : Int).toNat (-1)) (wrap64 (x8 + 1))) else (none)) else (none)) else (carlinglaw21_GraphBehind.l1 k x0 x3 x5 x7 0)
def carlinglaw21_GraphBehind.l1 : Nat → List (S31) → Bool → List Int → List Int → Int → Option (Bool)
  | 0, _, _, _, _, _ => none
  | k + 1, x0, x3, x5, x7, x9 => if x9 < (x5.length : Int) then (if 0 ≤ x9 then (if (rd x5 x9) < 0 then (carlinglaw21_GraphBehind.j2 k x0 x3 x5 x7 x9 true) else (if (rd x5 x9) ≥ (x0.length : Int) then (carlinglaw21_GraphBehind.j2 k x0 x3 x5 x7 x9 true) else (if 0 ≤ (rd x5 x9) then (if (rd x5 x9) < (x7.length : Int) then (carlinglaw21_GraphBehind.j2 k x0 x3 x5 x7 x9 (decide ((rd x7 (rd x5 x9)) ≥ 0))) else (none)) else (none)))) else (none)) else (some x3)
def carlinglaw21_GraphBehind.j2 : Nat → List (S31) → Bool → List Int → List Int → Int → Bool → Option (Bool)
  | 0, _, _, _, _, _, _ => none
  | k + 1, x0, x3, x5, x7, x9, x77 => if x77 = true then (some false) else (if 0 ≤ x9 then (if x9 < (x5.length : Int) then (if 0 ≤ (rd x5 x9) then (if (rd x5 x9) < (x7.length : Int) then (carlinglaw21_GraphBehind.l2 k x0 x3 x5 (x7.set ((rd x5 x9) : Int).toNat x9) x9 0) else (none)) else (none)) else (none)) else (none))
def carlinglaw21_GraphBehind.l2 : Nat → List (S31) → Bool → List Int → List Int → Int → Int → Option (Bool)
  | 0, _, _, _, _, _, _ => none
  | k + 1, x0, x3, x5, x7, x9, x10 => if 0 ≤ x9 then (if x9 < (x5.length : Int) then (if 0 ≤ (rd x5 x9) then (if (rd x5 x9) < (x0.length : Int) then (if x10 < (((rd_T31 x0 (rd x5 x9)).f1).length : Int) then (if 0 ≤ x10 then (if (rd ((rd_T31 x0 (rd x5 x9)).f1) x10) < 0 then (some false) else (if (rd ((rd_T31 x0 (rd x5 x9)).f1) x10) ≥ (x0.length : Int) then (some false) else (if 0 ≤ (rd ((rd_T31 x0 (rd x5 x9)).f1) x10) then (if (rd ((rd_T31 x0 (rd x5 x9)).f1) x10) < (x7.length : Int) then (if (rd x7 (rd ((rd_T31 x0 (rd x5 x9)).f1) x10)) < 0 then (some false) else (carlinglaw21_GraphBehind.l2 k x0 x3 x5 x7 x9 (wrap64 (x10 + 1)))) else (none)) else (none)))) else (none)) else (carlinglaw21_GraphBehind.l1 k x0 x3 x5 x7 (wrap64 (x9 + 1)))) else (none)) else (none)) else (none)) else (none)
end
def carlinglaw21_GraphBehind.f (k : Nat) (l0 : List (S31)) : Option (Bool) := (carlinglaw21_awake.f).bind fun t162 => ((carlingref21_Light.f k l0).bind fun t163 => (if t163 = true then ((graph_Order.f l0).bind fun bt164 => (if bt164.2 = 0 then (if (bt164.1.length : Int) = (l0.length : Int) then (if 0 ≤ (l0.length : Int) then (if ((l0.length : Int) : Int).toNat ≤ 35184372088832 then (carlinglaw21_GraphBehind.l0 k l0 t162 bt164.1 (List.replicate ((l0.length : Int) : Int).toNat 0) 0) else (none)) else (none)) else (some false)) else (if t162 = true then (some ((bt164.1.length : Int) == 0)) else (some false)))) else (some t162)))
theorem carlinglaw21_GraphBehind.mono_l : ∀ k, (∀ y0 y1 y2 y3 y4, LeO (carlinglaw21_GraphBehind.l0 k y0 y1 y2 y3 y4) (carlinglaw21_GraphBehind.l0 (k + 1) y0 y1 y2 y3 y4)) ∧ (∀ y0 y1 y2 y3 y4, LeO (carlinglaw21_GraphBehind.l1 k y0 y1 y2 y3 y4) (carlinglaw21_GraphBehind.l1 (k + 1) y0 y1 y2 y3 y4)) ∧ (∀ y0 y1 y2 y3 y4 y5, LeO (carlinglaw21_GraphBehind.j2 k y0 y1 y2 y3 y4 y5) (carlinglaw21_GraphBehind.j2 (k + 1) y0 y1 y2 y3 y4 y5)) ∧ (∀ y0 y1 y2 y3 y4 y5, LeO (carlinglaw21_GraphBehind.l2 k y0 y1 y2 y3 y4 y5) (carlinglaw21_GraphBehind.l2 (k + 1) y0 y1 y2 y3 y4 y5))
  | 0 => ⟨fun _ _ _ _ _ r h => by simp [carlinglaw21_GraphBehind.l0] at h, fun _ _ _ _ _ r h => by simp [carlinglaw21_GraphBehind.l1] at h, fun _ _ _ _ _ _ r h => by simp [carlinglaw21_GraphBehind.j2] at h, fun _ _ _ _ _ _ r h => by simp [carlinglaw21_GraphBehind.l2] at h⟩
  | k + 1 => by
    obtain ⟨ih0, ih1, ih2, ih3⟩ := carlinglaw21_GraphBehind.mono_l k
    refine ⟨?_, ?_, ?_, ?_⟩
    · intro y0 y1 y2 y3 y4
      unfold carlinglaw21_GraphBehind.l0
      repeat' first
      | (with_reducible exact ih0 _ _ _ _ _)
      | (with_reducible exact ih1 _ _ _ _ _)
      | (with_reducible exact ih2 _ _ _ _ _ _)
      | (with_reducible exact ih3 _ _ _ _ _ _)
      | (with_reducible exact carlingref21_Light.mono _ _)
      | (with_reducible exact LeO.refl _)
      | (with_reducible exact LeO.none _)
      | (with_reducible refine LeO.ite ?_ ?_)
      | (with_reducible refine LeO.bind ?_ (fun _ => ?_))
      | exact ih0 _ _ _ _ _
      | exact ih1 _ _ _ _ _
      | exact ih2 _ _ _ _ _ _
      | exact ih3 _ _ _ _ _ _
      | exact carlingref21_Light.mono _ _
      | exact LeO.none _
      | refine LeO.ite ?_ ?_
      | refine LeO.bind ?_ (fun _ => ?_)
    · intro y0 y1 y2 y3 y4
      unfold carlinglaw21_GraphBehind.l1
      repeat' first
      | (with_reducible exact ih0 _ _ _ _ _)
      | (with_reducible exact ih1 _ _ _ _ _)
      | (with_reducible exact ih2 _ _ _ _ _ _)
      | (with_reducible exact ih3 _ _ _ _ _ _)
      | (with_reducible exact carlingref21_Light.mono _ _)
      | (with_reducible exact LeO.refl _)
      | (with_reducible exact LeO.none _)
      | (with_reducible refine LeO.ite ?_ ?_)
      | (with_reducible refine LeO.bind ?_ (fun _ => ?_))
      | exact ih0 _ _ _ _ _
      | exact ih1 _ _ _ _ _
      | exact ih2 _ _ _ _ _ _
      | exact ih3 _ _ _ _ _ _
      | exact carlingref21_Light.mono _ _
      | exact LeO.none _
      | refine LeO.ite ?_ ?_
      | refine LeO.bind ?_ (fun _ => ?_)
    · intro y0 y1 y2 y3 y4 y5
      unfold carlinglaw21_GraphBehind.j2
      repeat' first
      | (with_reducible exact ih0 _ _ _ _ _)
      | (with_reducible exact ih1 _ _ _ _ _)
      | (with_reducible exact ih2 _ _ _ _ _ _)
      | (with_reducible exact ih3 _ _ _ _ _ _)
      | (with_reducible exact carlingref21_Light.mono _ _)
      | (with_reducible exact LeO.refl _)
      | (with_reducible exact LeO.none _)
      | (with_reducible refine LeO.ite ?_ ?_)
      | (with_reducible refine LeO.bind ?_ (fun _ => ?_))
      | exact ih0 _ _ _ _ _
      | exact ih1 _ _ _ _ _
      | exact ih2 _ _ _ _ _ _
      | exact ih3 _ _ _ _ _ _
      | exact carlingref21_Light.mono _ _
      | exact LeO.none _
      | refine LeO.ite ?_ ?_
      | refine LeO.bind ?_ (fun _ => ?_)
    · intro y0 y1 y2 y3 y4 y5
      unfold carlinglaw21_GraphBehind.l2
      repeat' first
      | (with_reducible exact ih0 _ _ _ _ _)
      | (with_reducible exact ih1 _ _ _ _ _)
      | (with_reducible exact ih2 _ _ _ _ _ _)
      | (with_reducible exact ih3 _ _ _ _ _ _)
      | (with_reducible exact carlingref21_Light.mono _ _)
      | (with_reducible exact LeO.refl _)
      | (with_reducible exact LeO.none _)
      | (with_reducible refine LeO.ite ?_ ?_)
      | (with_reducible refine LeO.bind ?_ (fun _ => ?_))
      | exact ih0 _ _ _ _ _
      | exact ih1 _ _ _ _ _
      | exact ih2 _ _ _ _ _ _
      | exact ih3 _ _ _ _ _ _
      | exact carlingref21_Light.mono _ _
      | exact LeO.none _
      | refine LeO.ite ?_ ?_
      | refine LeO.bind ?_ (fun _ => ?_)
theorem carlinglaw21_GraphBehind.mono : ∀ a0 k, LeO (carlinglaw21_GraphBehind.f k a0) (carlinglaw21_GraphBehind.f (k + 1) a0) := by
  intro a0 k
  obtain ⟨ih0, ih1, ih2, ih3⟩ := carlinglaw21_GraphBehind.mono_l k
  unfold carlinglaw21_GraphBehind.f
  repeat' first
      | (with_reducible exact ih0 _ _ _ _ _)
      | (with_reducible exact ih1 _ _ _ _ _)
      | (with_reducible exact ih2 _ _ _ _ _ _)
      | (with_reducible exact ih3 _ _ _ _ _ _)
      | (with_reducible exact carlingref21_Light.mono _ _)
      | (with_reducible exact LeO.refl _)
      | (with_reducible exact LeO.none _)
      | (with_reducible refine LeO.ite ?_ ?_)
      | (with_reducible refine LeO.bind ?_ (fun _ => ?_))
      | exact ih0 _ _ _ _ _
      | exact ih1 _ _ _ _ _
      | exact ih2 _ _ _ _ _ _
      | exact ih3 _ _ _ _ _ _
      | exact carlingref21_Light.mono _ _
      | exact LeO.none _
      | refine LeO.ite ?_ ?_
      | refine LeO.bind ?_ (fun _ => ?_)
set_option maxHeartbeats 8000000 in
set_option maxRecDepth 100000 in
theorem carlinglaw21_GraphBehind.calls (k : Nat) (A0 : Option Addr) (c0 : Nat) (l0 : List (S31)) (r : Bool) (w : World) (hr0 : Kd.C k31 w A0 l0.length l0) (hc0 : l0.length ≤ c0) (h : carlinglaw21_GraphBehind.f k l0 = some r) :
    Calls Try.prog 4 #[.slice A0 l0.length c0] w fun e w' => e = .returned (.bool r) ∧ Below w.heap.size w w' := by
  have HR0 := Aside0.mk hr0
  have HC0 := Aside0.mk hc0
  clear hr0 hc0
  have HB := Aside0.mk (Below.refl w.heap.size w)
  have H : ((carlinglaw21_awake.f).bind fun t162 => ((carlingref21_Light.f k l0).bind fun t163 => (if t163 = true then ((graph_Order.f l0).bind fun bt164 => (if bt164.2 = 0 then (if (bt164.1.length : Int) = (l0.length : Int) then (if 0 ≤ (l0.length : Int) then (if ((l0.length : Int) : Int).toNat ≤ 35184372088832 then (carlinglaw21_GraphBehind.l0 k l0 t162 bt164.1 (List.replicate ((l0.length : Int) : Int).toNat 0) 0) else (none)) else (none)) else (some false)) else (if t162 = true then (some ((bt164.1.length : Int) == 0)) else (some false)))) else (some t162)))) = some r := h
  clear h
  replace H := Option.bind_eq_some_iff.mp H
  obtain ⟨t162, A20, H⟩ := H
  replace H : ((carlingref21_Light.f k l0).bind fun t163 => (if t163 = true then ((graph_Order.f l0).bind fun bt164 => (if bt164.2 = 0 then (if (bt164.1.length : Int) = (l0.length : Int) then (if 0 ≤ (l0.length : Int) then (if ((l0.length : Int) : Int).toNat ≤ 35184372088832 then (carlinglaw21_GraphBehind.l0 k l0 t162 bt164.1 (List.replicate ((l0.length : Int) : Int).toNat 0) 0) else (none)) else (none)) else (some false)) else (if t162 = true then (some ((bt164.1.length : Int) == 0)) else (some false)))) else (some t162))) = some r := H
  have A2 := Aside0.mk A20
  clear A20
  replace H := Option.bind_eq_some_iff.mp H
  obtain ⟨t163, A30, H⟩ := H
  replace H : (if t163 = true then ((graph_Order.f l0).bind fun bt164 => (if bt164.2 = 0 then (if (bt164.1.length : Int) = (l0.length : Int) then (if 0 ≤ (l0.length : Int) then (if ((l0.length : Int) : Int).toNat ≤ 35184372088832 then (carlinglaw21_GraphBehind.l0 k l0 t162 bt164.1 (List.replicate ((l0.length : Int) : Int).toNat 0) 0) else (none)) else (none)) else (some false)) else (if t162 = true then (some ((bt164.1.length : Int) == 0)) else (some false)))) else (some t162)) = some r := H
  have A3 := Aside0.mk A30
  clear A30
  by_cases c4 : t163 = true
  · subst c4
    have H1 : ((graph_Order.f l0).bind fun bt164 => (if bt164.2 = 0 then (if (bt164.1.length : Int) = (l0.length : Int) then (if 0 ≤ (l0.length : Int) then (if ((l0.length : Int) : Int).toNat ≤ 35184372088832 then (carlinglaw21_GraphBehind.l0 k l0 t162 bt164.1 (List.replicate ((l0.length : Int) : Int).toNat 0) 0) else (none)) else (none)) else (some false)) else (if t162 = true then (some ((bt164.1.length : Int) == 0)) else (some false)))) = some r := by rw [if_pos rfl] at H; exact H
    clear H
    have H := H1
    clear H1
    replace H := Option.bind_eq_some_iff.mp H
    obtain ⟨⟨t164, t165⟩, A50, H⟩ := H
    replace H : (if t165 = 0 then (if (t164.length : Int) = (l0.length : Int) then (if 0 ≤ (l0.length : Int) then (if ((l0.length : Int) : Int).toNat ≤ 35184372088832 then (carlinglaw21_GraphBehind.l0 k l0 t162 t164 (List.replicate ((l0.length : Int) : Int).toNat 0) 0) else (none)) else (none)) else (some false)) else (if t162 = true then (some ((t164.length : Int) == 0)) else (some false))) = some r := H
    have A5 := Aside0.mk A50
    clear A50
    by_cases c6 : t165 = 0
    · rw [if_pos c6] at H
      have c6b0 : (t165 == 0) = true := beq_iff_eq.mpr c6
      have c6b1 : (t165 != 0) = false := bne_eq_false_iff_eq.mpr c6
      clear c6
      by_cases c7 : (t164.length : Int) = (l0.length : Int)
      · rw [if_pos c7] at H
        have c7b0 : ((t164.length : Int) == (l0.length : Int)) = true := beq_iff_eq.mpr c7
        have c7b1 : ((t164.length : Int) != (l0.length : Int)) = false := bne_eq_false_iff_eq.mpr c7
        have c7b2 : (t164.length == l0.length) = true := by first | simpa using c7 | (simp at c7 ⊢; omega)
        clear c7
        by_cases c8 : 0 ≤ (l0.length : Int)
        · rw [if_pos c8] at H
          have c8b0 := eq_true c8
          have c8b1 : decide (0 ≤ (l0.length : Int)) = true := decide_eq_true c8
          clear c8
          by_cases c9 : ((l0.length : Int) : Int).toNat ≤ 35184372088832
          · rw [if_pos c9] at H
            have c9b0 := eq_true c9
            have c9b1 : decide (((l0.length : Int) : Int).toNat ≤ 35184372088832) = true := decide_eq_true c9
            clear c9
            obtain ⟨y168, hy168⟩ : ∃ y_ : List Int, y_ = (List.replicate ((l0.length : Int) : Int).toNat 0) := ⟨_, rfl⟩
            replace H : (carlinglaw21_GraphBehind.l0 k l0 t162 t164 y168 0) = some r := by first | (rw [hy168]; with_reducible exact H) | (have H2_ := (Option.bind_some _ _).symm.trans H; rw [hy168]; with_reducible exact H2_) | (have H2_ := (Option.bind_some _ _).symm.trans H; with_reducible exact H2_) | with_reducible exact H | (rw [hy168]; exact H) | exact H
            have Ny168 := Aside0.mk hy168
            clear hy168
            have H' := Aside0.mk H
            clear H
            go_enter Try.func4, Try.ntmps4
            go_wp2_with (first | ((with_reducible refine gate_callee (f := 14) rfl ?_); refine goesL_ (some 12) rfl rfl Try.func14 (by kernel_rfl) rfl #[] rfl (by (try simp only [List.map_toArray, List.map_cons, List.map_nil]); first | done | rfl | (simp only [List.length_drop, List.length_take]; rfl)) ?_; (with_reducible refine (carlinglaw21_awake.calls  t162 _ A2.out).mono ?_); rintro e w10 ⟨rfl, hb⟩; refine ⟨_, rfl, ?_⟩; have n0_ := Aside0.mk (below_step (by repeat (first | (with_reducible first | exact HB.out | apply below_alloc | apply pw_below_drewN | apply below_drew1) | exact HB.out)) hb); clear HB; have HB := n0_; clear n0_; (try clear hb); (try clear hb2); (try clear hk); (try clear hi)) | ((with_reducible refine gate_callee (f := 15) rfl ?_); refine goesL_ (some 14) rfl rfl Try.func15 (by kernel_rfl) rfl #[.slice A0 l0.length c0] rfl (by (try simp only [List.map_toArray, List.map_cons, List.map_nil]); first | done | rfl | (simp only [List.length_drop, List.length_take]; rfl)) ?_; (with_reducible refine (carlingref21_Light.calls k _ _ l0 true _ ?side1 ?side2 A3.out).mono ?_); (case side1 => repeat (first | exact (Kd.C_below HR0.out HB.out) | (with_reducible refine Kd.C_alloc ?_ _) | (with_reducible refine Kd.C_drewN ?_ _) | (with_reducible refine Kd.C_drew ?_))); (case side2 => exact HC0.out); rintro e w' ⟨rfl, ⟨nd, rfl⟩⟩; refine ⟨_, rfl, ?_⟩) | ((with_reducible refine gate_callee (f := 16) rfl ?_); refine goesL_ (some 20) rfl rfl Try.func16 (by kernel_rfl) rfl #[.slice A0 l0.length c0] rfl (by (try simp only [List.map_toArray, List.map_cons, List.map_nil]); first | done | rfl | (simp only [List.length_drop, List.length_take]; rfl)) ?_; (with_reducible refine (graph_Order.calls _ _ l0 t164 t165 _ ?side1 ?side2 A5.out).mono ?_); (case side1 => repeat (first | exact (Kd.C_below HR0.out (by repeat (first | (with_reducible first | exact HB.out | apply below_alloc | apply pw_below_drewN | apply below_drew1) | exact HB.out))) | (with_reducible refine Kd.C_alloc ?_ _) | (with_reducible refine Kd.C_drewN ?_ _) | (with_reducible refine Kd.C_drew ?_))); (case side2 => exact HC0.out); rintro e w11 ⟨v166, rfl, ho0, hb⟩; refine ⟨_, rfl, ?_⟩; have n0_ := Aside0.mk (Kd.R_lower ho0 (below_size (by repeat (first | (with_reducible first | exact HB.out | apply below_alloc | apply pw_below_drewN | apply below_drew1) | exact HB.out)))); have n1_ := Aside0.mk (below_step (by repeat (first | (with_reducible first | exact HB.out | apply below_alloc | apply pw_below_drewN | apply below_drew1) | exact HB.out)) hb); clear HB; have HO167 := n0_; have HB := n1_; clear n0_ n1_; (try clear hb); (try clear hb2); (try clear hk); (try clear hi); (try clear ho0); obtain ⟨Ao12, co12, eo12⟩ := Kd.R_slice HO167.out; subst eo12) | ((with_reducible refine gate_dst (N := 38) rfl ?_); (try (refine gate_guard (by rfl) ?_; dsimp only)); refine Kd.R_make (Kd.int .i64) _ 3 rfl (N := 38) rfl 25 _ _ rfl (l0.length : Int) rfl rfl Try.underlying25 (.int .i64 0) 8 info3 rfl (by decide) (by omega) 0 (ok := fun _ => True) (okp := fun _ => True) rfl (fun _ hk => hk) trivial (of_decide_eq_true (by first | (with_reducible assumption) | assumption)) (Nat.le_trans (Nat.mul_le_mul_right _ (of_decide_eq_true (by first | (with_reducible assumption) | assumption) : (l0.length : Int).toNat ≤ 35184372088832)) (by omega)) (Below.refl _ _) (Nat.le_refl _) ?_; intro v169 w13 ho14 hb hg_ hnew_; clear hg_ hnew_; (first | rw [← Ny168.out] at ho14 | (simp only [Int.reduceToNat] at ho14; rw [← Ny168.out] at ho14)); have n0_ := Aside0.mk (Kd.R_elder' (by (with_reducible repeat (first | apply Kd.R_alloc | apply Kd.R_drewN | apply Kd.R_drew)); exact HO167.out) (Kd.R_base ho14) hb); have n1_ := Aside0.mk (Kd.R_lower (Kd.R_new' ho14 (Kd.R_lt (by (with_reducible repeat (first | apply Kd.R_alloc | apply Kd.R_drewN | apply Kd.R_drew)); exact HO167.out))) (below_size (by repeat (first | (with_reducible first | exact HB.out | apply below_alloc | apply pw_below_drewN | apply below_drew1) | exact HB.out)))); have n2_ := Aside0.mk (below_step (by repeat (first | (with_reducible first | exact HB.out | apply below_alloc | apply pw_below_drewN | apply below_drew1) | exact HB.out)) hb); clear HO167; clear HB; have HO167 := n0_; have HO170 := n1_; have HB := n2_; clear n0_ n1_ n2_; clear hb ho14))
            go_loopg [8] k (fun kq v8 w' => ∃ (x7_1 : List Int) (x8_1 : Int), v8 = .int .i64 x8_1 ∧ Aside0 (carlinglaw21_GraphBehind.l0 kq l0 t162 t164 x7_1 x8_1 = some r) ∧ Aside0 (kq ≤ k) ∧ Aside0 (Kd.R (Kd.int .i64) 3 w' w.heap.size (fun k_ => some k_ ≠ (v169 : Value).ownBlock) (.slice Ao12 t164.length co12) t164) ∧ Aside0 (Kd.R (Kd.int .i64) 3 w' w.heap.size (fun k_ => some k_ ≠ ((.slice Ao12 t164.length co12) : Value).ownBlock) v169 x7_1) ∧ Aside0 (Below w.heap.size w w'))
            case atStart => exact ⟨(y168), (0), (by first | rfl | (simp; done) | (simp [*]; done)), H', ⟨Nat.le_refl _⟩, ⟨by (with_reducible repeat (first | apply Kd.R_alloc | apply Kd.R_drewN | apply Kd.R_drew)); exact Kd.R_mono HO167.out (fun _ hk => hk.2)⟩, ⟨by (with_reducible repeat (first | apply Kd.R_alloc | apply Kd.R_drewN | apply Kd.R_drew)); exact Kd.R_mono HO170.out (fun _ hk => hk.2)⟩, ⟨by repeat (first | (with_reducible first | exact HB.out | apply below_alloc | apply pw_below_drewN | apply below_drew1) | exact HB.out)⟩⟩
            case round =>
              clear H'
              try clear c1
              try clear p2
              try clear c4
              try clear c6
              try clear c6b0
              try clear c6b1
              try clear c7
              try clear c7b0
              try clear c7b1
              try clear c7b2
              try clear c8
              try clear c8b0
              try clear c8b1
              try clear c9
              try clear c9b0
              try clear c9b1
              try clear c14
              obtain ⟨x7_1, x8_1, rfl, HA, HK1, HO_5, HO_7, HB⟩ := hrel
              cases gk with
              | zero => exact absurd HA.out (by simp [carlinglaw21_GraphBehind.l0])
              | succ k1 =>
                have H := HA.out
                clear HA
                simp only [carlinglaw21_GraphBehind.l0] at H
                by_cases c15 : x8_1 < (l0.length : Int)
                · rw [if_pos c15] at H
                  have c15b0 : decide (x8_1 < (l0.length : Int)) = true := decide_eq_true c15
                  clear c15
                  by_cases c16 : 0 ≤ x8_1
                  · rw [if_pos c16] at H
                    have c16b0 : decide (0 ≤ x8_1) = true := decide_eq_true c16
                    clear c16
                    by_cases c17 : x8_1 < (x7_1.length : Int)
                    · rw [if_pos c17] at H
                      have c17b0 : decide (x8_1 < (x7_1.length : Int)) = true := decide_eq_true c17
                      clear c17
                      obtain ⟨y171, hy171⟩ : ∃ y_ : List Int, y_ = (x7_1.set (x8_1 : Int).toNat (-1)) := ⟨_, rfl⟩
                      replace H : (carlinglaw21_GraphBehind.l0 k1 l0 t162 t164 y171 (wrap64 (x8_1 + 1))) = some r := by first | (rw [hy171]; with_reducible exact H) | (have H2_ := (Option.bind_some _ _).symm.trans H; rw [hy171]; with_reducible exact H2_) | (have H2_ := (Option.bind_some _ _).symm.trans H; with_reducible exact H2_) | with_reducible exact H | (rw [hy171]; exact H) | exact H
                      have Ny171 := Aside0.mk hy171
                      clear hy171
                      have H' := Aside0.mk H
                      clear H
                      have p18 : 0 ≤ (x8_1 : Int) := of_decide_eq_true (by first | (with_reducible assumption) | assumption)
                      have q18 : (x8_1 : Int) < ((x7_1.length : Int) : Int) := of_decide_eq_true (by first | (with_reducible assumption) | assumption)
                      obtain ⟨go18, co18, eo18, gb18, gl18, cl18, HG18⟩ := Kd.R_form HO_7.out (by omega)
                      (first | cases eo18 | (injection eo18 with ea_ en_ ec_; (first | subst ea_ | (injection ea_ with ea_; subst ea_)); subst ec_; clear en_))
                      have GB18 := Aside0.mk gb18
                      have GG18 := Aside0.mk HG18
                      clear gb18 gl18 HG18
                      obtain ⟨hx18_0, hf18_0⟩ := Kd.R_celln 0 HO_7.out (x8_1 : Int) p18 q18
                      replace p18 := eq_true p18
                      replace q18 := eq_true q18
                      have HP19 := Kd.R_putg HO_7.out (x8_1 : Int) (-1)
                      go_wp2_with (first | ((with_reducible refine gate_store (t := 3) (p := 47) rfl ?_); refine store_event (t := 3) (p := 47) (v := ?vo_w20) (w1 := (wr.setCell ⟨go18, (x8_1 : Int).toNat, none⟩ (.int .i64 (-1)))) ?hg ?ho ?hn ?hr ?_; (case ho => rfl); (case hg => rfl); (case hn => rfl); (case hr => first | (go_simp; done) | (go_simp; rfl)); intro w20 hw; have hg : wr.grownBy w20 (some go18) := (by rw [hw]; exact HP19.2); have hp_ : Kd.R (Kd.int .i64) 3 w20 w.heap.size (fun k_ => some k_ ≠ (.slice Ao12 t164.length co12 : Value).ownBlock) (.slice (some ⟨go18, 0, none⟩) x7_1.length co18) y171 := (by rw [hw, Ny171.out]; exact HP19.1); clear HP19; have n0_ := Aside0.mk (Kd.R_after (v := (.slice (some ⟨go18, 0, none⟩) x7_1.length co18)) (v1 := (.slice (some ⟨go18, 0, none⟩) x7_1.length co18)) (ok := (fun _ => True)) (by (with_reducible repeat (first | apply Kd.R_alloc | apply Kd.R_drewN | apply Kd.R_drew)); exact Kd.R_mono HO_5.out (fun _ hk => ⟨trivial, hk⟩)) hg (.inl rfl)); have n1_ := Aside0.mk (hp_); have n2_ := Aside0.mk ((by rw [hw]; exact below_set (HB.out) GB18.out : Below w.heap.size w w20)); clear HO_5; clear HO_7; clear HB; have HO_5 := n0_; have HO_7 := n1_; have HB := n2_; clear n0_ n1_ n2_; clear hg hw hp_))
                      go_roundg k1
                      case measure => have := HK1.out; omega
                      case rel => exact ⟨(y171), (wrap64 (x8_1 + 1)), (by first | rfl | (simp; done) | (simp [*]; done)), H', ⟨by have := HK1.out; omega⟩, ⟨by (with_reducible repeat (first | apply Kd.R_alloc | apply Kd.R_drewN | apply Kd.R_drew)); exact Kd.R_mono HO_5.out (fun _ hk => hk.2)⟩, ⟨by (with_reducible repeat (first | apply Kd.R_alloc | apply Kd.R_drewN | apply Kd.R_drew)); exact HO_7.out⟩, ⟨by repeat (first | (with_reducible first | exact HB.out | apply below_alloc | apply pw_below_drewN | apply below_drew1) | exact HB.out)⟩⟩
                    · rw [if_neg c17] at H
                      exact absurd H (by simp)
                  · rw [if_neg c16] at H
                    exact absurd H (by simp)
                · rw [if_neg c15] at H
                  have c15b0 : decide (x8_1 < (l0.length : Int)) = false := decide_eq_false c15
                  clear c15
                  have H' := Aside0.mk H
                  clear H
                  go_wp2
                  go_loopg [9] k1 (fun kq v9 w' => ∃ (x7_2 : List Int) (x9_2 : Int), v9 = .int .i64 x9_2 ∧ Aside0 (carlinglaw21_GraphBehind.l1 kq l0 t162 t164 x7_2 x9_2 = some r) ∧ Aside0 (kq ≤ k1) ∧ Aside0 (Kd.R (Kd.int .i64) 3 w' w.heap.size (fun k_ => some k_ ≠ (v169 : Value).ownBlock) (.slice Ao12 t164.length co12) t164) ∧ Aside0 (Kd.R (Kd.int .i64) 3 w' w.heap.size (fun k_ => some k_ ≠ ((.slice Ao12 t164.length co12) : Value).ownBlock) v169 x7_2) ∧ Aside0 (Below w.heap.size w w'))
                  case atStart => exact ⟨(x7_1), (0), (by first | rfl | (simp; done) | (simp [*]; done)), H', ⟨Nat.le_refl _⟩, ⟨by (with_reducible repeat (first | apply Kd.R_alloc | apply Kd.R_drewN | apply Kd.R_drew)); exact HO_5.out⟩, ⟨by (with_reducible repeat (first | apply Kd.R_alloc | apply Kd.R_drewN | apply Kd.R_drew)); exact HO_7.out⟩, ⟨by repeat (first | (with_reducible first | exact HB.out | apply below_alloc | apply pw_below_drewN | apply below_drew1) | exact HB.out)⟩⟩
                  case round =>
                    clear H'
                    try clear c1
                    try clear p1
                    try clear q1
                    try clear hx1
                    try clear hf1
                    try clear p2
                    try clear c4
                    try clear c6
                    try clear c6b0
                    try clear c6b1
                    try clear p6
                    try clear c7
                    try clear c7b0
                    try clear c7b1
                    try clear c7b2
                    try clear c8
                    try clear c8b0
                    try clear c8b1
                    try clear c9
                    try clear c9b0
                    try clear c9b1
                    try clear c14
                    try clear c15
                    try clear c15b0
                    try clear c16
                    try clear c16b0
                    try clear c17
                    try clear c17b0
                    try clear p18
                    try clear q18
                    try clear hx18
                    try clear hf18
                    try clear hx18_0
                    try clear p18
                    try clear p2
                    try clear q18
                    obtain ⟨x7_2, x9_2, rfl, HA, HK2, HO_5, HO_7, HB⟩ := hrel
                    cases gk with
                    | zero => exact absurd HA.out (by simp [carlinglaw21_GraphBehind.l1])
                    | succ k2 =>
                      have H := HA.out
                      clear HA
                      simp only [carlinglaw21_GraphBehind.l1] at H
                      by_cases c21 : x9_2 < (t164.length : Int)
                      · rw [if_pos c21] at H
                        have c21b0 : decide (x9_2 < (t164.length : Int)) = true := decide_eq_true c21
                        clear c21
                        have HC22 := Aside0.mk H
                        clear H
                        go_upto_region 18 with (fail)
                        go_cut [77] (fun v77 wc => ∃ (kq : Nat) (x77_21 : Bool), v77 = .bool x77_21 ∧ Aside0 (carlinglaw21_GraphBehind.j2 kq l0 t162 t164 x7_2 x9_2 x77_21 = some r) ∧ Aside0 (kq ≤ k2) ∧ Aside0 (Kd.R (Kd.int .i64) 3 wc w.heap.size (fun k_ => some k_ ≠ (v169 : Value).ownBlock) (.slice Ao12 t164.length co12) t164) ∧ Aside0 (Kd.R (Kd.int .i64) 3 wc w.heap.size (fun k_ => some k_ ≠ ((.slice Ao12 t164.length co12) : Value).ownBlock) v169 x7_2) ∧ Aside0 (Below w.heap.size w wc))
                        case first =>
                          have H := HC22.out
                          clear HC22
                          by_cases c23 : 0 ≤ x9_2
                          · rw [if_pos c23] at H
                            have c23b0 : decide (0 ≤ x9_2) = true := decide_eq_true c23
                            clear c23
                            (first | rw [c23b0] | (simp only [i64_w, i32_w]; rw [c23b0]) | skip)
                            by_cases c24 : (rd t164 x9_2) < 0
                            · rw [if_pos c24] at H
                              have c24b0 : decide ((rd t164 x9_2) < 0) = true := decide_eq_true c24
                              clear c24
                              have H' := Aside0.mk H
                              clear H
                              have p172 : 0 ≤ (x9_2 : Int) := of_decide_eq_true (by first | (with_reducible assumption) | assumption)
                              have q172 : x9_2 < (t164.length : Int) := of_decide_eq_true (by first | (with_reducible assumption) | assumption)
                              obtain ⟨ad172, e172, hx172_0⟩ := Kd.at_int (Kd.R_reads' HO_5.out).2.2 x9_2 p172 q172
                              cases e172
                              replace p172 := eq_true p172
                              replace q172 := eq_true q172
                              go_wp2
                              go_meet
                              case rel => exact ⟨_, (true), (by first | rfl | (simp; done) | (simp [*]; done)), H', ⟨by have := HK1.out; have := HK2.out; first | omega | exact Nat.le_refl _⟩, ⟨by (with_reducible repeat (first | apply Kd.R_alloc | apply Kd.R_drewN | apply Kd.R_drew)); exact HO_5.out⟩, ⟨by (with_reducible repeat (first | apply Kd.R_alloc | apply Kd.R_drewN | apply Kd.R_drew)); exact HO_7.out⟩, ⟨by repeat (first | (with_reducible first | exact HB.out | apply below_alloc | apply pw_below_drewN | apply below_drew1) | exact HB.out)⟩⟩
                            · rw [if_neg c24] at H
                              have c24b0 : decide ((rd t164 x9_2) < 0) = false := decide_eq_false c24
                              clear c24
                              by_cases c25 : (rd t164 x9_2) ≥ (l0.length : Int)
                              · rw [if_pos c25] at H
                                have c25b0 : decide ((l0.length : Int) ≤ (rd t164 x9_2)) = true := decide_eq_true c25
                                clear c25
                                have H' := Aside0.mk H
                                clear H
                                have p172 : 0 ≤ (x9_2 : Int) := of_decide_eq_true (by first | (with_reducible assumption) | assumption)
                                have q172 : x9_2 < (t164.length : Int) := of_decide_eq_true (by first | (with_reducible assumption) | assumption)
                                obtain ⟨ad172, e172, hx172_0⟩ := Kd.at_int (Kd.R_reads' HO_5.out).2.2 x9_2 p172 q172
                                cases e172
                                replace p172 := eq_true p172
                                replace q172 := eq_true q172
                                have p173 : 0 ≤ (x9_2 : Int) := of_decide_eq_true (by first | (with_reducible assumption) | assumption)
                                have q173 : x9_2 < (t164.length : Int) := of_decide_eq_true (by first | (with_reducible assumption) | assumption)
                                obtain ⟨ad173, e173, hx173_0⟩ := Kd.at_int (Kd.R_reads' HO_5.out).2.2 x9_2 p173 q173
                                obtain rfl : ad172 = ad173 := (by injection e173)
                                replace p173 := eq_true p173
                                replace q173 := eq_true q173
                                go_wp2
                                go_meet
                                case rel => exact ⟨_, (true), (by first | rfl | (simp; done) | (simp [*]; done)), H', ⟨by have := HK1.out; have := HK2.out; first | omega | exact Nat.le_refl _⟩, ⟨by (with_reducible repeat (first | apply Kd.R_alloc | apply Kd.R_drewN | apply Kd.R_drew)); exact HO_5.out⟩, ⟨by (with_reducible repeat (first | apply Kd.R_alloc | apply Kd.R_drewN | apply Kd.R_drew)); exact HO_7.out⟩, ⟨by repeat (first | (with_reducible first | exact HB.out | apply below_alloc | apply pw_below_drewN | apply below_drew1) | exact HB.out)⟩⟩
                              · rw [if_neg c25] at H
                                have c25b0 : decide ((l0.length : Int) ≤ (rd t164 x9_2)) = false := decide_eq_false c25
                                clear c25
                                by_cases c26 : 0 ≤ (rd t164 x9_2)
                                · rw [if_pos c26] at H
                                  have c26b0 : decide (0 ≤ (rd t164 x9_2)) = true := decide_eq_true c26
                                  clear c26
                                  by_cases c27 : (rd t164 x9_2) < (x7_2.length : Int)
                                  · rw [if_pos c27] at H
                                    have c27b0 : decide ((rd t164 x9_2) < (x7_2.length : Int)) = true := decide_eq_true c27
                                    clear c27
                                    have H' := Aside0.mk H
                                    clear H
                                    have p172 : 0 ≤ (x9_2 : Int) := of_decide_eq_true (by first | (with_reducible assumption) | assumption)
                                    have q172 : x9_2 < (t164.length : Int) := of_decide_eq_true (by first | (with_reducible assumption) | assumption)
                                    obtain ⟨ad172, e172, hx172_0⟩ := Kd.at_int (Kd.R_reads' HO_5.out).2.2 x9_2 p172 q172
                                    cases e172
                                    replace p172 := eq_true p172
                                    replace q172 := eq_true q172
                                    have p173 : 0 ≤ (x9_2 : Int) := of_decide_eq_true (by first | (with_reducible assumption) | assumption)
                                    have q173 : x9_2 < (t164.length : Int) := of_decide_eq_true (by first | (with_reducible assumption) | assumption)
                                    obtain ⟨ad173, e173, hx173_0⟩ := Kd.at_int (Kd.R_reads' HO_5.out).2.2 x9_2 p173 q173
                                    obtain rfl : ad172 = ad173 := (by injection e173)
                                    replace p173 := eq_true p173
                                    replace q173 := eq_true q173
                                    have p174 : 0 ≤ (x9_2 : Int) := of_decide_eq_true (by first | (with_reducible assumption) | assumption)
                                    have q174 : x9_2 < (t164.length : Int) := of_decide_eq_true (by first | (with_reducible assumption) | assumption)
                                    obtain ⟨ad174, e174, hx174_0⟩ := Kd.at_int (Kd.R_reads' HO_5.out).2.2 x9_2 p174 q174
                                    obtain rfl : ad172 = ad174 := (by injection e174)
                                    replace p174 := eq_true p174
                                    replace q174 := eq_true q174
                                    obtain ⟨Ao28, co28, eo28⟩ := Kd.R_slice HO_7.out
                                    subst eo28
                                    have p175 : 0 ≤ ((rd t164 x9_2) : Int) := of_decide_eq_true (by first | (with_reducible assumption) | assumption)
                                    have q175 : (rd t164 x9_2) < (x7_2.length : Int) := of_decide_eq_true (by first | (with_reducible assumption) | assumption)
                                    obtain ⟨ad175, e175, hx175_0⟩ := Kd.at_int (Kd.R_reads' HO_7.out).2.2 (rd t164 x9_2) p175 q175
                                    cases e175
                                    replace p175 := eq_true p175
                                    replace q175 := eq_true q175
                                    go_wp2
                                    go_meet
                                    case rel => exact ⟨_, (decide ((rd x7_2 (rd t164 x9_2)) ≥ 0)), (by first | rfl | (simp; done) | (simp [*]; done)), H', ⟨by have := HK1.out; have := HK2.out; first | omega | exact Nat.le_refl _⟩, ⟨by (with_reducible repeat (first | apply Kd.R_alloc | apply Kd.R_drewN | apply Kd.R_drew)); exact HO_5.out⟩, ⟨by (with_reducible repeat (first | apply Kd.R_alloc | apply Kd.R_drewN | apply Kd.R_drew)); exact HO_7.out⟩, ⟨by repeat (first | (with_reducible first | exact HB.out | apply below_alloc | apply pw_below_drewN | apply below_drew1) | exact HB.out)⟩⟩
                                  · rw [if_neg c27] at H
                                    exact absurd H (by simp)
                                · rw [if_neg c26] at H
                                  exact absurd H (by simp)
                          · rw [if_neg c23] at H
                            exact absurd H (by simp)
                        case rest =>
                          clear HC22
                          try clear c1
                          try clear p1
                          try clear q1
                          try clear hx1
                          try clear hf1
                          try clear c2
                          try clear p2
                          try clear c4
                          try clear c6
                          try clear c6b0
                          try clear c6b1
                          try clear p6
                          try clear c7
                          try clear c7b0
                          try clear c7b1
                          try clear c7b2
                          try clear c8
                          try clear c8b0
                          try clear c8b1
                          try clear c9
                          try clear c9b0
                          try clear c9b1
                          try clear c14
                          try clear c15
                          try clear c15b0
                          try clear c16
                          try clear c16b0
                          try clear c17
                          try clear c17b0
                          try clear p17
                          try clear q17
                          try clear hx17
                          try clear p18
                          try clear q18
                          try clear hx18
                          try clear hf18
                          try clear c21
                          try clear c21b0
                          try clear c23
                          try clear c23b0
                          try clear c24
                          try clear c24b0
                          try clear c25
                          try clear c25b0
                          try clear c26
                          try clear c26b0
                          try clear c27
                          try clear c27b0
                          try clear hx172_0
                          try clear hx173_0
                          try clear hx174_0
                          try clear hx175_0
                          try clear hx18_0
                          try clear p1
                          try clear p172
                          try clear p173
                          try clear p174
                          try clear p175
                          try clear p18
                          try clear p2
                          try clear p6
                          try clear q1
                          try clear q172
                          try clear q173
                          try clear q174
                          try clear q175
                          try clear q18
                          obtain ⟨kq, x77_21, rfl, HA, HJ21, HO_5, HO_7, HB⟩ := hcut
                          cases kq with
                          | zero => exact absurd HA.out (by simp [carlinglaw21_GraphBehind.j2])
                          | succ kj21 =>
                            have H := HA.out
                            clear HA
                            simp only [carlinglaw21_GraphBehind.j2] at H
                            by_cases c29 : x77_21 = true
                            · subst c29
                              have H1 : (some false) = some r := by rw [if_pos rfl] at H; exact H
                              clear H
                              have H := H1
                              clear H1
                              obtain rfl := Option.some.inj H
                              go_wp2
                              go_ret
                              exact ⟨by first | rfl | (simp [errW_none, errW_some] <;> rfl) | (simp [*, errW_none, errW_some] <;> rfl), by repeat (first | (with_reducible first | exact HB.out | apply below_alloc | apply pw_below_drewN | apply below_drew1) | exact HB.out)⟩
                            · replace c29 := Bool.eq_false_iff.mpr c29
                              subst c29
                              have H1 : (if 0 ≤ x9_2 then (if x9_2 < (t164.length : Int) then (if 0 ≤ (rd t164 x9_2) then (if (rd t164 x9_2) < (x7_2.length : Int) then (carlinglaw21_GraphBehind.l2 kj21 l0 t162 t164 (x7_2.set ((rd t164 x9_2) : Int).toNat x9_2) x9_2 0) else (none)) else (none)) else (none)) else (none)) = some r := by rw [if_neg (show ¬ (false = true) by decide)] at H; exact H
                              clear H
                              have H := H1
                              clear H1
                              by_cases c30 : 0 ≤ x9_2
                              · rw [if_pos c30] at H
                                have c30b0 : decide (0 ≤ x9_2) = true := decide_eq_true c30
                                clear c30
                                by_cases c31 : x9_2 < (t164.length : Int)
                                · rw [if_pos c31] at H
                                  have c31b0 : decide (x9_2 < (t164.length : Int)) = true := decide_eq_true c31
                                  clear c31
                                  by_cases c32 : 0 ≤ (rd t164 x9_2)
                                  · rw [if_pos c32] at H
                                    have c32b0 : decide (0 ≤ (rd t164 x9_2)) = true := decide_eq_true c32
                                    clear c32
                                    by_cases c33 : (rd t164 x9_2) < (x7_2.length : Int)
                                    · rw [if_pos c33] at H
                                      have c33b0 : decide ((rd t164 x9_2) < (x7_2.length : Int)) = true := decide_eq_true c33
                                      clear c33
                                      obtain ⟨y177, hy177⟩ : ∃ y_ : List Int, y_ = (x7_2.set ((rd t164 x9_2) : Int).toNat x9_2) := ⟨_, rfl⟩
                                      replace H : (carlinglaw21_GraphBehind.l2 kj21 l0 t162 t164 y177 x9_2 0) = some r := by first | (rw [hy177]; with_reducible exact H) | (have H2_ := (Option.bind_some _ _).symm.trans H; rw [hy177]; with_reducible exact H2_) | (have H2_ := (Option.bind_some _ _).symm.trans H; with_reducible exact H2_) | with_reducible exact H | (rw [hy177]; exact H) | exact H
                                      have Ny177 := Aside0.mk hy177
                                      clear hy177
                                      have H' := Aside0.mk H
                                      clear H
                                      have p176 : 0 ≤ (x9_2 : Int) := of_decide_eq_true (by first | (with_reducible assumption) | assumption)
                                      have q176 : x9_2 < (t164.length : Int) := of_decide_eq_true (by first | (with_reducible assumption) | assumption)
                                      obtain ⟨ad176, e176, hx176_0⟩ := Kd.at_int (Kd.R_reads' HO_5.out).2.2 x9_2 p176 q176
                                      cases e176
                                      replace p176 := eq_true p176
                                      replace q176 := eq_true q176
                                      have p34 : 0 ≤ ((rd t164 x9_2) : Int) := of_decide_eq_true (by first | (with_reducible assumption) | assumption)
                                      have q34 : ((rd t164 x9_2) : Int) < ((x7_2.length : Int) : Int) := of_decide_eq_true (by first | (with_reducible assumption) | assumption)
                                      obtain ⟨go34, co34, eo34, gb34, gl34, cl34, HG34⟩ := Kd.R_form HO_7.out (by omega)
                                      (first | cases eo34 | (injection eo34 with ea_ en_ ec_; (first | subst ea_ | (injection ea_ with ea_; subst ea_)); subst ec_; clear en_))
                                      have GB34 := Aside0.mk gb34
                                      have GG34 := Aside0.mk HG34
                                      clear gb34 gl34 HG34
                                      obtain ⟨hx34_0, hf34_0⟩ := Kd.R_celln 0 HO_7.out ((rd t164 x9_2) : Int) p34 q34
                                      replace p34 := eq_true p34
                                      replace q34 := eq_true q34
                                      have HP35 := Kd.R_putg HO_7.out ((rd t164 x9_2) : Int) x9_2
                                      go_wp2_with (first | ((with_reducible refine gate_store (t := 3) (p := 84) rfl ?_); refine store_event (t := 3) (p := 84) (v := ?vo_w36) (w1 := (wc.setCell ⟨go34, ((rd t164 x9_2) : Int).toNat, none⟩ (.int .i64 x9_2))) ?hg ?ho ?hn ?hr ?_; (case ho => rfl); (case hg => rfl); (case hn => rfl); (case hr => first | (go_simp; done) | (go_simp; rfl)); intro w36 hw; have hg : wc.grownBy w36 (some go34) := (by rw [hw]; exact HP35.2); have hp_ : Kd.R (Kd.int .i64) 3 w36 w.heap.size (fun k_ => some k_ ≠ (.slice (some ad176) t164.length co12 : Value).ownBlock) (.slice (some ⟨go34, 0, none⟩) x7_2.length co34) y177 := (by rw [hw, Ny177.out]; exact HP35.1); clear HP35; have n0_ := Aside0.mk (Kd.R_after (v := (.slice (some ⟨go34, 0, none⟩) x7_2.length co34)) (v1 := (.slice (some ⟨go34, 0, none⟩) x7_2.length co34)) (ok := (fun _ => True)) (by (with_reducible repeat (first | apply Kd.R_alloc | apply Kd.R_drewN | apply Kd.R_drew)); exact Kd.R_mono HO_5.out (fun _ hk => ⟨trivial, hk⟩)) hg (.inl rfl)); have n1_ := Aside0.mk (hp_); have n2_ := Aside0.mk ((by rw [hw]; exact below_set (HB.out) GB34.out : Below w.heap.size w w36)); clear HO_5; clear HO_7; clear HB; have HO_5 := n0_; have HO_7 := n1_; have HB := n2_; clear n0_ n1_ n2_; clear hg hw hp_))
                                      go_loopg [10] kj21 (fun kq v10 w' => ∃ (x10_4 : Int), v10 = .int .i64 x10_4 ∧ Aside0 (carlinglaw21_GraphBehind.l2 kq l0 t162 t164 y177 x9_2 x10_4 = some r) ∧ Aside0 (kq ≤ kj21) ∧ Aside0 (Kd.R (Kd.int .i64) 3 w' w.heap.size (fun k_ => some k_ ≠ ((.slice (some ⟨go34, 0, none⟩) x7_2.length co34) : Value).ownBlock) (.slice (some ad176) t164.length co12) t164) ∧ Aside0 (Kd.R (Kd.int .i64) 3 w' w.heap.size (fun k_ => some k_ ≠ ((.slice (some ad176) t164.length co12) : Value).ownBlock) (.slice (some ⟨go34, 0, none⟩) x7_2.length co34) y177) ∧ Aside0 (Below w.heap.size w w'))
                                      case atStart => exact ⟨(0), (by first | rfl | (simp; done) | (simp [*]; done)), H', ⟨Nat.le_refl _⟩, ⟨by (with_reducible repeat (first | apply Kd.R_alloc | apply Kd.R_drewN | apply Kd.R_drew)); exact Kd.R_mono HO_5.out (fun _ hk => hk.2)⟩, ⟨by (with_reducible repeat (first | apply Kd.R_alloc | apply Kd.R_drewN | apply Kd.R_drew)); exact HO_7.out⟩, ⟨by repeat (first | (with_reducible first | exact HB.out | apply below_alloc | apply pw_below_drewN | apply below_drew1) | exact HB.out)⟩⟩
                                      case round =>
                                        clear H'
                                        try clear c1
                                        try clear p1
                                        try clear q1
                                        try clear hx1
                                        try clear hf1
                                        try clear c2
                                        try clear p2
                                        try clear c3
                                        try clear p3
                                        try clear q3
                                        try clear hx3
                                        try clear hf3
                                        try clear c4
                                        try clear c6
                                        try clear c6b0
                                        try clear c6b1
                                        try clear p6
                                        try clear c7
                                        try clear c7b0
                                        try clear c7b1
                                        try clear c7b2
                                        try clear c8
                                        try clear c8b0
                                        try clear c8b1
                                        try clear c9
                                        try clear c9b0
                                        try clear c9b1
                                        try clear c14
                                        try clear c15
                                        try clear c15b0
                                        try clear c16
                                        try clear c16b0
                                        try clear c17
                                        try clear c17b0
                                        try clear p17
                                        try clear q17
                                        try clear hx17
                                        try clear p18
                                        try clear q18
                                        try clear hx18
                                        try clear hf18
                                        try clear c21
                                        try clear c21b0
                                        try clear c23
                                        try clear c23b0
                                        try clear c24
                                        try clear c24b0
                                        try clear c25
                                        try clear c25b0
                                        try clear c26
                                        try clear c26b0
                                        try clear c27
                                        try clear c27b0
                                        try clear c29
                                        try clear c30
                                        try clear c30b0
                                        try clear c31
                                        try clear c31b0
                                        try clear c32
                                        try clear c32b0
                                        try clear c33
                                        try clear c33b0
                                        try clear p34
                                        try clear q34
                                        try clear hx34
                                        try clear hf34
                                        try clear hx172_0
                                        try clear hx173_0
                                        try clear hx174_0
                                        try clear hx175_0
                                        try clear hx176_0
                                        try clear hx18_0
                                        try clear hx34_0
                                        try clear p1
                                        try clear p17
                                        try clear p172
                                        try clear p173
                                        try clear p174
                                        try clear p175
                                        try clear p176
                                        try clear p18
                                        try clear p2
                                        try clear p34
                                        try clear p6
                                        try clear q1
                                        try clear q17
                                        try clear q172
                                        try clear q173
                                        try clear q174
                                        try clear q175
                                        try clear q176
                                        try clear q18
                                        try clear q34
                                        obtain ⟨x10_4, rfl, HA, HK4, HO_5, HO_7, HB⟩ := hrel
                                        have hl7_4 := (Kd.R_reads' HO_7.out).1
                                        rw [hl7_4] at HO_7
                                        (try simp only [hl7_4])
                                        (try simp only [hl7_4] at HO_5)
                                        cases gk with
                                        | zero => exact absurd HA.out (by simp [carlinglaw21_GraphBehind.l2])
                                        | succ k4 =>
                                          have H := HA.out
                                          clear HA
                                          simp only [carlinglaw21_GraphBehind.l2] at H
                                          by_cases c37 : 0 ≤ x9_2
                                          · rw [if_pos c37] at H
                                            have c37b0 : decide (0 ≤ x9_2) = true := decide_eq_true c37
                                            clear c37
                                            by_cases c38 : x9_2 < (t164.length : Int)
                                            · rw [if_pos c38] at H
                                              have c38b0 : decide (x9_2 < (t164.length : Int)) = true := decide_eq_true c38
                                              clear c38
                                              by_cases c39 : 0 ≤ (rd t164 x9_2)
                                              · rw [if_pos c39] at H
                                                have c39b0 : decide (0 ≤ (rd t164 x9_2)) = true := decide_eq_true c39
                                                clear c39
                                                by_cases c40 : (rd t164 x9_2) < (l0.length : Int)
                                                · rw [if_pos c40] at H
                                                  have c40b0 : decide ((rd t164 x9_2) < (l0.length : Int)) = true := decide_eq_true c40
                                                  clear c40
                                                  by_cases c41 : x10_4 < (((rd_T31 l0 (rd t164 x9_2)).f1).length : Int)
                                                  · rw [if_pos c41] at H
                                                    have c41b0 : decide (x10_4 < (((rd_T31 l0 (rd t164 x9_2)).f1).length : Int)) = true := decide_eq_true c41
                                                    clear c41
                                                    by_cases c42 : 0 ≤ x10_4
                                                    · rw [if_pos c42] at H
                                                      have c42b0 : decide (0 ≤ x10_4) = true := decide_eq_true c42
                                                      clear c42
                                                      by_cases c43 : (rd ((rd_T31 l0 (rd t164 x9_2)).f1) x10_4) < 0
                                                      · rw [if_pos c43] at H
                                                        have c43b0 : decide ((rd ((rd_T31 l0 (rd t164 x9_2)).f1) x10_4) < 0) = true := decide_eq_true c43
                                                        clear c43
                                                        obtain rfl := Option.some.inj H
                                                        have p178 : 0 ≤ (x9_2 : Int) := of_decide_eq_true (by first | (with_reducible assumption) | assumption)
                                                        have q178 : x9_2 < (t164.length : Int) := of_decide_eq_true (by first | (with_reducible assumption) | assumption)
                                                        obtain ⟨ad178, e178, hx178_0⟩ := Kd.at_int (Kd.R_reads' HO_5.out).2.2 x9_2 p178 q178
                                                        obtain rfl : ad176 = ad178 := (by injection e178)
                                                        replace p178 := eq_true p178
                                                        replace q178 := eq_true q178
                                                        have p179 : 0 ≤ ((rd t164 x9_2) : Int) := of_decide_eq_true (by first | (with_reducible assumption) | assumption)
                                                        have q179 : (rd t164 x9_2) < (l0.length : Int) := of_decide_eq_true (by first | (with_reducible assumption) | assumption)
                                                        obtain ⟨ad179, A179_1, c179_1, e179, hx179_0, hx179_1, hl179_1, hi179_1⟩ := at_T31 HR0.out (rd t164 x9_2) p179 q179
                                                        cases e179
                                                        replace hx179_0 := (HB.out.cell (World.block_lt_of_cell? w _ hx179_0)).trans hx179_0
                                                        replace hx179_1 := (HB.out.cell (World.block_lt_of_cell? w _ hx179_1)).trans hx179_1
                                                        have HR179_1 := Aside0.mk hi179_1
                                                        have HC179_1 := Aside0.mk hl179_1
                                                        clear hi179_1 hl179_1
                                                        replace p179 := eq_true p179
                                                        replace q179 := eq_true q179
                                                        have p180 : 0 ≤ (x9_2 : Int) := of_decide_eq_true (by first | (with_reducible assumption) | assumption)
                                                        have q180 : x9_2 < (t164.length : Int) := of_decide_eq_true (by first | (with_reducible assumption) | assumption)
                                                        obtain ⟨ad180, e180, hx180_0⟩ := Kd.at_int (Kd.R_reads' HO_5.out).2.2 x9_2 p180 q180
                                                        obtain rfl : ad176 = ad180 := (by injection e180)
                                                        replace p180 := eq_true p180
                                                        replace q180 := eq_true q180
                                                        have p181 : 0 ≤ ((rd t164 x9_2) : Int) := of_decide_eq_true (by first | (with_reducible assumption) | assumption)
                                                        have q181 : (rd t164 x9_2) < (l0.length : Int) := of_decide_eq_true (by first | (with_reducible assumption) | assumption)
                                                        obtain ⟨ad181, A181_1, c181_1, e181, hx181_0, hx181_1, hl181_1, hi181_1⟩ := at_T31 HR0.out (rd t164 x9_2) p181 q181
                                                        obtain rfl : ad179 = ad181 := (by injection e181)
                                                        replace hx181_0 := (HB.out.cell (World.block_lt_of_cell? w _ hx181_0)).trans hx181_0
                                                        replace hx181_1 := (HB.out.cell (World.block_lt_of_cell? w _ hx181_1)).trans hx181_1
                                                        have HR181_1 := Aside0.mk hi181_1
                                                        have HC181_1 := Aside0.mk hl181_1
                                                        clear hi181_1 hl181_1
                                                        replace p181 := eq_true p181
                                                        replace q181 := eq_true q181
                                                        have ea_ := Option.some.inj (hx179_1.symm.trans hx181_1)
                                                        injection ea_ with ea_ en_ ec_
                                                        subst ea_
                                                        subst ec_
                                                        clear en_
                                                        have p182 : 0 ≤ (x10_4 : Int) := of_decide_eq_true (by first | (with_reducible assumption) | assumption)
                                                        have q182 : x10_4 < (((rd_T31 l0 (rd t164 x9_2)).f1).length : Int) := of_decide_eq_true (by first | (with_reducible assumption) | assumption)
                                                        obtain ⟨ad182, e182, hx182_0⟩ := Kd.at_int HR181_1.out x10_4 p182 q182
                                                        cases e182
                                                        replace hx182_0 := (HB.out.cell (World.block_lt_of_cell? w _ hx182_0)).trans hx182_0
                                                        replace p182 := eq_true p182
                                                        replace q182 := eq_true q182
                                                        go_wp2
                                                        go_ret
                                                        exact ⟨by first | rfl | (simp [errW_none, errW_some] <;> rfl) | (simp [*, errW_none, errW_some] <;> rfl), by repeat (first | (with_reducible first | exact HB.out | apply below_alloc | apply pw_below_drewN | apply below_drew1) | exact HB.out)⟩
                                                      · rw [if_neg c43] at H
                                                        have c43b0 : decide ((rd ((rd_T31 l0 (rd t164 x9_2)).f1) x10_4) < 0) = false := decide_eq_false c43
                                                        clear c43
                                                        by_cases c44 : (rd ((rd_T31 l0 (rd t164 x9_2)).f1) x10_4) ≥ (l0.length : Int)
                                                        · rw [if_pos c44] at H
                                                          have c44b0 : decide ((l0.length : Int) ≤ (rd ((rd_T31 l0 (rd t164 x9_2)).f1) x10_4)) = true := decide_eq_true c44
                                                          clear c44
                                                          obtain rfl := Option.some.inj H
                                                          have p178 : 0 ≤ (x9_2 : Int) := of_decide_eq_true (by first | (with_reducible assumption) | assumption)
                                                          have q178 : x9_2 < (t164.length : Int) := of_decide_eq_true (by first | (with_reducible assumption) | assumption)
                                                          obtain ⟨ad178, e178, hx178_0⟩ := Kd.at_int (Kd.R_reads' HO_5.out).2.2 x9_2 p178 q178
                                                          obtain rfl : ad176 = ad178 := (by injection e178)
                                                          replace p178 := eq_true p178
                                                          replace q178 := eq_true q178
                                                          have p179 : 0 ≤ ((rd t164 x9_2) : Int) := of_decide_eq_true (by first | (with_reducible assumption) | assumption)
                                                          have q179 : (rd t164 x9_2) < (l0.length : Int) := of_decide_eq_true (by first | (with_reducible assumption) | assumption)
                                                          obtain ⟨ad179, A179_1, c179_1, e179, hx179_0, hx179_1, hl179_1, hi179_1⟩ := at_T31 HR0.out (rd t164 x9_2) p179 q179
                                                          cases e179
                                                          replace hx179_0 := (HB.out.cell (World.block_lt_of_cell? w _ hx179_0)).trans hx179_0
                                                          replace hx179_1 := (HB.out.cell (World.block_lt_of_cell? w _ hx179_1)).trans hx179_1
                                                          have HR179_1 := Aside0.mk hi179_1
                                                          have HC179_1 := Aside0.mk hl179_1
                                                          clear hi179_1 hl179_1
                                                          replace p179 := eq_true p179
                                                          replace q179 := eq_true q179
                                                          have p180 : 0 ≤ (x9_2 : Int) := of_decide_eq_true (by first | (with_reducible assumption) | assumption)
                                                          have q180 : x9_2 < (t164.length : Int) := of_decide_eq_true (by first | (with_reducible assumption) | assumption)
                                                          obtain ⟨ad180, e180, hx180_0⟩ := Kd.at_int (Kd.R_reads' HO_5.out).2.2 x9_2 p180 q180
                                                          obtain rfl : ad176 = ad180 := (by injection e180)
                                                          replace p180 := eq_true p180
                                                          replace q180 := eq_true q180
                                                          have p181 : 0 ≤ ((rd t164 x9_2) : Int) := of_decide_eq_true (by first | (with_reducible assumption) | assumption)
                                                          have q181 : (rd t164 x9_2) < (l0.length : Int) := of_decide_eq_true (by first | (with_reducible assumption) | assumption)
                                                          obtain ⟨ad181, A181_1, c181_1, e181, hx181_0, hx181_1, hl181_1, hi181_1⟩ := at_T31 HR0.out (rd t164 x9_2) p181 q181
                                                          obtain rfl : ad179 = ad181 := (by injection e181)
                                                          replace hx181_0 := (HB.out.cell (World.block_lt_of_cell? w _ hx181_0)).trans hx181_0
                                                          replace hx181_1 := (HB.out.cell (World.block_lt_of_cell? w _ hx181_1)).trans hx181_1
                                                          have HR181_1 := Aside0.mk hi181_1
                                                          have HC181_1 := Aside0.mk hl181_1
                                                          clear hi181_1 hl181_1
                                                          replace p181 := eq_true p181
                                                          replace q181 := eq_true q181
                                                          have ea_ := Option.some.inj (hx179_1.symm.trans hx181_1)
                                                          injection ea_ with ea_ en_ ec_
                                                          subst ea_
                                                          subst ec_
                                                          clear en_
                                                          have p182 : 0 ≤ (x10_4 : Int) := of_decide_eq_true (by first | (with_reducible assumption) | assumption)
                                                          have q182 : x10_4 < (((rd_T31 l0 (rd t164 x9_2)).f1).length : Int) := of_decide_eq_true (by first | (with_reducible assumption) | assumption)
                                                          obtain ⟨ad182, e182, hx182_0⟩ := Kd.at_int HR181_1.out x10_4 p182 q182
                                                          cases e182
                                                          replace hx182_0 := (HB.out.cell (World.block_lt_of_cell? w _ hx182_0)).trans hx182_0
                                                          replace p182 := eq_true p182
                                                          replace q182 := eq_true q182
                                                          go_wp2
                                                          go_ret
                                                          exact ⟨by first | rfl | (simp [errW_none, errW_some] <;> rfl) | (simp [*, errW_none, errW_some] <;> rfl), by repeat (first | (with_reducible first | exact HB.out | apply below_alloc | apply pw_below_drewN | apply below_drew1) | exact HB.out)⟩
                                                        · rw [if_neg c44] at H
                                                          have c44b0 : decide ((l0.length : Int) ≤ (rd ((rd_T31 l0 (rd t164 x9_2)).f1) x10_4)) = false := decide_eq_false c44
                                                          clear c44
                                                          by_cases c45 : 0 ≤ (rd ((rd_T31 l0 (rd t164 x9_2)).f1) x10_4)
                                                          · rw [if_pos c45] at H
                                                            have c45b0 : decide (0 ≤ (rd ((rd_T31 l0 (rd t164 x9_2)).f1) x10_4)) = true := decide_eq_true c45
                                                            clear c45
                                                            by_cases c46 : (rd ((rd_T31 l0 (rd t164 x9_2)).f1) x10_4) < (y177.length : Int)
                                                            · rw [if_pos c46] at H
                                                              have c46b0 : decide ((rd ((rd_T31 l0 (rd t164 x9_2)).f1) x10_4) < (y177.length : Int)) = true := decide_eq_true c46
                                                              clear c46
                                                              by_cases c47 : (rd y177 (rd ((rd_T31 l0 (rd t164 x9_2)).f1) x10_4)) < 0
                                                              · rw [if_pos c47] at H
                                                                have c47b0 : decide ((rd y177 (rd ((rd_T31 l0 (rd t164 x9_2)).f1) x10_4)) < 0) = true := decide_eq_true c47
                                                                clear c47
                                                                obtain rfl := Option.some.inj H
                                                                have p178 : 0 ≤ (x9_2 : Int) := of_decide_eq_true (by first | (with_reducible assumption) | assumption)
                                                                have q178 : x9_2 < (t164.length : Int) := of_decide_eq_true (by first | (with_reducible assumption) | assumption)
                                                                obtain ⟨ad178, e178, hx178_0⟩ := Kd.at_int (Kd.R_reads' HO_5.out).2.2 x9_2 p178 q178
                                                                obtain rfl : ad176 = ad178 := (by injection e178)
                                                                replace p178 := eq_true p178
                                                                replace q178 := eq_true q178
                                                                have p179 : 0 ≤ ((rd t164 x9_2) : Int) := of_decide_eq_true (by first | (with_reducible assumption) | assumption)
                                                                have q179 : (rd t164 x9_2) < (l0.length : Int) := of_decide_eq_true (by first | (with_reducible assumption) | assumption)
                                                                obtain ⟨ad179, A179_1, c179_1, e179, hx179_0, hx179_1, hl179_1, hi179_1⟩ := at_T31 HR0.out (rd t164 x9_2) p179 q179
                                                                cases e179
                                                                replace hx179_0 := (HB.out.cell (World.block_lt_of_cell? w _ hx179_0)).trans hx179_0
                                                                replace hx179_1 := (HB.out.cell (World.block_lt_of_cell? w _ hx179_1)).trans hx179_1
                                                                have HR179_1 := Aside0.mk hi179_1
                                                                have HC179_1 := Aside0.mk hl179_1
                                                                clear hi179_1 hl179_1
                                                                replace p179 := eq_true p179
                                                                replace q179 := eq_true q179
                                                                have p180 : 0 ≤ (x9_2 : Int) := of_decide_eq_true (by first | (with_reducible assumption) | assumption)
                                                                have q180 : x9_2 < (t164.length : Int) := of_decide_eq_true (by first | (with_reducible assumption) | assumption)
                                                                obtain ⟨ad180, e180, hx180_0⟩ := Kd.at_int (Kd.R_reads' HO_5.out).2.2 x9_2 p180 q180
                                                                obtain rfl : ad176 = ad180 := (by injection e180)
                                                                replace p180 := eq_true p180
                                                                replace q180 := eq_true q180
                                                                have p181 : 0 ≤ ((rd t164 x9_2) : Int) := of_decide_eq_true (by first | (with_reducible assumption) | assumption)
                                                                have q181 : (rd t164 x9_2) < (l0.length : Int) := of_decide_eq_true (by first | (with_reducible assumption) | assumption)
                                                                obtain ⟨ad181, A181_1, c181_1, e181, hx181_0, hx181_1, hl181_1, hi181_1⟩ := at_T31 HR0.out (rd t164 x9_2) p181 q181
                                                                obtain rfl : ad179 = ad181 := (by injection e181)
                                                                replace hx181_0 := (HB.out.cell (World.block_lt_of_cell? w _ hx181_0)).trans hx181_0
                                                                replace hx181_1 := (HB.out.cell (World.block_lt_of_cell? w _ hx181_1)).trans hx181_1
                                                                have HR181_1 := Aside0.mk hi181_1
                                                                have HC181_1 := Aside0.mk hl181_1
                                                                clear hi181_1 hl181_1
                                                                replace p181 := eq_true p181
                                                                replace q181 := eq_true q181
                                                                have ea_ := Option.some.inj (hx179_1.symm.trans hx181_1)
                                                                injection ea_ with ea_ en_ ec_
                                                                subst ea_
                                                                subst ec_
                                                                clear en_
                                                                have p182 : 0 ≤ (x10_4 : Int) := of_decide_eq_true (by first | (with_reducible assumption) | assumption)
                                                                have q182 : x10_4 < (((rd_T31 l0 (rd t164 x9_2)).f1).length : Int) := of_decide_eq_true (by first | (with_reducible assumption) | assumption)
                                                                obtain ⟨ad182, e182, hx182_0⟩ := Kd.at_int HR181_1.out x10_4 p182 q182
                                                                cases e182
                                                                replace hx182_0 := (HB.out.cell (World.block_lt_of_cell? w _ hx182_0)).trans hx182_0
                                                                replace p182 := eq_true p182
                                                                replace q182 := eq_true q182
                                                                have p183 : 0 ≤ ((rd ((rd_T31 l0 (rd t164 x9_2)).f1) x10_4) : Int) := of_decide_eq_true (by first | (with_reducible assumption) | assumption)
                                                                have q183 : (rd ((rd_T31 l0 (rd t164 x9_2)).f1) x10_4) < (y177.length : Int) := of_decide_eq_true (by first | (with_reducible assumption) | assumption)
                                                                obtain ⟨ad183, e183, hx183_0⟩ := Kd.at_int (Kd.R_reads' HO_7.out).2.2 (rd ((rd_T31 l0 (rd t164 x9_2)).f1) x10_4) p183 q183
                                                                obtain rfl : (⟨go34, 0, none⟩ : Addr) = ad183 := (by injection e183)
                                                                (first | simp only [add_plain] at hx183_0 | simp only [add_at] at hx183_0 | simp only [Addr.add, Nat.zero_add] at hx183_0 | skip)
                                                                replace p183 := eq_true p183
                                                                replace q183 := eq_true q183
                                                                go_wp2
                                                                go_ret
                                                                exact ⟨by first | rfl | (simp [errW_none, errW_some] <;> rfl) | (simp [*, errW_none, errW_some] <;> rfl), by repeat (first | (with_reducible first | exact HB.out | apply below_alloc | apply pw_below_drewN | apply below_drew1) | exact HB.out)⟩
                                                              · rw [if_neg c47] at H
                                                                have c47b0 : decide ((rd y177 (rd ((rd_T31 l0 (rd t164 x9_2)).f1) x10_4)) < 0) = false := decide_eq_false c47
                                                                clear c47
                                                                have H' := Aside0.mk H
                                                                clear H
                                                                have p178 : 0 ≤ (x9_2 : Int) := of_decide_eq_true (by first | (with_reducible assumption) | assumption)
                                                                have q178 : x9_2 < (t164.length : Int) := of_decide_eq_true (by first | (with_reducible assumption) | assumption)
                                                                obtain ⟨ad178, e178, hx178_0⟩ := Kd.at_int (Kd.R_reads' HO_5.out).2.2 x9_2 p178 q178
                                                                obtain rfl : ad176 = ad178 := (by injection e178)
                                                                replace p178 := eq_true p178
                                                                replace q178 := eq_true q178
                                                                have p179 : 0 ≤ ((rd t164 x9_2) : Int) := of_decide_eq_true (by first | (with_reducible assumption) | assumption)
                                                                have q179 : (rd t164 x9_2) < (l0.length : Int) := of_decide_eq_true (by first | (with_reducible assumption) | assumption)
                                                                obtain ⟨ad179, A179_1, c179_1, e179, hx179_0, hx179_1, hl179_1, hi179_1⟩ := at_T31 HR0.out (rd t164 x9_2) p179 q179
                                                                cases e179
                                                                replace hx179_0 := (HB.out.cell (World.block_lt_of_cell? w _ hx179_0)).trans hx179_0
                                                                replace hx179_1 := (HB.out.cell (World.block_lt_of_cell? w _ hx179_1)).trans hx179_1
                                                                have HR179_1 := Aside0.mk hi179_1
                                                                have HC179_1 := Aside0.mk hl179_1
                                                                clear hi179_1 hl179_1
                                                                replace p179 := eq_true p179
                                                                replace q179 := eq_true q179
                                                                have p180 : 0 ≤ (x9_2 : Int) := of_decide_eq_true (by first | (with_reducible assumption) | assumption)
                                                                have q180 : x9_2 < (t164.length : Int) := of_decide_eq_true (by first | (with_reducible assumption) | assumption)
                                                                obtain ⟨ad180, e180, hx180_0⟩ := Kd.at_int (Kd.R_reads' HO_5.out).2.2 x9_2 p180 q180
                                                                obtain rfl : ad176 = ad180 := (by injection e180)
                                                                replace p180 := eq_true p180
                                                                replace q180 := eq_true q180
                                                                have p181 : 0 ≤ ((rd t164 x9_2) : Int) := of_decide_eq_true (by first | (with_reducible assumption) | assumption)
                                                                have q181 : (rd t164 x9_2) < (l0.length : Int) := of_decide_eq_true (by first | (with_reducible assumption) | assumption)
                                                                obtain ⟨ad181, A181_1, c181_1, e181, hx181_0, hx181_1, hl181_1, hi181_1⟩ := at_T31 HR0.out (rd t164 x9_2) p181 q181
                                                                obtain rfl : ad179 = ad181 := (by injection e181)
                                                                replace hx181_0 := (HB.out.cell (World.block_lt_of_cell? w _ hx181_0)).trans hx181_0
                                                                replace hx181_1 := (HB.out.cell (World.block_lt_of_cell? w _ hx181_1)).trans hx181_1
                                                                have HR181_1 := Aside0.mk hi181_1
                                                                have HC181_1 := Aside0.mk hl181_1
                                                                clear hi181_1 hl181_1
                                                                replace p181 := eq_true p181
                                                                replace q181 := eq_true q181
                                                                have ea_ := Option.some.inj (hx179_1.symm.trans hx181_1)
                                                                injection ea_ with ea_ en_ ec_
                                                                subst ea_
                                                                subst ec_
                                                                clear en_
                                                                have p182 : 0 ≤ (x10_4 : Int) := of_decide_eq_true (by first | (with_reducible assumption) | assumption)
                                                                have q182 : x10_4 < (((rd_T31 l0 (rd t164 x9_2)).f1).length : Int) := of_decide_eq_true (by first | (with_reducible assumption) | assumption)
                                                                obtain ⟨ad182, e182, hx182_0⟩ := Kd.at_int HR181_1.out x10_4 p182 q182
                                                                cases e182
                                                                replace hx182_0 := (HB.out.cell (World.block_lt_of_cell? w _ hx182_0)).trans hx182_0
                                                                replace p182 := eq_true p182
                                                                replace q182 := eq_true q182
                                                                have p183 : 0 ≤ ((rd ((rd_T31 l0 (rd t164 x9_2)).f1) x10_4) : Int) := of_decide_eq_true (by first | (with_reducible assumption) | assumption)
                                                                have q183 : (rd ((rd_T31 l0 (rd t164 x9_2)).f1) x10_4) < (y177.length : Int) := of_decide_eq_true (by first | (with_reducible assumption) | assumption)
                                                                obtain ⟨ad183, e183, hx183_0⟩ := Kd.at_int (Kd.R_reads' HO_7.out).2.2 (rd ((rd_T31 l0 (rd t164 x9_2)).f1) x10_4) p183 q183
                                                                obtain rfl : (⟨go34, 0, none⟩ : Addr) = ad183 := (by injection e183)
                                                                (first | simp only [add_plain] at hx183_0 | simp only [add_at] at hx183_0 | simp only [Addr.add, Nat.zero_add] at hx183_0 | skip)
                                                                replace p183 := eq_true p183
                                                                replace q183 := eq_true q183
                                                                go_wp2
                                                                (try simp only [← hl7_4])
                                                                go_roundg k4
                                                                case measure => have := HK1.out; have := HK2.out; have := HJ21.out; have := HK4.out; omega
                                                                case rel => exact ⟨(wrap64 (x10_4 + 1)), (by first | rfl | (simp; done) | (simp [*]; done)), H', ⟨by have := HK1.out; have := HK2.out; have := HJ21.out; have := HK4.out; omega⟩, ⟨by (try simp only [hl7_4]); (with_reducible repeat (first | apply Kd.R_alloc | apply Kd.R_drewN | apply Kd.R_drew)); exact HO_5.out⟩, ⟨by (try simp only [hl7_4]); (with_reducible repeat (first | apply Kd.R_alloc | apply Kd.R_drewN | apply Kd.R_drew)); exact HO_7.out⟩, ⟨by repeat (first | (with_reducible first | exact HB.out | apply below_alloc | apply pw_below_drewN | apply below_drew1) | exact HB.out)⟩⟩
                                                            · rw [if_neg c46] at H
                                                              exact absurd H (by simp)
                                                          · rw [if_neg c45] at H
                                                            exact absurd H (by simp)
                                                    · rw [if_neg c42] at H
                                                      exact absurd H (by simp)
                                                  · rw [if_neg c41] at H
                                                    have c41b0 : decide (x10_4 < (((rd_T31 l0 (rd t164 x9_2)).f1).length : Int)) = false := decide_eq_false c41
                                                    clear c41
                                                    have H' := Aside0.mk H
                                                    clear H
                                                    have p178 : 0 ≤ (x9_2 : Int) := of_decide_eq_true (by first | (with_reducible assumption) | assumption)
                                                    have q178 : x9_2 < (t164.length : Int) := of_decide_eq_true (by first | (with_reducible assumption) | assumption)
                                                    obtain ⟨ad178, e178, hx178_0⟩ := Kd.at_int (Kd.R_reads' HO_5.out).2.2 x9_2 p178 q178
                                                    obtain rfl : ad176 = ad178 := (by injection e178)
                                                    replace p178 := eq_true p178
                                                    replace q178 := eq_true q178
                                                    have p179 : 0 ≤ ((rd t164 x9_2) : Int) := of_decide_eq_true (by first | (with_reducible assumption) | assumption)
                                                    have q179 : (rd t164 x9_2) < (l0.length : Int) := of_decide_eq_true (by first | (with_reducible assumption) | assumption)
                                                    obtain ⟨ad179, A179_1, c179_1, e179, hx179_0, hx179_1, hl179_1, hi179_1⟩ := at_T31 HR0.out (rd t164 x9_2) p179 q179
                                                    cases e179
                                                    replace hx179_0 := (HB.out.cell (World.block_lt_of_cell? w _ hx179_0)).trans hx179_0
                                                    replace hx179_1 := (HB.out.cell (World.block_lt_of_cell? w _ hx179_1)).trans hx179_1
                                                    have HR179_1 := Aside0.mk hi179_1
                                                    have HC179_1 := Aside0.mk hl179_1
                                                    clear hi179_1 hl179_1
                                                    replace p179 := eq_true p179
                                                    replace q179 := eq_true q179
                                                    go_wp2
                                                    (try simp only [← hl7_4])
                                                    go_roundg k4
                                                    case measure => have := HK1.out; have := HK2.out; have := HJ21.out; have := HK4.out; omega
                                                    case rel => exact ⟨(y177), (wrap64 (x9_2 + 1)), (by first | rfl | (simp; done) | (simp [*]; done)), H', ⟨by have := HK1.out; have := HK2.out; have := HJ21.out; have := HK4.out; omega⟩, ⟨by (try simp only [hl7_4]); (with_reducible repeat (first | apply Kd.R_alloc | apply Kd.R_drewN | apply Kd.R_drew)); exact HO_5.out⟩, ⟨by (try simp only [hl7_4]); (with_reducible repeat (first | apply Kd.R_alloc | apply Kd.R_drewN | apply Kd.R_drew)); exact HO_7.out⟩, ⟨by repeat (first | (with_reducible first | exact HB.out | apply below_alloc | apply pw_below_drewN | apply below_drew1) | exact HB.out)⟩⟩
                                                · rw [if_neg c40] at H
                                                  exact absurd H (by simp)
                                              · rw [if_neg c39] at H
                                                exact absurd H (by simp)
                                            · rw [if_neg c38] at H
                                              exact absurd H (by simp)
                                          · rw [if_neg c37] at H
                                            exact absurd H (by simp)
                                    · rw [if_neg c33] at H
                                      exact absurd H (by simp)
                                  · rw [if_neg c32] at H
                                    exact absurd H (by simp)
                                · rw [if_neg c31] at H
                                  exact absurd H (by simp)
                              · rw [if_neg c30] at H
                                exact absurd H (by simp)
                      · rw [if_neg c21] at H
                        have c21b0 : decide (x9_2 < (t164.length : Int)) = false := decide_eq_false c21
                        clear c21
                        obtain rfl := Option.some.inj H
                        go_wp2
                        go_ret
                        exact ⟨by first | rfl | (simp [errW_none, errW_some] <;> rfl) | (simp [*, errW_none, errW_some] <;> rfl), by repeat (first | (with_reducible first | exact HB.out | apply below_alloc | apply pw_below_drewN | apply below_drew1) | exact HB.out)⟩
          · rw [if_neg c9] at H
            exact absurd H (by simp)
        · rw [if_neg c8] at H
          exact absurd H (by simp)
      · rw [if_neg c7] at H
        have c7b0 : ((t164.length : Int) == (l0.length : Int)) = false := beq_eq_false_iff_ne.mpr c7
        have c7b1 : ((t164.length : Int) != (l0.length : Int)) = true := bne_iff_ne.mpr c7
        have c7b2 : (t164.length == l0.length) = false := by first | simpa using c7 | (simp at c7 ⊢; omega)
        obtain rfl := Option.some.inj H
        go_enter Try.func4, Try.ntmps4
        go_wp2_with (first | ((with_reducible refine gate_callee (f := 14) rfl ?_); refine goesL_ (some 12) rfl rfl Try.func14 (by kernel_rfl) rfl #[] rfl (by (try simp only [List.map_toArray, List.map_cons, List.map_nil]); first | done | rfl | (simp only [List.length_drop, List.length_take]; rfl)) ?_; (with_reducible refine (carlinglaw21_awake.calls  t162 _ A2.out).mono ?_); rintro e w48 ⟨rfl, hb⟩; refine ⟨_, rfl, ?_⟩; have n0_ := Aside0.mk (below_step (by repeat (first | (with_reducible first | exact HB.out | apply below_alloc | apply pw_below_drewN | apply below_drew1) | exact HB.out)) hb); clear HB; have HB := n0_; clear n0_; (try clear hb); (try clear hb2); (try clear hk); (try clear hi)) | ((with_reducible refine gate_callee (f := 15) rfl ?_); refine goesL_ (some 14) rfl rfl Try.func15 (by kernel_rfl) rfl #[.slice A0 l0.length c0] rfl (by (try simp only [List.map_toArray, List.map_cons, List.map_nil]); first | done | rfl | (simp only [List.length_drop, List.length_take]; rfl)) ?_; (with_reducible refine (carlingref21_Light.calls k _ _ l0 true _ ?side1 ?side2 A3.out).mono ?_); (case side1 => repeat (first | exact (Kd.C_below HR0.out HB.out) | (with_reducible refine Kd.C_alloc ?_ _) | (with_reducible refine Kd.C_drewN ?_ _) | (with_reducible refine Kd.C_drew ?_))); (case side2 => exact HC0.out); rintro e w' ⟨rfl, ⟨nd, rfl⟩⟩; refine ⟨_, rfl, ?_⟩) | ((with_reducible refine gate_callee (f := 16) rfl ?_); refine goesL_ (some 20) rfl rfl Try.func16 (by kernel_rfl) rfl #[.slice A0 l0.length c0] rfl (by (try simp only [List.map_toArray, List.map_cons, List.map_nil]); first | done | rfl | (simp only [List.length_drop, List.length_take]; rfl)) ?_; (with_reducible refine (graph_Order.calls _ _ l0 t164 t165 _ ?side1 ?side2 A5.out).mono ?_); (case side1 => repeat (first | exact (Kd.C_below HR0.out (by repeat (first | (with_reducible first | exact HB.out | apply below_alloc | apply pw_below_drewN | apply below_drew1) | exact HB.out))) | (with_reducible refine Kd.C_alloc ?_ _) | (with_reducible refine Kd.C_drewN ?_ _) | (with_reducible refine Kd.C_drew ?_))); (case side2 => exact HC0.out); rintro e w49 ⟨v166, rfl, ho0, hb⟩; refine ⟨_, rfl, ?_⟩; have n0_ := Aside0.mk (Kd.R_lower ho0 (below_size (by repeat (first | (with_reducible first | exact HB.out | apply below_alloc | apply pw_below_drewN | apply below_drew1) | exact HB.out)))); have n1_ := Aside0.mk (below_step (by repeat (first | (with_reducible first | exact HB.out | apply below_alloc | apply pw_below_drewN | apply below_drew1) | exact HB.out)) hb); clear HB; have HO167 := n0_; have HB := n1_; clear n0_ n1_; (try clear hb); (try clear hb2); (try clear hk); (try clear hi); (try clear ho0); obtain ⟨Ao50, co50, eo50⟩ := Kd.R_slice HO167.out; subst eo50))
        go_ret
        exact ⟨by first | rfl | (simp [errW_none, errW_some] <;> rfl) | (simp [*, errW_none, errW_some] <;> rfl), by repeat (first | (with_reducible first | exact HB.out | apply below_alloc | apply pw_below_drewN | apply below_drew1) | exact HB.out)⟩
    · rw [if_neg c6] at H
      have c6b0 : (t165 == 0) = false := beq_eq_false_iff_ne.mpr c6
      have c6b1 : (t165 != 0) = true := bne_iff_ne.mpr c6
      by_cases c51 : t162 = true
      · subst c51
        have H1 : (some ((t164.length : Int) == 0)) = some r := by rw [if_pos rfl] at H; exact H
        clear H
        have H := H1
        clear H1
        obtain rfl := Option.some.inj H
        go_enter Try.func4, Try.ntmps4
        go_wp2_with (first | ((with_reducible refine gate_callee (f := 14) rfl ?_); refine goesL_ (some 12) rfl rfl Try.func14 (by kernel_rfl) rfl #[] rfl (by (try simp only [List.map_toArray, List.map_cons, List.map_nil]); first | done | rfl | (simp only [List.length_drop, List.length_take]; rfl)) ?_; (with_reducible refine (carlinglaw21_awake.calls  true _ A2.out).mono ?_); rintro e w52 ⟨rfl, hb⟩; refine ⟨_, rfl, ?_⟩; have n0_ := Aside0.mk (below_step (by repeat (first | (with_reducible first | exact HB.out | apply below_alloc | apply pw_below_drewN | apply below_drew1) | exact HB.out)) hb); clear HB; have HB := n0_; clear n0_; (try clear hb); (try clear hb2); (try clear hk); (try clear hi)) | ((with_reducible refine gate_callee (f := 15) rfl ?_); refine goesL_ (some 14) rfl rfl Try.func15 (by kernel_rfl) rfl #[.slice A0 l0.length c0] rfl (by (try simp only [List.map_toArray, List.map_cons, List.map_nil]); first | done | rfl | (simp only [List.length_drop, List.length_take]; rfl)) ?_; (with_reducible refine (carlingref21_Light.calls k _ _ l0 true _ ?side1 ?side2 A3.out).mono ?_); (case side1 => repeat (first | exact (Kd.C_below HR0.out HB.out) | (with_reducible refine Kd.C_alloc ?_ _) | (with_reducible refine Kd.C_drewN ?_ _) | (with_reducible refine Kd.C_drew ?_))); (case side2 => exact HC0.out); rintro e w' ⟨rfl, ⟨nd, rfl⟩⟩; refine ⟨_, rfl, ?_⟩) | ((with_reducible refine gate_callee (f := 16) rfl ?_); refine goesL_ (some 20) rfl rfl Try.func16 (by kernel_rfl) rfl #[.slice A0 l0.length c0] rfl (by (try simp only [List.map_toArray, List.map_cons, List.map_nil]); first | done | rfl | (simp only [List.length_drop, List.length_take]; rfl)) ?_; (with_reducible refine (graph_Order.calls _ _ l0 t164 t165 _ ?side1 ?side2 A5.out).mono ?_); (case side1 => repeat (first | exact (Kd.C_below HR0.out (by repeat (first | (with_reducible first | exact HB.out | apply below_alloc | apply pw_below_drewN | apply below_drew1) | exact HB.out))) | (with_reducible refine Kd.C_alloc ?_ _) | (with_reducible refine Kd.C_drewN ?_ _) | (with_reducible refine Kd.C_drew ?_))); (case side2 => exact HC0.out); rintro e w53 ⟨v166, rfl, ho0, hb⟩; refine ⟨_, rfl, ?_⟩; have n0_ := Aside0.mk (Kd.R_lower ho0 (below_size (by repeat (first | (with_reducible first | exact HB.out | apply below_alloc | apply pw_below_drewN | apply below_drew1) | exact HB.out)))); have n1_ := Aside0.mk (below_step (by repeat (first | (with_reducible first | exact HB.out | apply below_alloc | apply pw_below_drewN | apply below_drew1) | exact HB.out)) hb); clear HB; have HO167 := n0_; have HB := n1_; clear n0_ n1_; (try clear hb); (try clear hb2); (try clear hk); (try clear hi); (try clear ho0); obtain ⟨Ao54, co54, eo54⟩ := Kd.R_slice HO167.out; subst eo54))
        go_ret
        exact ⟨by first | rfl | (simp [errW_none, errW_some] <;> rfl) | (simp [*, errW_none, errW_some] <;> rfl), by repeat (first | (with_reducible first | exact HB.out | apply below_alloc | apply pw_below_drewN | apply below_drew1) | exact HB.out)⟩
      · replace c51 := Bool.eq_false_iff.mpr c51
        subst c51
        have H1 : (some false) = some r := by rw [if_neg (show ¬ (false = true) by decide)] at H; exact H
        clear H
        have H := H1
        clear H1
        obtain rfl := Option.some.inj H
        go_enter Try.func4, Try.ntmps4
        go_wp2_with (first | ((with_reducible refine gate_callee (f := 14) rfl ?_); refine goesL_ (some 12) rfl rfl Try.func14 (by kernel_rfl) rfl #[] rfl (by (try simp only [List.map_toArray, List.map_cons, List.map_nil]); first | done | rfl | (simp only [List.length_drop, List.length_take]; rfl)) ?_; (with_reducible refine (carlinglaw21_awake.calls  false _ A2.out).mono ?_); rintro e w55 ⟨rfl, hb⟩; refine ⟨_, rfl, ?_⟩; have n0_ := Aside0.mk (below_step (by repeat (first | (with_reducible first | exact HB.out | apply below_alloc | apply pw_below_drewN | apply below_drew1) | exact HB.out)) hb); clear HB; have HB := n0_; clear n0_; (try clear hb); (try clear hb2); (try clear hk); (try clear hi)) | ((with_reducible refine gate_callee (f := 15) rfl ?_); refine goesL_ (some 14) rfl rfl Try.func15 (by kernel_rfl) rfl #[.slice A0 l0.length c0] rfl (by (try simp only [List.map_toArray, List.map_cons, List.map_nil]); first | done | rfl | (simp only [List.length_drop, List.length_take]; rfl)) ?_; (with_reducible refine (carlingref21_Light.calls k _ _ l0 true _ ?side1 ?side2 A3.out).mono ?_); (case side1 => repeat (first | exact (Kd.C_below HR0.out HB.out) | (with_reducible refine Kd.C_alloc ?_ _) | (with_reducible refine Kd.C_drewN ?_ _) | (with_reducible refine Kd.C_drew ?_))); (case side2 => exact HC0.out); rintro e w' ⟨rfl, ⟨nd, rfl⟩⟩; refine ⟨_, rfl, ?_⟩) | ((with_reducible refine gate_callee (f := 16) rfl ?_); refine goesL_ (some 20) rfl rfl Try.func16 (by kernel_rfl) rfl #[.slice A0 l0.length c0] rfl (by (try simp only [List.map_toArray, List.map_cons, List.map_nil]); first | done | rfl | (simp only [List.length_drop, List.length_take]; rfl)) ?_; (with_reducible refine (graph_Order.calls _ _ l0 t164 t165 _ ?side1 ?side2 A5.out).mono ?_); (case side1 => repeat (first | exact (Kd.C_below HR0.out (by repeat (first | (with_reducible first | exact HB.out | apply below_alloc | apply pw_below_drewN | apply below_drew1) | exact HB.out))) | (with_reducible refine Kd.C_alloc ?_ _) | (with_reducible refine Kd.C_drewN ?_ _) | (with_reducible refine Kd.C_drew ?_))); (case side2 => exact HC0.out); rintro e w56 ⟨v166, rfl, ho0, hb⟩; refine ⟨_, rfl, ?_⟩; have n0_ := Aside0.mk (Kd.R_lower ho0 (below_size (by repeat (first | (with_reducible first | exact HB.out | apply below_alloc | apply pw_below_drewN | apply below_drew1) | exact HB.out)))); have n1_ := Aside0.mk (below_step (by repeat (first | (with_reducible first | exact HB.out | apply below_alloc | apply pw_below_drewN | apply below_drew1) | exact HB.out)) hb); clear HB; have HO167 := n0_; have HB := n1_; clear n0_ n1_; (try clear hb); (try clear hb2); (try clear hk); (try clear hi); (try clear ho0)))
        go_ret
        exact ⟨by first | rfl | (simp [errW_none, errW_some] <;> rfl) | (simp [*, errW_none, errW_some] <;> rfl), by repeat (first | (with_reducible first | exact HB.out | apply below_alloc | apply pw_below_drewN | apply below_drew1) | exact HB.out)⟩
  · replace c4 := Bool.eq_false_iff.mpr c4
    subst c4
    have H1 : (some t162) = some r := by rw [if_neg (show ¬ (false = true) by decide)] at H; exact H
    clear H
    have H := H1
    clear H1
    obtain rfl := Option.some.inj H
    go_enter Try.func4, Try.ntmps4
    go_wp2_with (first | ((with_reducible refine gate_callee (f := 14) rfl ?_); refine goesL_ (some 12) rfl rfl Try.func14 (by kernel_rfl) rfl #[] rfl (by (try simp only [List.map_toArray, List.map_cons, List.map_nil]); first | done | rfl | (simp only [List.length_drop, List.length_take]; rfl)) ?_; (with_reducible refine (carlinglaw21_awake.calls  t162 _ A2.out).mono ?_); rintro e w57 ⟨rfl, hb⟩; refine ⟨_, rfl, ?_⟩; have n0_ := Aside0.mk (below_step (by repeat (first | (with_reducible first | exact HB.out | apply below_alloc | apply pw_below_drewN | apply below_drew1) | exact HB.out)) hb); clear HB; have HB := n0_; clear n0_; (try clear hb); (try clear hb2); (try clear hk); (try clear hi)) | ((with_reducible refine gate_callee (f := 15) rfl ?_); refine goesL_ (some 14) rfl rfl Try.func15 (by kernel_rfl) rfl #[.slice A0 l0.length c0] rfl (by (try simp only [List.map_toArray, List.map_cons, List.map_nil]); first | done | rfl | (simp only [List.length_drop, List.length_take]; rfl)) ?_; (with_reducible refine (carlingref21_Light.calls k _ _ l0 false _ ?side1 ?side2 A3.out).mono ?_); (case side1 => repeat (first | exact (Kd.C_below HR0.out HB.out) | (with_reducible refine Kd.C_alloc ?_ _) | (with_reducible refine Kd.C_drewN ?_ _) | (with_reducible refine Kd.C_drew ?_))); (case side2 => exact HC0.out); rintro e w' ⟨rfl, ⟨nd, rfl⟩⟩; refine ⟨_, rfl, ?_⟩))
    go_ret
    exact ⟨by first | rfl | (simp [errW_none, errW_some] <;> rfl) | (simp [*, errW_none, errW_some] <;> rfl), by repeat (first | (with_reducible first | exact HB.out | apply below_alloc | apply pw_below_drewN | apply below_drew1) | exact HB.out)⟩

end Go.Proofs.Ytgjlgdohlmpnbaa.P
